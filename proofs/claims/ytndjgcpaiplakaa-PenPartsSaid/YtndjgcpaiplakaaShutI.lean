/-
  An argument that is a slice of ints, opened to the numbers that it holds; an unsigned word.
  Conditions: none.
-/
import Derived.Test.YtndjgcpaiplakaaShut
namespace Go.Proofs.Ytndjgcpaiplakaa
open Go.ChangeShapes Go.WideShapes Go.ChangeAt Go.RowKit
set_option linter.unusedVariables false

/-- A row of numbers that the call may read: from block g, place o on. -/
def NumsAt (w : World) (A : Option Addr) (l : List Int) : Prop :=
  (∀ n ∈ l, -9223372036854775808 ≤ n ∧ n ≤ 9223372036854775807) ∧ (l ≠ [] → ∃ g o, A = some ⟨g, o, none⟩ ∧ g < w.heap.size ∧ ∀ j n, l[j]? = some n → w.cell? ⟨g, o + j, none⟩ = some (.int .i64 n))
theorem NumsAt.fr {w w' : World} {A : Option Addr} {l : List Int} (h : NumsAt w A l) (hf : Fr noneOf w w') : NumsAt w' A l :=
  ⟨h.1, fun hl => by
    obtain ⟨g, o, e, hg, hc⟩ := h.2 hl
    exact ⟨g, o, e, Nat.lt_of_lt_of_le hg hf.size, fun j n hj => (hf.cell (p := ⟨g, o + j, none⟩) hg (fun x => x)).trans (hc j n hj)⟩⟩
theorem NumsAt.frS {S : Nat → Prop} {w w' : World} {A : Option Addr} {l : List Int} (h : NumsAt w A l) (hf : Fr S w w') (hs : ∀ g, g < w.heap.size → ¬ S g) : NumsAt w' A l :=
  ⟨h.1, fun hl => by
    obtain ⟨g, o, e, hg, hc⟩ := h.2 hl
    exact ⟨g, o, e, Nat.lt_of_lt_of_le hg hf.size, fun j n hj => (hf.cell (p := ⟨g, o + j, none⟩) hg (hs g hg)).trans (hc j n hj)⟩⟩
theorem NumsAt.nil {w : World} {A : Option Addr} : NumsAt w A [] := ⟨fun _ h => by simp at h, fun h => absurd rfl h⟩
theorem NumsAt.at_ {w : World} {A : Option Addr} {l : List Int} (h : NumsAt w A l) (hl : 0 < l.length) : ∃ g o, A = some ⟨g, o, none⟩ ∧ g < w.heap.size ∧ ∀ j n, l[j]? = some n → w.cell? ⟨g, o + j, none⟩ = some (.int .i64 n) := h.2 (fun e => by rw [e] at hl; simp at hl)

theorem addr_add (g o j : Nat) : (⟨g, o, none⟩ : Addr).add j = ⟨g, o + j, none⟩ := by unfold Addr.add; split <;> simp_all
theorem wf_u64 {n : Int} (h : (Lit.int .u64 n).wf = true) : 0 ≤ n ∧ n ≤ 18446744073709551615 := by
  simpa [Lit.wf, IntKind.min, IntKind.max, IntKind.signed, IntKind.bits] using h

theorem open_nums {H : Type} {enc : TypeId × Value → H} {P : Program} {W : World} {base b0 : Nat} {sp : Nat → Bool} {held : Bool} {r : Reach} {t e : TypeId} {v : Value} {d : DataW H} {ps : List MemPlace} (ht : P.underlying t = some (.slice e)) (he : P.underlying e = some (.int .i64)) (hce : P.cellsOf e = 1)
    (hval : Value.okWide P W r b0 t v) (h : DataW.Trod enc P W base sp held t v d ps) : ∃ (A : Option Addr) (c : Nat) (l : List Int), v = .slice A l.length c ∧ NumsAt W A l ∧ l.length ≤ c ∧ c ≤ 9223372036854775807 ∧ (A = none → c = 0) := by
  obtain ⟨a0, len, cap, rfl⟩ := okWide_slice ht hval
  obtain ⟨fuel, hf⟩ := h
  rcases open_ints ht he hce hf with ⟨hcs, _⟩ | ⟨a, len', cap', zs, hcs, _, hl, hm, hz, _, hcell, hwf⟩
  · simp [Value.cells] at hcs
    obtain ⟨rfl, rfl, rfl⟩ := hcs
    exact ⟨none, 0, [], rfl, NumsAt.nil, by simp, by simp, fun _ => rfl⟩
  · simp [Value.cells] at hcs
    obtain ⟨rfl, rfl, rfl⟩ := hcs
    have hzl : len ≤ zs.length := by rw [hz]; split <;> omega
    have hll : (zs.take len).length = len := by simp; omega
    refine ⟨some a, cap, zs.take len, by rw [hll], ⟨fun n hn => wf_int (hwf n (List.mem_of_mem_take hn)), fun hne => ?_⟩, by omega, by unfold maxLen at hm; omega, fun h => (by cases h)⟩
    have hpos : 0 < len := by
      rcases Nat.eq_zero_or_pos len with h0 | h0
      · subst h0; simp at hne
      · exact h0
    have h0 := hcell 0 (by omega)
    have ha : a = ⟨a.block, a.off, none⟩ := by
      have hs : a.spot = none := by
        cases hsp : a.spot with
        | none => rfl
        | some x =>
          have hadd : a.add 0 = a := rfl
          rw [hadd] at h0
          unfold World.cell? at h0
          simp [hsp] at h0
          split at h0 <;> simp_all
      cases a
      simp at hs
      subst hs
      rfl
    refine ⟨a.block, a.off, by rw [← ha], ?_, fun j n hj => ?_⟩
    · have := World.block_lt_of_cell? _ _ h0
      exact this
    · have hjl : j < len := by
        have := (List.getElem?_eq_some_iff.1 hj).1
        omega
      have hc := hcell j (by omega)
      have hadd : a.add j = ⟨a.block, a.off + j, none⟩ := by
        rw [ha]; exact addr_add _ _ _
      rw [hadd] at hc
      rw [hc]
      rw [List.getElem?_take, if_pos hjl] at hj
      simp [List.getD, hj]
end Go.Proofs.Ytndjgcpaiplakaa
