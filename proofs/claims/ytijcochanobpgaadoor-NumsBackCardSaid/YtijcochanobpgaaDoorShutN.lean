/-
  An argument that is a slice of ints, opened to the numbers that it holds.
  Conditions: none.
-/
import Derived.Test.YtijcochanobpgaaDoorShut
import Derived.Test.YtijcochanobpgaaDoorNums
namespace Go.Proofs.YtijcochanobpgaaDoor
open Go.ChangeShapes Go.WideShapes Go.ChangeAt Go.RowKit
set_option linter.unusedVariables false

theorem open_nums {H : Type} {enc : TypeId × Value → H} {P : Program} {W : World} {base b0 : Nat} {sp : Nat → Bool} {held : Bool} {r : Reach} {t e : TypeId} {v : Value} {d : DataW H} {ps : List MemPlace} (ht : P.underlying t = some (.slice e)) (he : P.underlying e = some (.int .i64)) (hce : P.cellsOf e = 1)
    (hval : Value.okWide P W r b0 t v) (h : DataW.Trod enc P W base sp held t v d ps) : ∃ (A : Option Addr) (c : Nat) (l : List Int), v = .slice A l.length c ∧ NumsAt W A l ∧ l.length ≤ c ∧ c ≤ 9223372036854775807 ∧ (A = none → c = 0) := by
  obtain ⟨a0, len, cap, rfl⟩ := okWide_slice ht hval
  obtain ⟨fuel, hf⟩ := h
  rcases open_ints ht he hce hf with ⟨hcs, _⟩ | ⟨a, len', cap', zs, hcs, _, hl, hm, hz, _, hcell, hwf⟩
  · simp [Value.cells] at hcs
    obtain ⟨rfl, rfl, rfl⟩ := hcs
    exact ⟨none, 0, [], rfl, NumsAt.nil, by simp, by simp, fun _ => rfl⟩
  · simp [Value.cells] at hcs
    obtain ⟨rfl, rfl, rfl⟩ := hcs
    have hzl : len ≤ zs.length := by rw [hz]; split <;> omega
    have hll : (zs.take len).length = len := by simp; omega
    refine ⟨some a, cap, zs.take len, by rw [hll], ⟨fun n hn => wf_int (hwf n (List.mem_of_mem_take hn)), fun hne => ?_⟩, by omega, by unfold maxLen at hm; omega, fun h => (by cases h)⟩
    have hpos : 0 < len := by
      rcases Nat.eq_zero_or_pos len with h0 | h0
      · subst h0; simp at hne
      · exact h0
    have h0 := hcell 0 (by omega)
    have ha : a = ⟨a.block, a.off, none⟩ := by
      have hs : a.spot = none := by
        cases hsp : a.spot with
        | none => rfl
        | some x =>
          have hadd : a.add 0 = a := rfl
          rw [hadd] at h0
          unfold World.cell? at h0
          simp [hsp] at h0
          split at h0 <;> simp_all
      cases a
      simp at hs
      subst hs
      rfl
    refine ⟨a.block, a.off, by rw [← ha], ?_, fun j n hj => ?_⟩
    · have := World.block_lt_of_cell? _ _ h0
      exact this
    · have hjl : j < len := by
        have := (List.getElem?_eq_some_iff.1 hj).1
        omega
      have hc := hcell j (by omega)
      have hadd : a.add j = ⟨a.block, a.off + j, none⟩ := by
        rw [ha]; exact add_plain _ _ _
      rw [hadd] at hc
      rw [hc]
      rw [List.getElem?_take, if_pos hjl] at hj
      simp [List.getD, hj]
end Go.Proofs.YtijcochanobpgaaDoor
