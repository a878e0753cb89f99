/-
  Contracts: slices.Clone of hands, and Table.List.
-/
import Derived.Test.YtmopieejfbiedaaTable
namespace Go.Proofs.Ytmopieejfbiedaa
open Go.RowKit
set_option linter.unusedVariables false
attribute [local go_sem ↓] Go.wp_at_zero Go.wp_at_succ

theorem handsV_at : ∀ {l : List (Int × Int)} {j : Nat} {h : Int × Int}, l[j]? = some h → (handsV l)[j * 2]? = some (.int .i64 h.1) ∧ (handsV l)[j * 2 + 1]? = some (.int .i64 h.2)
  | [], j, h, e => by simp at e
  | x :: l, 0, h, e => by
    simp at e
    subst e
    exact ⟨rfl, rfl⟩
  | x :: l, j + 1, h, e => by
    have := handsV_at (l := l) (j := j) (h := h) (by simpa using e)
    have e2 : (j + 1) * 2 = j * 2 + 1 + 1 := by omega
    have hv : handsV (x :: l) = .int .i64 x.1 :: .int .i64 x.2 :: handsV l := rfl
    rw [hv, e2]
    exact ⟨by simpa using this.1, by simpa using this.2⟩
theorem handsV_one (L : List (Int × Int)) : ∀ u ∈ handsV L, u.oneCell' = true := by
  intro u hu
  simp only [handsV, List.mem_flatMap] at hu
  obtain ⟨h, _, hu⟩ := hu
  simp [handV] at hu
  rcases hu with rfl | rfl <;> rfl
theorem eq_nil (w : World) : (binOp .eql 35 (.slice none 0 0) (.slice none 0 0)).run Try.prog w = .ok (.bool true) w := by kernel_rfl
theorem eq_some (a : Addr) (n c : Nat) (w : World) : (binOp .eql 35 (.slice (some a) n c) (.slice none 0 0)).run Try.prog w = .ok (.bool false) w := by kernel_rfl
theorem clone_any (A : Option Addr) (c : Nat) (L : List (Int × Int)) (w : World) (hs : Sl w A L.length 2 (handsV L)) (hz : A = none → c = 0) (hl : L.length ≤ 1000) :
    Calls Try.prog 21 #[.slice A L.length c] w fun e w' => ∃ A' c', e = .returned (.slice A' L.length c') ∧ Sl w' A' L.length 2 (handsV L) ∧ Fr noneOf w w' ∧ (A' = none → c' = 0) ∧ L.length ≤ c' := by
  obtain ⟨i0, hi, hz0, hz1, hz2⟩ := info_parts hand_info
  have HS := Lib.hid hs
  have HZ := Lib.hid hz
  clear hs hz
  have hown0 : (w.alloc (.cells #[] 27)).ownsRow w.heap.size 27 2 (.slice (some ⟨w.heap.size, 0, none⟩) 0 0) 0 [] := World.ownsRow_lit w #[] 0 (Nat.le_refl _) (by decide) rfl
  cases A with
  | none =>
    have h0 := HZ.out rfl
    subst h0
    have hn : L.length = 0 := by
      rcases Nat.eq_zero_or_pos L.length with h | h
      · exact h
      · obtain ⟨g, o, e, _⟩ := HS.out.2 h
        cases e
    rw [hn] at HS ⊢
    have HN := Lib.hid hn
    clear hn
    have he := eq_nil w
    go_enter Try.func21, Try.ntmps21
    go_wp2
    go_ret
    refine ⟨none, 0, rfl, HS.out, Fr.refl _ _, ?_⟩
    first | exact fun _ => rfl | exact ⟨fun _ => rfl, Nat.le_refl _⟩
  | some a =>
    have he := eq_some a L.length c w
    have hb0 : w.heap.size ≤ (w.alloc (.cells #[] 27)).heap.size := by simp
    go_enter Try.func21, Try.ntmps21
    go_wp2_with (at_builtin; refine wpList_append_sl rfl (.tmp 5) (.tmp 6) 35 rfl w.heap.size 27 i0 (.agg #[.int .i64 0, .int .i64 0]) 2 16 Try.underlying35 hi hz0 hz1 hz2 rfl (by decide) _ 0 [] rfl hown0 _ _ _ (handsV L) rfl (HS.out.fr ((Fr.refl _ _).alloc _)) (handsV_one L) HZ.out (by unfold maxLen; omega) (by omega) hb0 ?_; intro v1 w2 hown1 hg1 hat1; simp only [Nat.zero_add, List.nil_append] at hown1)
    obtain ⟨A', c', rfl, hc', hz', _⟩ := row_form hown1
    have hf : Fr noneOf w w2 := Fr.grown ((Fr.refl _ _).alloc _) hg1 (fun g hg => (hown0.lt g hg).1)
    go_ret
    exact ⟨A', c', rfl, Sl.of_row hown1, hf, hz', hc'⟩
theorem list_is (b room : Nat) (L : List (Int × Int)) (most : List Int) (w : World) (h : Tab room L most b w) (hlen0 : L.length ≤ 1000) : Calls Try.prog 13 #[.pointer (some ⟨b, 0, none⟩)] w fun e w' => ∃ A' c', e = .returned (.slice A' L.length c') ∧ Sl w' A' L.length 2 (handsV L) ∧ Fr noneOf w w' ∧ (A' = none → c' = 0) ∧ L.length ≤ c' := by
  have hbw := h.lt
  obtain ⟨A, c, hb, hs, hc1, hc2, hc3, hc4, hc5⟩ := h
  have c1 : w.cell? ⟨b, 1, none⟩ = some (.slice A L.length c) := (hb.cell 1).trans rfl
  have hlen : Hid (L.length ≤ 1000) := Lib.hid hlen0
  have HS := Lib.hid hs
  have HZ := Lib.hid hc2
  clear hb hs hc1 hc2 hc3 hc4 hc5
  go_enter Try.func13, Try.ntmps13
  go_wp2_with (go_at_call 21; refine (clone_any A c L _ HS.out HZ.out hlen.out).mono ?_; rintro e w' ⟨A', c', rfl, h1, h2, h3, h4⟩)
  go_ret
  exact ⟨A', c', rfl, h1, h2, h3, h4⟩
end Go.Proofs.Ytmopieejfbiedaa
