/-
  Contracts of a network that is none; may; New.
-/
import Derived.Test.YtblnmghbcgbgdaaNetMap
import Derived.Deep.QuietTactic
import Derived.BigQuiet
import Derived.BigRegion
import Derived.Deep.RegionHeld3
import Derived.Outline
namespace Go.Proofs.Ytblnmghbcgbgdaa
open Go.RowKit
set_option linter.unusedVariables false

def pkV (a b : Int) (s : ByteArray) : Value := .agg #[.int .i64 a, .int .i64 b, .string s]
theorem len_nil (w : World) : Calls Try.prog 10 #[.pointer none] w fun e w' => e = .returned (.int .i64 0) ∧ w = w' := by
  go_enter Try.func10, Try.ntmps10
  go_wp2
  go_ret
  exact ⟨rfl, rfl⟩
theorem lost_nil (w : World) : Calls Try.prog 18 #[.pointer none] w fun e w' => e = .returned (.int .i64 0) ∧ w = w' := by
  go_enter Try.func18, Try.ntmps18
  go_wp2
  go_ret
  exact ⟨rfl, rfl⟩
theorem between_nil (a b : Int) (w : World) : Calls Try.prog 11 #[.pointer none, .int .i64 a, .int .i64 b] w fun e w' => e = .returned (.int .i64 0) ∧ w = w' := by
  go_enter Try.func11, Try.ntmps11
  go_wp2
  go_ret
  exact ⟨rfl, rfl⟩
theorem with_nil (i : Int) (v : Value) (w : World) : Calls Try.prog 20 #[.pointer none, .int .i64 i, v] w fun e w' => e = .returned (.bool false) ∧ Fr noneOf w w' := by
  by_cases h : i < 0
  · go_enter Try.func20, Try.ntmps20
    go_wp2
    go_ret
    exact ⟨rfl, by repeat (first | exact Fr.refl _ _ | apply Fr.drewN | apply Fr.drew)⟩
  · have h0 : 0 ≤ i := by omega
    go_enter Try.func20, Try.ntmps20
    go_wp2_with (go_at_call 10; refine (len_nil _).mono ?_; rintro e w' ⟨rfl, rfl⟩)
    go_ret
    exact ⟨rfl, by repeat (first | exact Fr.refl _ _ | apply Fr.drewN | apply Fr.drew)⟩
theorem send_nil (a b : Int) (s : ByteArray) (w : World) : Calls Try.prog 8 #[.pointer none, .agg #[.int .i64 a, .int .i64 b, .string s]] w fun e w' => e = .returned (.bool false) ∧ Fr noneOf w w' := by
  go_enter Try.func8, Try.ntmps8
  go_wp2
  go_ret
  exact ⟨rfl, by repeat (first | exact Fr.refl _ _ | apply Fr.alloc | apply Fr.drewN | apply Fr.drew)⟩
theorem take_nil (i : Int) (w : World) : Calls Try.prog 9 #[.pointer none, .int .i64 i] w fun e w' => e = .returned (.tuple #[.agg #[.int .i64 0, .int .i64 0, .string ⟨#[]⟩], .bool false]) ∧ Fr noneOf w w' := by
  have h4 := Blk.new ((w.alloc (.cells #[.pointer none] 23)).alloc (.cells #[.int .i64 i] 3)) 27 #[.int .i64 0, .int .i64 0, .string ⟨#[]⟩]
  rw [show ((w.alloc (.cells #[.pointer none] 23)).alloc (.cells #[.int .i64 i] 3)).heap.size = w.heap.size + 1 + 1 by simp] at h4
  have H4 := Lib.hid h4
  clear h4
  go_enter Try.func9, Try.ntmps9
  go_wp2_with (go_at_call 20; refine (with_nil _ _ _).mono ?_; rintro e w1 ⟨rfl, hf1⟩; have HB := Lib.hid (H4.out.fr0 hf1); have d0 : w1.cell? ⟨w.heap.size + 1 + 1, 0, none⟩ = some (.int .i64 0) := HB.out.cell 0; have d1 : w1.cell? ⟨w.heap.size + 1 + 1, 1, none⟩ = some (.int .i64 0) := HB.out.cell 1; have d2 : w1.cell? ⟨w.heap.size + 1 + 1, 2, none⟩ = some (.string ⟨#[]⟩) := HB.out.cell 2; have e0 := HB.out.frozen 0; have e1 := HB.out.frozen 1; have e2 := HB.out.frozen 2)
  have E := Lib.hid (((HB.out.set_ 0 (.int .i64 0)).set_ 1 (.int .i64 0)).set_ 2 (.string ⟨#[]⟩))
  have E0 := E.out.cell 0
  have E1 := E.out.cell 1
  have E2 := E.out.cell 2
  refine bodyPost_ret (v := .tuple #[.agg #[.int .i64 0, .int .i64 0, .string ⟨#[]⟩], .bool false]) (by simp [results, Try.results9, go_sem, E0, E1, E2]) rfl ⟨rfl, ?_⟩
  exact ((((((Fr.refl noneOf w).alloc _).alloc _).alloc _).trans hf1).setCell (p := ⟨w.heap.size + 1 + 1, 0, none⟩) (.inr (by show w.heap.size ≤ w.heap.size + 1 + 1; omega)) _ |>.setCell (p := ⟨w.heap.size + 1 + 1, 1, none⟩) (.inr (by show w.heap.size ≤ w.heap.size + 1 + 1; omega)) _).setCell (p := ⟨w.heap.size + 1 + 1, 2, none⟩) (.inr (by show w.heap.size ≤ w.heap.size + 1 + 1; omega)) _
theorem copy_nil (i : Int) (w : World) : Calls Try.prog 13 #[.pointer none, .int .i64 i] w fun e w' => e = .returned (.bool false) ∧ Fr noneOf w w' := by
  go_enter Try.func13, Try.ntmps13
  go_wp2_with (go_at_call 20; refine (with_nil _ _ _).mono ?_; rintro e w1 ⟨rfl, hf1⟩)
  go_ret
  exact ⟨rfl, ((Fr.refl noneOf w).alloc _).trans hf1⟩
theorem drop_nil (i : Int) (w : World) : Calls Try.prog 12 #[.pointer none, .int .i64 i] w fun e w' => e = .returned (.bool false) ∧ Fr noneOf w w' := by
  go_enter Try.func12, Try.ntmps12
  go_wp2_with (go_at_call 9; refine (take_nil _ _).mono ?_; rintro e w1 ⟨rfl, hf1⟩)
  go_ret
  exact ⟨rfl, by first | exact hf1 | exact hf1.alloc _ | (repeat (first | exact hf1 | apply Fr.alloc | (refine Fr.setCell ?_ (.inr (by simp; have := hf1.size; omega)) _)))⟩
theorem spoil_nil (i at' : Int) (b0 b1 b2 b3 : Int) (w : World) : Calls Try.prog 17 #[.pointer none, .int .i64 i, .int .i64 at', .agg #[.int .u8 b0, .int .u8 b1, .int .u8 b2, .int .u8 b3]] w fun e w' => e = .returned (.bool false) ∧ Fr noneOf w w' := by
  go_enter Try.func17, Try.ntmps17
  go_wp2_with (go_at_call 20; refine (with_nil _ _ _).mono ?_; rintro e w1 ⟨rfl, hf1⟩)
  go_ret
  exact ⟨rfl, (((Fr.refl noneOf w).alloc _).alloc _).trans hf1⟩
/-- May it be. -/
def mayBe (a b n : Int) : Bool := decide (0 ≤ min a b) && decide (max a b ≤ 15) && !(a == b) && decide (n ≤ 4100)
theorem may_any (a b : Int) (s : ByteArray) (w : World) (hs : s.size ≤ 9223372036854775807) : Calls Try.prog 19 #[.agg #[.int .i64 a, .int .i64 b, .string s]] w fun e w' => e = .returned (.bool (mayBe a b s.size)) ∧ Fr noneOf w w' := by
  have key : (¬ 0 ≤ min a b ∧ mayBe a b s.size = false) ∨ (0 ≤ min a b ∧ ¬ max a b ≤ 15 ∧ mayBe a b s.size = false) ∨ (0 ≤ min a b ∧ max a b ≤ 15 ∧ (a != b) = false ∧ mayBe a b s.size = false) ∨ (0 ≤ min a b ∧ max a b ≤ 15 ∧ (a != b) = true ∧ ¬ (s.size : Int) ≤ 4100 ∧ mayBe a b s.size = false) ∨ (0 ≤ min a b ∧ max a b ≤ 15 ∧ (a != b) = true ∧ (s.size : Int) ≤ 4100 ∧ mayBe a b s.size = true) := by
    by_cases h1 : 0 ≤ min a b
    · by_cases h2 : max a b ≤ 15
      · cases h3 : a == b
        · by_cases h4 : (s.size : Int) ≤ 4100
          · exact .inr (.inr (.inr (.inr ⟨h1, h2, by rw [bne, h3]; rfl, h4, by simp only [mayBe, h1, h2, h3, h4]; rfl⟩)))
          · exact .inr (.inr (.inr (.inl ⟨h1, h2, by rw [bne, h3]; rfl, h4, by simp only [mayBe, h1, h2, h3, h4]; rfl⟩)))
        · exact .inr (.inr (.inl ⟨h1, h2, by rw [bne, h3]; rfl, by simp only [mayBe, h1, h2, h3]; rfl⟩))
      · exact .inr (.inl ⟨h1, h2, by simp only [mayBe, h1, h2]; rfl⟩)
    · exact .inl ⟨h1, by simp only [mayBe, h1]; rfl⟩
  have K := Lib.hid key
  clear key hs
  obtain ⟨x, hx⟩ : ∃ x, x = mayBe a b s.size := ⟨_, rfl⟩
  rw [← hx] at K ⊢
  clear hx
  rcases K.out with ⟨h1, rfl⟩ | ⟨h1, h2, rfl⟩ | ⟨h1, h2, h3, rfl⟩ | ⟨h1, h2, h3, h4, rfl⟩ | ⟨h1, h2, h3, h4, rfl⟩
  all_goals
    clear K
    go_enter Try.func19, Try.ntmps19
    go_wp2
    all_goals
      go_ret
      exact ⟨rfl, by repeat (first | exact Fr.refl _ _ | apply Fr.alloc | apply Fr.drewN | apply Fr.drew)⟩
end Go.Proofs.Ytblnmghbcgbgdaa
