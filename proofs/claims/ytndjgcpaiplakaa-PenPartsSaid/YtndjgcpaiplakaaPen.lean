/-
  Contracts of package pen: colour, tens, codes, one, Colour.
-/
import Derived.Test.YtndjgcpaiplakaaPenP
import Derived.Test.YtndjgcpaiplakaaChecked
import Derived.BigQuiet
import Derived.BigRegion
import Derived.Outline
namespace Go.Proofs.Ytndjgcpaiplakaa
open Go.RowKit
set_option linter.unusedVariables false

theorem colour_any (n : Int) (w : World) : Calls Try.prog 13 #[.int .i64 n] w fun e w' => e = .returned (.int .u8 (colP n)) ∧ w = w' := by
  by_cases h : n < 1
  · go_enter Try.func13, Try.ntmps13
    go_wp2
    go_ret
    exact ⟨by unfold colP; first | rw [show max n 1 = 1 by omega]; rfl | rw [show max n 1 = n by omega]; rfl, rfl⟩
  · go_enter Try.func13, Try.ntmps13
    go_wp2
    go_ret
    exact ⟨by unfold colP; first | rw [show max n 1 = 1 by omega]; rfl | rw [show max n 1 = n by omega]; rfl, rfl⟩
theorem codes_any (w : World) : Calls Try.prog 15 #[] w fun e w' => e = .returned (.agg #[.int .i64 1, .int .i64 2, .int .i64 3, .int .i64 4, .int .i64 5, .int .i64 7]) ∧ Fr noneOf w w' := by
  go_enter Try.func15, Try.ntmps15
  go_wp2
  exact bodyPost_ret (v := .agg #[.int .i64 1, .int .i64 2, .int .i64 3, .int .i64 4, .int .i64 5, .int .i64 7]) (by simp [results, Try.results15, go_sem]) rfl ⟨rfl, by repeat (first | exact Fr.refl _ _ | apply Fr.drew | apply Fr.alloc)⟩
theorem tens_any (c : Pn) (n : Int) (w : World) (h0 : -1000000 ≤ n) (h1 : n ≤ 1000000) : Calls Try.prog 16 #[penV c, .int .i64 n] w fun e w' => e = .returned (penV (tensP c n)) ∧ Fr noneOf w w' := by
  obtain ⟨r, f, b, a⟩ := c
  have hc : n < 30 ∨ (30 ≤ n ∧ n ≤ 37) ∨ (37 < n ∧ n < 40) ∨ (40 ≤ n ∧ n ≤ 47) ∨ (47 < n ∧ n < 90) ∨ (90 ≤ n ∧ n ≤ 97) ∨ (97 < n ∧ n < 100) ∨ (100 ≤ n ∧ n ≤ 107) ∨ 107 < n := by omega
  rcases hc with h | ⟨h, h'⟩ | ⟨h, h'⟩ | ⟨h, h'⟩ | ⟨h, h'⟩ | ⟨h, h'⟩ | ⟨h, h'⟩ | ⟨h, h'⟩ | h
  all_goals
    obtain ⟨z, hz⟩ : ∃ z, z = tensP ⟨r, f, b, a⟩ n := ⟨_, rfl⟩
    rw [← hz]
    unfold tensP at hz
    repeat (first | rw [if_pos (by omega)] at hz | rw [if_neg (by omega)] at hz)
    subst hz
    unfold penV
    go_enter Try.func16, Try.ntmps16
    go_wp2_with (go_at_call 13; refine (colour_any _ _).mono ?_; rintro e w1 ⟨rfl, rfl⟩)
    exact bodyPost_ret (v := .agg #[.int .i32 _, .int .u8 _, .int .u8 _, .int .u8 _]) (by simp [results, Try.results16, go_sem]) rfl ⟨rfl, by repeat (first | exact Fr.refl _ _ | apply Fr.drew | apply Fr.alloc)⟩
end Go.Proofs.Ytndjgcpaiplakaa
