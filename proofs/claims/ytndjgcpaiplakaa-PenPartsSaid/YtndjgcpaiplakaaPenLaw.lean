/-
  Package lyceumlaw08: awake; plain facts on Run.
-/
import Derived.Test.YtndjgcpaiplakaaPenRun
namespace Go.Proofs.Ytndjgcpaiplakaa
open Go.RowKit
set_option linter.unusedVariables false

theorem run_fold : ∀ (l : List Int) (c z : Pn), (∀ u ∈ l, u ≠ 38 ∧ u ≠ 48) → Run l c z → z = l.foldl oneP c
  | [], c, z, _, h => by cases h; rfl
  | n :: l, c, z, hl, h => by
    have hn := hl n (by simp)
    cases h with
    | one h1 h2 h3 => exact run_fold l _ _ (fun u hu => hl u (by simp [hu])) h3
    | five h1 => omega
    | none5 h1 => omega
    | three h1 => omega
    | stop h1 => omega
theorem run_awake (c z : Pn) (h : Run [1, 38, 5, 9, 7] c z) : z = oneP (setP (oneP c 1) 38 (colP 9)) 7 := by
  cases h with
  | one h1 h2 h3 =>
    cases h3 with
    | one h1 => omega
    | five h4 h5 h6 h7 =>
      cases h7 with
      | one h8 h9 h10 => cases h10; rfl
      | stop h8 => omega
    | none5 h4 h5 => omega
    | stop h4 h5 => simp at h5
  | stop h1 => omega
theorem run_48 (c z : Pn) (k : Int) (h0 : 0 ≤ k) (h1 : k ≤ 255) (h : Run [48, 5, k] c z) : z = setP c 48 (colP k) := by
  cases h with
  | one h1 h2 => omega
  | five h4 h5 h6 h7 => cases h7; rfl
  | none5 h4 h5 => omega
  | stop h4 h5 => simp at h5
theorem run_38 (c z : Pn) (h : Run [38, 5, 0] c z) : z = setP c 38 (colP 0) := by
  cases h with
  | one h1 h2 => omega
  | five h4 h5 h6 h7 => cases h7; rfl
  | none5 h4 h5 => omega
  | stop h4 h5 => simp at h5
theorem run_one (c z : Pn) (k : Int) (hk : k ≠ 38) (hk' : k ≠ 48) (h : Run [k] c z) : z = oneP c k := run_fold [k] c z (by simp [hk, hk']) h
/-- Numbers that say nothing. -/
theorem one_quiet (c : Pn) (k : Int) (h0 : 0 ≤ k) (h : ¬ (k ≤ 5 ∨ k = 7 ∨ (22 ≤ k ∧ k ≤ 25) ∨ k = 27 ∨ (30 ≤ k ∧ k ≤ 49) ∨ (90 ≤ k ∧ k ≤ 107))) : oneP c k = c := by
  have h1 : oneA c k = c := by
    unfold oneA
    rw [if_neg (by omega), if_neg (by omega), if_neg (by omega), if_neg (by omega)]
  have h2 : ∀ i a, i < 6 → attrStep k a i = a := by
    intro i a hi
    have : i = 0 ∨ i = 1 ∨ i = 2 ∨ i = 3 ∨ i = 4 ∨ i = 5 := by omega
    rcases this with rfl | rfl | rfl | rfl | rfl | rfl
    all_goals
      exact attr_same _ _ _ (by simp only [codeP]; omega) (by simp only [codeP]; omega)
  have h3 : attrF k c.a 6 = c.a := by simp [attrF, h2]
  unfold oneP
  rw [h1, h3]
  unfold tensP withA
  rw [if_neg (by omega), if_neg (by omega), if_neg (by omega), if_neg (by omega)]
theorem col_one : colP 0 = 1 := by decide
theorem awake_plain : oneP (setP (oneP ⟨0, 0, 0, 0⟩ 1) 38 (colP 9)) 7 = ⟨0, 9, 0, 33⟩ := by kernel_rfl

theorem awake_any (w : World) : Calls Try.prog 6 #[] w fun e w' => e = .returned (.bool true) ∧ Fr noneOf w w' := by
  have ht : ∀ w, Calls Try.prog 7 #[penV ⟨0, 0, 0, 0⟩, actV 4 109 0 0 ((5 : Nat) : Int) 1 38 5 9 7 0 0 0] w fun e w' => e = .returned (.agg #[.int .i32 0, .int .u8 9, .int .u8 0, .int .u8 33]) ∧ Fr noneOf w w' := fun w => by
    refine (apply_any ⟨0, 0, 0, 0⟩ 1 38 5 9 7 0 0 0 5 w (by omega) (by simp) (by omega)).mono ?_
    rintro e w' ⟨z, rfl, hr, hf⟩
    have := run_awake _ _ hr
    rw [awake_plain] at this
    subst this
    exact ⟨rfl, hf⟩
  have HT := Lib.hid ht
  clear ht
  go_enter Try.func6, Try.ntmps6
  go_wp2_with (go_at_call 7; refine (HT.out _).mono ?_; rintro e w' ⟨rfl, hf⟩)
  go_ret
  exact ⟨rfl, hf.alloc _⟩
end Go.Proofs.Ytndjgcpaiplakaa
