/-
  PenColours: the walk.
-/
import Derived.Test.YtndjgcpaiplakaaPenLaw
import Derived.Test.YtndjgcpaiplakaaPenAct
namespace Go.Proofs.Ytndjgcpaiplakaa
open Go.RowKit
set_option linter.unusedVariables false

theorem triP_bd (x y z : Int) : triP x y z = 16 + 36 * partP x + 6 * partP y + partP z ∧ 16 ≤ triP x y z ∧ triP x y z ≤ 231 := by
  have a := partP_bd x
  have b := partP_bd y
  have c := partP_bd z
  unfold triP colP
  rw [Int.max_eq_left (by omega), Int.emod_eq_of_lt (by omega) (by omega)]
  omega
theorem partP_mono (x : Int) : partP x ≤ partP (max x 100) := by
  unfold partP
  omega
theorem partP_le (x y : Int) (h : x ≤ y) : partP x ≤ partP y := by
  unfold partP
  omega
theorem Colour_is (x y z : Int) (w : World) : Calls Try.prog 9 #[.int .i64 x, .int .i64 y, .int .i64 z] w fun e w' => ∃ s, e = .returned (.int .u8 s) ∧ Hid (s = triP x y z) ∧ 16 ≤ s ∧ s ≤ 231 ∧ w = w' := by
  refine (Colour_any x y z w).mono ?_
  rintro e w' ⟨rfl, rfl⟩
  have := triP_bd x y z
  exact ⟨_, rfl, Lib.hid rfl, this.2.1, this.2.2, rfl⟩
theorem Colour_ge (x y z x' y' z' s : Int) (w : World) (hs : Hid (s = triP x y z)) (hx : x ≤ x') (hy : y ≤ y') (hz : z ≤ z') : Calls Try.prog 9 #[.int .i64 x', .int .i64 y', .int .i64 z'] w fun e w' => ∃ t, e = .returned (.int .u8 t) ∧ s ≤ t ∧ 16 ≤ t ∧ t ≤ 231 ∧ w = w' := by
  refine (Colour_any x' y' z' w).mono ?_
  rintro e w' ⟨rfl, rfl⟩
  have h1 := triP_bd x y z
  have h2 := triP_bd x' y' z'
  have a := partP_le x x' hx
  have b := partP_le y y' hy
  have c := partP_le z z' hz
  have hs' := hs.out
  exact ⟨_, rfl, by omega, h2.2.1, h2.2.2, rfl⟩

set_option maxRecDepth 100000 in
theorem penColours_any (x y z n : Int) (w : World) (hx : -9223372036854775808 ≤ x ∧ x ≤ 9223372036854775807) (hy : -9223372036854775808 ≤ y ∧ y ≤ 9223372036854775807) (hz : -9223372036854775808 ≤ z ∧ z ≤ 9223372036854775807) (hn0 : -9223372036854775808 ≤ n) (hn1 : n ≤ 9223372036854775807) :
    Calls Try.prog 5 #[.agg #[.int .i64 x, .int .i64 y, .int .i64 z], .int .i64 n] w fun e w' => e = .returned (.bool true) ∧ Fr noneOf w w' := by
  obtain ⟨k, hk, hk0, hk1⟩ : ∃ k : Int, bits .and .i64 n 255 = k ∧ 0 ≤ k ∧ k ≤ 255 := by
    refine ⟨_, rfl, ?_⟩
    have : bits .and .i64 n 255 = IntKind.i64.wrap ((BitVec.ofInt 64 n &&& BitVec.ofInt 64 255).toNat : Int) := rfl
    have h2 : (BitVec.ofInt 64 n &&& BitVec.ofInt 64 255).toNat ≤ 255 := by
      rw [BitVec.toNat_and]
      exact Nat.le_trans Nat.and_le_right (by decide)
    rw [this, IntKind.wrap_i64]
    omega
  have ha : ∀ (g : Nat) (w : World), Blk w g 3 #[.int .i64 38, .int .i64 5, .int .i64 0] → Calls Try.prog 8 #[.slice (some ⟨g, 0, none⟩) 3 3] w fun e w' => e = .returned (actV 4 109 0 0 3 38 5 0 0 0 0 0 0) ∧ Fr noneOf w w' := fun g w hb => by
    have := act_any (some ⟨g, 0, none⟩) 3 [38, 5, 0] w (by simp) (by simp) ⟨g, 0, rfl, hb.lt, fun j u hj => by
      rw [Nat.zero_add, hb.cell j]
      match j, hj with
      | 0, hj => simp at hj; subst hj; rfl
      | 1, hj => simp at hj; subst hj; rfl
      | 2, hj => simp at hj; subst hj; rfl⟩
    exact this
  have hp : ∀ (w : World), Calls Try.prog 7 #[penV ⟨0, 0, 0, 0⟩, actV 4 109 0 0 ((3 : Nat) : Int) 38 5 0 0 0 0 0 0] w fun e w' => e = .returned (.agg #[.int .i32 0, .int .u8 1, .int .u8 0, .int .u8 0]) ∧ Fr noneOf w w' := fun w => by
    refine (apply_any ⟨0, 0, 0, 0⟩ 38 5 0 0 0 0 0 0 3 w (by omega) (by simp) (by omega)).mono ?_
    rintro e w' ⟨q, rfl, hr, hf⟩
    have := run_38 _ _ hr
    subst this
    exact ⟨rfl, hf⟩
  have hq : ∀ (w : World), Calls Try.prog 7 #[penV ⟨0, 0, 0, 0⟩, actV 4 109 0 0 ((3 : Nat) : Int) 48 5 k 0 0 0 0 0] w fun e w' => e = .returned (.agg #[.int .i32 0, .int .u8 0, .int .u8 (max k 1), .int .u8 0]) ∧ Fr noneOf w w' := fun w => by
    refine (apply_any ⟨0, 0, 0, 0⟩ 48 5 k 0 0 0 0 0 3 w (by omega) (by simp; omega) (by omega)).mono ?_
    rintro e w' ⟨q, rfl, hr, hf⟩
    have := run_48 _ _ k hk0 hk1 hr
    subst this
    refine ⟨?_, hf⟩
    have hc : colP k = max k 1 := by unfold colP; omega
    rw [hc]
    rfl
  obtain ⟨m, hm⟩ : ∃ m, m = max k 1 := ⟨_, rfl⟩
  rw [← hm] at hq
  have hkm : (k < 1 ∧ m = 1) ∨ (1 ≤ k ∧ m = k) := by omega
  have HA := Lib.hid ha
  have HP := Lib.hid hp
  have HQ := Lib.hid hq
  clear ha hp hq hm
  rcases hkm with ⟨hk2, rfl⟩ | ⟨hk2, rfl⟩
  all_goals
    go_enter Try.func5, Try.ntmps5
    go_wp2_with (first
      | (go_at_call 7; have hh := hf5; refine (HQ.out _).mono ?_; rintro e w6 ⟨rfl, hf6⟩; clear hh; have E := (Blk.new w5 _ _).fr0 hf6; have e0 := E.cell 0; have e1 := E.cell 1; have e2 := E.cell 2; have e3 := E.cell 3; have le := E.lt)
      | (go_at_call 7; refine (HP.out _).mono ?_; rintro e w5 ⟨rfl, hf5⟩)
      | (go_at_call 8; refine (HA.out wa.heap.size _ (Blk.new _ _ _)).mono ?_; rintro e w4 ⟨rfl, hf4⟩)
      | (go_at_call 6; refine (awake_any _).mono ?_; rintro e wa ⟨rfl, hfa⟩; have D := (Blk.new w _ _).fr0 hfa; have d0 := D.cell 0; have d1 := D.cell 1; have d2 := D.cell 2)
      | (go_at_call 9; have hh := H1; refine (Colour_ge x y z _ _ _ s _ H1 (by omega) (by omega) (by omega)).mono ?_; clear hh; rintro e w3 ⟨t, rfl, t0, t1, t2, rfl⟩)
      | (go_at_call 9; refine (Colour_is _ _ _ _).mono ?_; rintro e w3 ⟨s, rfl, H1, s0, s1, rfl⟩))
    all_goals
      go_ret
      exact ⟨rfl, ((((((Fr.refl _ _).alloc _).trans hfa).alloc _).trans hf4).trans hf5 |>.alloc _).trans hf6 |>.alloc _⟩
end Go.Proofs.Ytndjgcpaiplakaa
