/-
  Contract of a step's hand, where it is not far.
-/
import Derived.Test.YtmopieejfbiedaaList
namespace Go.Proofs.Ytmopieejfbiedaa
open Go.RowKit
set_option linter.unusedVariables false
attribute [local go_sem ↓] Go.wp_at_zero Go.wp_at_succ

theorem and_le (n : Int) (m : Nat) (hm : m ≤ 1000) : ∃ q : Nat, bits .and .i64 n (m : Int) = (q : Int) ∧ q ≤ m := by
  have h1 : bits .and .i64 n (m : Int) = IntKind.i64.wrap ((BitVec.ofInt 64 n &&& BitVec.ofInt 64 (m : Int)).toNat : Int) := rfl
  have h2 : (BitVec.ofInt 64 n &&& BitVec.ofInt 64 (m : Int)).toNat ≤ m := by
    rw [BitVec.toNat_and]
    refine Nat.le_trans Nat.and_le_right ?_
    simp
    omega
  refine ⟨_, ?_, h2⟩
  rw [h1, IntKind.wrap_i64]
  omega
theorem opHand_any (kd v k : Int) (w : World) : ∃ (nv nk : Nat), nv ≤ 3 ∧ nk ≤ 15 ∧ ∀ w : World, Calls Try.prog 12 #[.agg #[.int .i64 kd, .int .i64 v, .int .i64 k, .bool false]] w fun e w' => e = .returned (.agg #[.int .i64 nv, .int .i64 nk]) ∧ Fr noneOf w w' := by
  obtain ⟨nv, hv, hv3⟩ := and_le v 3 (by omega)
  obtain ⟨nk, hk, hk3⟩ := and_le k 15 (by omega)
  refine ⟨nv, nk, hv3, hk3, fun w => ?_⟩
  have hv' : bits .and .i64 v 3 = (nv : Int) := hv
  have hk' : bits .and .i64 k 15 = (nk : Int) := hk
  clear hv hk
  go_enter Try.func12, Try.ntmps12
  go_wp2
  exact bodyPost_ret (v := .agg #[.int .i64 nv, .int .i64 nk]) (by simp [results, Try.results12, go_sem]) rfl ⟨rfl, by repeat (first | exact Fr.refl _ _ | apply Fr.drew | apply Fr.alloc)⟩
end Go.Proofs.Ytmopieejfbiedaa
