/-
  HandsNil: the walk.
-/
import Derived.Test.YtmopieejfbiedaaLaw21
namespace Go.Proofs.Ytmopieejfbiedaa
open Go.RowKit
set_option linter.unusedVariables false
attribute [local go_sem ↓] Go.wp_at_zero Go.wp_at_succ

theorem handsNil_any (v k : Int) (w : World) : Calls Try.prog 6 #[.agg #[.int .i64 v, .int .i64 k]] w fun e w' => e = .returned (.bool true) ∧ Fr noneOf w w' := by
  go_enter Try.func6, Try.ntmps6
  go_wp2_with (first
    | (go_at_call 14; refine (rlen_nil _).mono ?_; rintro e w' ⟨rfl, rfl⟩)
    | (go_at_call 17; refine (rack_nil _ _).mono ?_; rintro e w' ⟨rfl, rfl⟩)
    | (go_at_call 15; refine (rraise_nil _ _).mono ?_; rintro e w' ⟨rfl, rfl⟩)
    | (go_at_call 16; refine (rhead_nil _).mono ?_; rintro e w' ⟨rfl, rfl⟩)
    | (go_at_call 11; refine (len_nil _).mono ?_; rintro e w' ⟨rfl, rfl⟩)
    | (go_at_call 13; refine (list_nil _).mono ?_; rintro e w' ⟨rfl, rfl⟩)
    | (go_at_call 9; refine (raise_nil _ v k _ rfl).mono ?_; rintro e w3 ⟨rfl, hf3⟩; have D3 := D2.fr0 hf3; have t0 := D3.cell 0; have t1 := D3.cell 1)
    | (go_at_call 7; refine (awake_any _).mono ?_; rintro e w2 ⟨rfl, hf2⟩; have D2 := (D1.alloc _).fr0 hf2; have s0 := D2.cell 0; have s1 := D2.cell 1)
    | (go_at_call 10; refine (dismiss_nil _).mono ?_; rintro e w1 ⟨rfl, hf1⟩; have D1 := (Blk.new _ _ _).fr0 hf1; have l1 := D1.lt))
  go_ret
  exact ⟨rfl, ((((((Fr.refl _ _).alloc _).trans hf1).alloc _).trans hf2).trans hf3)⟩
end Go.Proofs.Ytmopieejfbiedaa
