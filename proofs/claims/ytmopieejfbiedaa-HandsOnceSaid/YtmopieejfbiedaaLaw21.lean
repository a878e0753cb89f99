/-
  Package lyceumlaw21: awake; the raiser that is none.
-/
import Derived.Test.YtmopieejfbiedaaTable
namespace Go.Proofs.Ytmopieejfbiedaa
open Go.RowKit
set_option linter.unusedVariables false
attribute [local go_sem ↓] Go.wp_at_zero Go.wp_at_succ

theorem awake_any (w : World) : Calls Try.prog 7 #[] w fun e w' => e = .returned (.bool true) ∧ Fr noneOf w w' := by
  go_enter Try.func7, Try.ntmps7
  go_wp2_with (first
    | (go_at_call 11; refine (len_is w.heap.size 5 [] (zeros16.set 3 1) _ (Tab.fr (Tab.fr hT3 (by repeat (first | exact Fr.refl _ _ | assumption | apply Fr.drew | apply Fr.alloc))) hf4)).mono ?_; rintro e w' ⟨rfl, rfl⟩)
    | (go_at_call 9; refine (raise_old w.heap.size 5 [] (zeros16.set 3 1) 3 1 1 _ (Tab.fr hT3 (by repeat (first | exact Fr.refl _ _ | assumption | apply Fr.drew | apply Fr.alloc))) (by omega) rfl (by omega) (by omega) (by omega)).mono ?_; rintro e w4 ⟨rfl, hf4⟩; have D4 := (D3.alloc _).fr0 hf4; have r0 := D4.cell 0; have r1 := D4.cell 1; have X4 := (Blk.new _ _ _).fr0 hf4; have x0 := X4.cell 0; have x1 := X4.cell 1)
    | (go_at_call 10; refine (dismiss_some w.heap.size 5 3 1 [] (zeros16.set 3 1) _ (Tab.fr hT1 hf2)).mono ?_; rintro e w3 ⟨rfl, hT3, hf3⟩; have D3 := hf3.blkN D2 hne; have s0 := D3.cell 0; have s1 := D3.cell 1; have hl3 := D3.lt)
    | (go_at_call 9; refine (raise_old w.heap.size 5 [(((3 : Nat) : Int), 1)] (zeros16.set 3 1) 3 1 1 _ (Tab.fr hT1 (by repeat (first | exact Fr.refl _ _ | assumption | apply Fr.drew | apply Fr.alloc))) (by omega) rfl (by omega) (by omega) (by omega)).mono ?_; rintro e w2 ⟨rfl, hf2⟩; have D2 := D1.fr0 hf2)
    | (go_at_call 8; refine (new_any 5 _).mono ?_; rintro e wA ⟨rfl, hT, hfA⟩; have hbA := hT.lt; have hne : w.heap.size ≠ wA.heap.size := by omega)
    | (go_at_call 9; refine (raise_new w.heap.size 5 [] zeros16 3 1 0 _ (Tab.fr hT (by repeat (first | exact Fr.refl _ _ | assumption | apply Fr.drew | apply Fr.alloc))) (by omega) rfl (by omega) (by omega) (by omega) (by simp)).mono ?_; rintro e w1 ⟨rfl, hT1, hf1⟩; have D1 := hf1.blkN (Blk.new _ _ _) hne; have q0 := D1.cell 0; have q1 := D1.cell 1))
  go_ret
  have g1 : Fr (justOf w.heap.size) wA w1 := ((Fr.refl _ _).alloc _).trans hf1
  have g2 : Fr (justOf w.heap.size) wA w3 := (g1.trans (Fr.of0 _ hf2)).trans hf3
  have g3 := (g2.alloc _).trans (Fr.of0 _ hf4)
  exact ⟨rfl, hfA.trans' g3 (fun i hi hh => by have : i = w.heap.size := hh; omega)⟩
theorem rlen_nil (w : World) : Calls Try.prog 14 #[.pointer none] w fun e w' => e = .returned (.int .i64 0) ∧ w = w' := by
  go_enter Try.func14, Try.ntmps14
  go_wp2
  go_ret
  exact ⟨rfl, rfl⟩
theorem rhead_nil (w : World) : Calls Try.prog 16 #[.pointer none] w fun e w' => e = .returned (.tuple #[.int .i64 0, .bool false]) ∧ w = w' := by
  go_enter Try.func16, Try.ntmps16
  go_wp2_with (go_at_call 14; refine (rlen_nil _).mono ?_; rintro e w' ⟨rfl, rfl⟩)
  exact bodyPost_ret (v := .tuple #[.int .i64 0, .bool false]) (by simp [results, Try.results16, go_sem]) rfl ⟨rfl, rfl⟩
theorem rraise_nil (k : Int) (w : World) : Calls Try.prog 15 #[.pointer none, .int .i64 k] w fun e w' => e = .returned (.bool false) ∧ w = w' := by
  go_enter Try.func15, Try.ntmps15
  go_wp2
  go_ret
  exact ⟨rfl, rfl⟩
theorem rack_nil (k : Int) (w : World) : Calls Try.prog 17 #[.pointer none, .int .i64 k] w fun e w' => e = .returned (.bool false) ∧ w = w' := by
  go_enter Try.func17, Try.ntmps17
  go_wp2_with (go_at_call 16; refine (rhead_nil _).mono ?_; rintro e w' ⟨rfl, rfl⟩)
  go_ret
  exact ⟨rfl, rfl⟩
end Go.Proofs.Ytmopieejfbiedaa
