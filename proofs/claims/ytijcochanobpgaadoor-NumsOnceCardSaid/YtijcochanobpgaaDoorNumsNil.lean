/-
  NumsNil: the walk; fault.Place of a bare number.
-/
import Derived.Test.YtijcochanobpgaaDoorLaw03
import Derived.Test.YtijcochanobpgaaDoorAsW
import Derived.Deep.QuietTactic
import Derived.BigQuiet
namespace Go.Proofs.YtijcochanobpgaaDoor
open Go.RowKit
set_option linter.unusedVariables false

theorem works_nil (w : World) : Calls Tryd.prog 21 #[.pointer none] w fun e w' => e = .returned (.bool false) ∧ w = w' := by
  go_enter Tryd.func21, Tryd.ntmps21
  go_wp2
  go_ret
  exact ⟨rfl, rfl⟩
theorem fail_nil (c : Int) (w : World) : Calls Tryd.prog 14 #[.pointer none, .int .i64 c] w fun e w' => e = .returned (.tuple #[]) ∧ w = w' := by
  go_enter Tryd.func14, Tryd.ntmps14
  go_wp2_with (go_at_call 21; refine (works_nil _).mono ?_; rintro e w' ⟨rfl, rfl⟩)
  go_end0
  exact ⟨rfl, rfl⟩
theorem num_nil (a b : Int) (w : World) : Calls Tryd.prog 9 #[.pointer none, .int .i64 a, .int .i64 b] w fun e w' => e = .returned (.int .i64 0) ∧ w = w' := by
  go_enter Tryd.func9, Tryd.ntmps9
  go_wp2_with (go_at_call 21; refine (works_nil _).mono ?_; rintro e w' ⟨rfl, rfl⟩)
  go_ret
  exact ⟨rfl, rfl⟩
theorem count_nil (b : Int) (w : World) : Calls Tryd.prog 18 #[.pointer none, .int .i64 b] w fun e w' => e = .returned (.int .i64 0) ∧ w = w' := by
  go_enter Tryd.func18, Tryd.ntmps18
  go_wp2_with (go_at_call 9; refine (num_nil 0 b _).mono ?_; rintro e w' ⟨rfl, rfl⟩)
  go_ret
  exact ⟨rfl, rfl⟩
theorem text_nil (b : Int) (w : World) : Calls Tryd.prog 15 #[.pointer none, .int .i64 b] w fun e w' => e = .returned (.string ⟨#[]⟩) ∧ w = w' := by
  go_enter Tryd.func15, Tryd.ntmps15
  go_wp2_with (go_at_call 21; refine (works_nil _).mono ?_; rintro e w' ⟨rfl, rfl⟩)
  go_ret
  exact ⟨rfl, rfl⟩
theorem at_nil (w : World) : Calls Tryd.prog 12 #[.pointer none] w fun e w' => e = .returned (.int .i64 0) ∧ w = w' := by
  go_enter Tryd.func12, Tryd.ntmps12
  go_wp2
  go_ret
  exact ⟨rfl, rfl⟩
theorem err_nil (w : World) : Calls Tryd.prog 11 #[.pointer none] w fun e w' => e = .returned (.iface 23 (.int .i64 10)) ∧ w = w' := by
  go_enter Tryd.func11, Tryd.ntmps11
  go_wp2_with (go_at_call 25; refine (fnew_yes 10 _ rfl).mono ?_; rintro e w' ⟨rfl, rfl⟩)
  go_ret
  exact ⟨rfl, rfl⟩
theorem numAround (n : Int) (w : World) : (Instr.typeAssert (.iface 23 (.int .i64 n)) 31 66 true).run Tryd.prog w = .ok (.tuple #[.pointer none, .bool false]) w := by kernel_rfl
theorem numRow (n : Int) (w : World) : (Instr.typeAssert (.iface 23 (.int .i64 n)) 31 83 true).run Tryd.prog w = .ok (.tuple #[.pointer none, .bool false]) w := by kernel_rfl
set_option maxRecDepth 100000 in
theorem shells_num (n : Int) (w : World) : Calls Tryd.prog 30 #[.iface 23 (.int .i64 n)] w fun e w' => e = .returned (.slice none 0 0) ∧ w = w' := by
  have hA := numAround n w
  have hR := numRow n w
  go_enter Tryd.func30, Tryd.ntmps30
  go_wp2
  go_step3
  go_wp2
  go_step3
  go_wp2
  refine wp_loop_rounds 1 ?_
  rw [rounds_succ]
  go_wp2
  rw [Exit.noGoto_ret]
  go_ret
  exact ⟨rfl, rfl⟩
theorem place_num (n : Int) (w : World) : Calls Tryd.prog 17 #[.iface 23 (.int .i64 n)] w fun e w' => e = .returned (.tuple #[.int .i64 0, .bool false]) ∧ w = w' := by
  go_enter Tryd.func17, Tryd.ntmps17
  go_wp2_with (go_at_call 30; refine (shells_num n _).mono ?_; rintro e w' ⟨rfl, rfl⟩)
  refine wp_loop_rounds 1 ?_
  rw [rounds_succ]
  go_wp2
  exact bodyPost_ret (v := .tuple #[.int .i64 0, .bool false]) (by simp [results, Tryd.results17, go_sem]) rfl ⟨rfl, rfl⟩
theorem end_nil (w : World) : Calls Tryd.prog 16 #[.pointer none] w fun e w' => e = .returned (.iface 23 (.int .i64 10)) ∧ Fr noneOf w w' := by
  go_enter Tryd.func16, Tryd.ntmps16
  go_wp2
  go_quiet ((go_at_call 21; exact Calls.quiet_of_same ((works_nil _).mono fun _ _ ⟨h1, h2⟩ => ⟨h1, h2.symm⟩)))
  go_wp2_with (go_at_call 11; refine (err_nil _).mono ?_; rintro e w' ⟨rfl, rfl⟩)
  go_ret
  exact ⟨rfl, by repeat (first | exact Fr.refl _ _ | apply Fr.drewN | apply Fr.drew)⟩
theorem numsNil_any (code : Int) (w : World) (_h0 : -9223372036854775808 ≤ code) (_h1 : code ≤ 9223372036854775807) (hg : errT w) :
    Calls Tryd.prog 4 #[.int .i64 code] w fun e w' => e = .returned (.bool true) ∧ Fr noneOf w w' := by
  have HG := Lib.hid hg
  clear hg _h0 _h1
  go_enter Tryd.func4, Tryd.ntmps4
  go_wp2_with (first
    | (go_at_call 14; (with_reducible refine (fail_nil _ _).mono ?_); rintro e w' ⟨rfl, rfl⟩)
    | (go_at_call 11; (with_reducible refine (err_nil _).mono ?_); rintro e w' ⟨rfl, rfl⟩)
    | (go_at_call 17; (with_reducible refine (place_num _ _).mono ?_); rintro e w' ⟨rfl, rfl⟩)
    | (go_at_call 6; (with_reducible refine (awake_any _).mono ?_); rintro e w1 ⟨rfl, hf1⟩; have HG1 := Lib.hid (HG.out.fr hf1))
    | (go_at_call 9; (with_reducible refine (num_nil _ _ _).mono ?_); rintro e w' ⟨rfl, rfl⟩)
    | (go_at_call 18; (with_reducible refine (count_nil _ _).mono ?_); rintro e w' ⟨rfl, rfl⟩)
    | (go_at_call 15; (with_reducible refine (text_nil _ _).mono ?_); rintro e w' ⟨rfl, rfl⟩)
    | (go_at_call 12; (with_reducible refine (at_nil _).mono ?_); rintro e w' ⟨rfl, rfl⟩)
    | (go_at_call 10; (with_reducible refine (code_num 10 _ (HG3.out)).mono ?_); rintro e w4 ⟨rfl, hf4⟩)
    | (go_at_call 10; (with_reducible refine (code_num 10 _ HG1.out).mono ?_); rintro e w2 ⟨rfl, hf2⟩; have HG2 := Lib.hid (HG1.out.fr hf2))
    | (go_at_call 16; (with_reducible refine (end_nil _).mono ?_); rintro e w3 ⟨rfl, hf3⟩; have HG3 := Lib.hid (HG2.out.fr hf3)))
  go_ret
  exact ⟨rfl, ((hf1.trans hf2).trans hf3).trans hf4⟩
end Go.Proofs.YtijcochanobpgaaDoor
