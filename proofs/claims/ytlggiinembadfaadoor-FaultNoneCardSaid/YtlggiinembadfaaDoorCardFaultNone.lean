/-
  FaultNone: for every input the law returns true; the arguments read as before.
  Conditions: none.
-/
import Derived.Test.YtlggiinembadfaaDoorFaultNone
import Derived.Test.YtlggiinembadfaaDoorShut
import Derived.Test.YtlggiinembadfaaDoorDoor
import Derived.Test.YtlggiinembadfaaDoorTie
import Derived.Test.YtlggiinembadfaaDoorCards
import Derived.SevenTiedAt
import Derived.Test.YtlggiinembadfaaDoorRows
namespace Go.Proofs.YtlggiinembadfaaDoor.rowFaultNone
open Go.ChangeShapes Go.WideShapes Go.ChangeAt Go.RowKit
set_option linter.unusedVariables false

theorem own : ownKnob Tryd.prog.godebug = none := by kernel_rfl
theorem laidOut : laidOutB Tryd.prog = true := by kernel_rfl
theorem readable : ∀ t ∈ Tryd.f3.params.toList, Tryd.prog.readableRec t = true ∧ t < Tryd.prog.types.size := by
  rw [Tryd.params3]
  intro t ht
  simp at ht
  rcases ht with rfl | rfl | rfl
  all_goals exact ⟨by kernel_rfl, of_decide_eq_true (by kernel_rfl)⟩
theorem results : Tryd.f3.resultTypes = #[4] := by kernel_rfl

set_option maxRecDepth 100000 in
theorem contract (H : Type) (enc : TypeId × Value → H) (W : World) (base : Nat) (args : Array Value) (ds gs : List (DataW H)) (before : List MemPlace)
    (hval : ∀ (j : Nat) t v, Tryd.f3.params[j]? = some t → args[j]? = some v → Value.okWide Tryd.prog W .any base t v)
    (hW : DataW.Whole enc Tryd.prog Tryd.f3.params.toList Rows.faultNoneSpec.vars false W args.toList ds gs before)
    (hg : errT W) : Calls Tryd.prog 3 args W fun e W' => ∃ v, e = .returned v ∧ Rows.faultNoneSpec.post enc Tryd.prog Tryd.f3 false true false false W args v W' := by
  have hW' := hW
  obtain ⟨p, q, hA0, hV, rfl, hfz, hnd⟩ := hW
  have hA : DataW.TrodAll enc Tryd.prog W 0 (fun _ => true) true Tryd.f3.params.toList args.toList ds p := hA0
  rw [Tryd.params3] at hA hval
  obtain ⟨v0, vs0, d0, ds0, p0, q0, hargs, rfl, rfl, h0, r0⟩ := trodAll_cons hA
  obtain ⟨v1, vs1, d1, ds1, p1, q1, rfl, rfl, rfl, h1, r1⟩ := trodAll_cons r0
  obtain ⟨v2, vs2, d2, ds2, p2, q2, rfl, rfl, rfl, h2, r2⟩ := trodAll_cons r1
  obtain ⟨rfl, rfl, rfl⟩ := trodAll_nil r2
  obtain rfl : args = #[v0, v1, v2] := by cases args; simp_all
  obtain ⟨rfl, rfl⟩ := trodVars_none hV
  obtain ⟨n0, rfl, hd0, hp0, wn0⟩ := open_int Tryd.underlying3 (hval 0 3 v0 rfl rfl) h0
  obtain ⟨s1, rfl, hd1, hp1, ws1⟩ := Go.ChangeMaps.open_string Tryd.underlying9 (hval 1 9 v1 rfl rfl) h1
  obtain ⟨n2, rfl, hd2, hp2, wn2⟩ := open_int Tryd.underlying22 (hval 2 22 v2 rfl rfl) h2
  clear hA0 hval
  refine (faultNone_any n0 s1 n2 W (wf_int wn0).1 (wf_int wn0).2 ws1 (wf_int wn2).1 (wf_int wn2).2 hg).mono fun e W' ⟨he, hf⟩ => ?_
  subst he
  exact ⟨_, rfl, law_post laidOut readable results Tryd.underlying4 rfl hW' rfl hf.below⟩

set_option maxRecDepth 100000 in
theorem lifted (os : Os) (started : os.Started) (H : Type) (enc : TypeId × Value → H) :
    ReturnsInHanded {} Tryd.checked os 3 .any (fun w args => (Rows.faultNoneSpec.pre enc Tryd.prog Tryd.f3 [] false w args ∧ laidMetH Tryd.prog dLaid w) ∧ sizedMet enc Tryd.prog Tryd.f3 (OpenSpec.ofChange Rows.faultNoneSpec) false w args)
      (Rows.faultNoneSpec.post enc Tryd.prog Tryd.f3 false true false false) := by
  refine returnsInHanded_of_change_and (C := Tryd.checked) (X := fun w _ => laidMetH Tryd.prog dLaid w) (fun _ _ _ hh h => h.of_heap hh) dOwn started (by kernel_rfl) Tryd.func3
    (ChangeSpec.witness_at (enc := enc) (C := Tryd.checked) (os := os) (X := fun w _ => laidMetH Tryd.prog dLaid w) false (laidWorld os) #[.int .i64 0, .string ByteArray.empty, .int .i64 0] 8 rfl (by kernel_rfl) (by kernel_rfl) (by kernel_rfl) (by kernel_rfl) (by kernel_rfl) (laidWorld_met os _)) ?_
  intro W base args ds gs before hval hW _ _ hL _
  exact contract H enc W base args ds gs before hval hW (errT_of_laid hL)

theorem faultNone_row : Rows.FaultNoneSaid :=
  OpenClaim.holds_of_wide 3 Tryd.f3 rfl rfl rfl rfl rfl rfl rfl ⟨rfl, rfl, rfl, rfl, rfl⟩ rfl rfl rfl rfl rfl (by kernel_rfl) Tryd.func3 (by kernel_rfl)
    (of_decide_eq_true (by kernel_rfl)) (by unfold Func.isWrapper; first | (rw [if_pos (by decide +kernel)]; kernel_rfl) | (rw [if_neg (by decide +kernel)]; exact ⟨rfl, rfl⟩))
    (fun os started H enc _ => lifted os started H enc)
theorem faultNone_holds : Rows.FaultNoneCardSaid :=
  Claim7.holds_tied_plain_at .later [] [.handle] true (true, "e921dedb88517e185b0ca4daa3ceb023904b2486be8f76af7d73a3ff5ff2c3f1") true
    faultNone_row (fun _ h => by cases h) (by kernel_rfl) (fun _ h => by cases h) faultNone_row_tie rfl ⟨rfl, rfl⟩ (by kernel_rfl) rfl
    (fun f fn hf hfn => by
      obtain rfl : f = 3 := Option.some.inj ((show Tryd.prog.funcNamed "lyceum/lyceumlaw01.FaultNone" = some 3 by kernel_rfl).symm.trans hf) |>.symm
      obtain rfl : fn = Tryd.f3 := (Option.some.inj (Tryd.func3.symm.trans hfn)).symm
      exact ⟨by kernel_rfl, fun j t ht => by
          rw [Tryd.params3] at ht
          match j, ht with
          | 0, ht => obtain rfl : 3 = t := by simpa using ht
                     exact (show Tryd.prog.wantsStandIn 3 = false by kernel_rfl)
          | 1, ht => obtain rfl : 9 = t := by simpa using ht
                     exact (show Tryd.prog.wantsStandIn 9 = false by kernel_rfl)
          | 2, ht => obtain rfl : 22 = t := by simpa using ht
                     exact (show Tryd.prog.wantsStandIn 22 = false by kernel_rfl)
          | j + 3, ht => simp at ht⟩)
    (by kernel_rfl)
end Go.Proofs.YtlggiinembadfaaDoor.rowFaultNone

