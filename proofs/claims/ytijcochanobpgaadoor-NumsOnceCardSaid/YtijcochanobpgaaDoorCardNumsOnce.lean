/-
  NumsOnce: for every input the law returns true; the arguments read as before.
  Conditions: none.
-/
import Derived.Test.YtijcochanobpgaaDoorNumsOnce
import Derived.Test.YtijcochanobpgaaDoorShut
import Derived.Test.YtijcochanobpgaaDoorShutA
import Derived.Test.YtijcochanobpgaaDoorDoor
import Derived.Test.YtijcochanobpgaaDoorTie
import Derived.Test.YtijcochanobpgaaDoorCards
import Derived.SevenTiedAt
import Derived.Test.YtijcochanobpgaaDoorRows
namespace Go.Proofs.YtijcochanobpgaaDoor.rowNumsOnce
open Go.ChangeShapes Go.WideShapes Go.ChangeAt Go.RowKit
set_option linter.unusedVariables false

theorem own : ownKnob Tryd.prog.godebug = none := by kernel_rfl
theorem laidOut : laidOutB Tryd.prog = true := by kernel_rfl
theorem readable : ∀ t ∈ Tryd.f3.params.toList, Tryd.prog.readableRec t = true ∧ t < Tryd.prog.types.size := by
  rw [Tryd.params3]
  intro t ht
  simp at ht
  rcases ht with rfl | rfl | rfl
  all_goals exact ⟨by kernel_rfl, of_decide_eq_true (by kernel_rfl)⟩
theorem results : Tryd.f3.resultTypes = #[4] := by kernel_rfl

set_option maxRecDepth 100000 in
theorem contract (H : Type) (enc : TypeId × Value → H) (W : World) (base : Nat) (args : Array Value) (ds gs : List (DataW H)) (before : List MemPlace)
    (hval : ∀ (j : Nat) t v, Tryd.f3.params[j]? = some t → args[j]? = some v → Value.okWide Tryd.prog W .any base t v)
    (hW : DataW.Whole enc Tryd.prog Tryd.f3.params.toList Rows.numsOnceSpec.vars false W args.toList ds gs before)
    (hg : errT W) : Calls Tryd.prog 3 args W fun e W' => ∃ v, e = .returned v ∧ Rows.numsOnceSpec.post enc Tryd.prog Tryd.f3 false true false false W args v W' := by
  have hW' := hW
  obtain ⟨p, q, hA0, hV, rfl, hfz, hnd⟩ := hW
  have hA : DataW.TrodAll enc Tryd.prog W 0 (fun _ => true) true Tryd.f3.params.toList args.toList ds p := hA0
  rw [Tryd.params3] at hA hval
  obtain ⟨v0, vs0, d0, ds0, p0, q0, hargs, rfl, rfl, h0, r0⟩ := trodAll_cons hA
  obtain ⟨v1, vs1, d1, ds1, p1, q1, rfl, rfl, rfl, h1, r1⟩ := trodAll_cons r0
  obtain ⟨v2, vs2, d2, ds2, p2, q2, rfl, rfl, rfl, h2, r2⟩ := trodAll_cons r1
  obtain ⟨rfl, rfl, rfl⟩ := trodAll_nil r2
  obtain rfl : args = #[v0, v1, v2] := by cases args; simp_all
  obtain ⟨rfl, rfl⟩ := trodVars_none hV
  obtain ⟨s0, rfl, hd0, hp0, ws0⟩ := Go.ChangeMaps.open_string Tryd.underlying9 (hval 0 9 v0 rfl rfl) h0
  rw [str_is s0]
  obtain ⟨L1, hL1, rfl, hB1⟩ := open_int_array 2 Tryd.underlying22 Tryd.underlying3 (by kernel_rfl) (by kernel_rfl) (hval 1 22 v1 rfl rfl) h1
  obtain ⟨x1, y1, rfl⟩ := list2 hL1
  obtain ⟨n2, rfl, hd2, hp2, wn2⟩ := open_int Tryd.underlying23 (hval 2 23 v2 rfl rfl) h2
  clear hA0 hval
  refine (numsOnce_any s0.data.toList x1 y1 n2 W (by simpa [maxLen] using ws0) (hB1 x1 (by simp)) (hB1 y1 (by simp)) (wf_int wn2).1 (wf_int wn2).2 hg).mono fun e W' ⟨he, hf⟩ => ?_
  subst he
  exact ⟨_, rfl, law_post laidOut readable results Tryd.underlying4 rfl hW' rfl hf.below⟩

set_option maxRecDepth 100000 in
theorem lifted (os : Os) (started : os.Started) (H : Type) (enc : TypeId × Value → H) :
    ReturnsInHanded {} Tryd.checked os 3 .any (fun w args => (Rows.numsOnceSpec.pre enc Tryd.prog Tryd.f3 [] false w args ∧ laidMetH Tryd.prog dLaid w) ∧ sizedMet enc Tryd.prog Tryd.f3 (OpenSpec.ofChange Rows.numsOnceSpec) false w args)
      (Rows.numsOnceSpec.post enc Tryd.prog Tryd.f3 false true false false) := by
  refine returnsInHanded_of_change_and (C := Tryd.checked) (X := fun w _ => laidMetH Tryd.prog dLaid w) (fun _ _ _ hh h => h.of_heap hh) dOwn started (by kernel_rfl) Tryd.func3
    (ChangeSpec.witness_at (enc := enc) (C := Tryd.checked) (os := os) (X := fun w _ => laidMetH Tryd.prog dLaid w) false (laidWorld os) #[.string ByteArray.empty, .agg #[.int .i64 0, .int .i64 0], .int .i64 0] 8 rfl (by kernel_rfl) (by kernel_rfl) (by kernel_rfl) (by kernel_rfl) (by kernel_rfl) (laidWorld_met os _)) ?_
  intro W base args ds gs before hval hW _ _ hL _
  exact contract H enc W base args ds gs before hval hW (errT_of_laid hL)

theorem numsOnce_row : Rows.NumsOnceSaid :=
  OpenClaim.holds_of_wide 3 Tryd.f3 rfl rfl rfl rfl rfl rfl rfl ⟨rfl, rfl, rfl, rfl, rfl⟩ rfl rfl rfl rfl rfl (by kernel_rfl) Tryd.func3 (by kernel_rfl)
    (of_decide_eq_true (by kernel_rfl)) (by unfold Func.isWrapper; first | (rw [if_pos (by decide +kernel)]; kernel_rfl) | (rw [if_neg (by decide +kernel)]; exact ⟨rfl, rfl⟩))
    (fun os started H enc _ => lifted os started H enc)
theorem numsOnce_holds : Rows.NumsOnceCardSaid :=
  Claim7.holds_tied_plain_at .later [] [.handle] true (true, "b123720e4dd10dda4afd9a9137f42657725ec316accd180c91bf0d64dc26dd5a") true
    numsOnce_row (fun _ h => by cases h) (by kernel_rfl) (fun _ h => by cases h) numsOnce_row_tie rfl ⟨rfl, rfl⟩ (by kernel_rfl) rfl
    (fun f fn hf hfn => by
      obtain rfl : f = 3 := Option.some.inj ((show Tryd.prog.funcNamed "lyceum/lyceumlaw03.NumsOnce" = some 3 by kernel_rfl).symm.trans hf) |>.symm
      obtain rfl : fn = Tryd.f3 := (Option.some.inj (Tryd.func3.symm.trans hfn)).symm
      exact ⟨by kernel_rfl, fun j t ht => by
          rw [Tryd.params3] at ht
          match j, ht with
          | 0, ht => obtain rfl : 9 = t := by simpa using ht
                     exact (show Tryd.prog.wantsStandIn 9 = false by kernel_rfl)
          | 1, ht => obtain rfl : 22 = t := by simpa using ht
                     exact (show Tryd.prog.wantsStandIn 22 = false by kernel_rfl)
          | 2, ht => obtain rfl : 23 = t := by simpa using ht
                     exact (show Tryd.prog.wantsStandIn 23 = false by kernel_rfl)
          | j + 3, ht => simp at ht⟩)
    (by kernel_rfl)
end Go.Proofs.YtijcochanobpgaaDoor.rowNumsOnce

