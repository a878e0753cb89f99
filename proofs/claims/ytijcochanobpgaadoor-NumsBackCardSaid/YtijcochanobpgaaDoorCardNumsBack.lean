/-
  NumsBack: for every input the law returns true; the arguments read as before.
  Conditions: none.
-/
import Derived.Test.YtijcochanobpgaaDoorNumsBack
import Derived.Test.YtijcochanobpgaaDoorShutN
import Derived.Test.YtijcochanobpgaaDoorDoor
import Derived.Test.YtijcochanobpgaaDoorTie
import Derived.Test.YtijcochanobpgaaDoorCards
import Derived.SevenTiedAt
import Derived.Test.YtijcochanobpgaaDoorRows
namespace Go.Proofs.YtijcochanobpgaaDoor.rowNumsBack
open Go.ChangeShapes Go.WideShapes Go.ChangeAt Go.RowKit
set_option linter.unusedVariables false

theorem own : ownKnob Tryd.prog.godebug = none := by kernel_rfl
theorem laidOut : laidOutB Tryd.prog = true := by kernel_rfl
theorem readable : ∀ t ∈ Tryd.f5.params.toList, Tryd.prog.readableRec t = true ∧ t < Tryd.prog.types.size := by
  rw [Tryd.params5]
  intro t ht
  simp at ht
  rcases ht with rfl | rfl | rfl
  all_goals exact ⟨by kernel_rfl, of_decide_eq_true (by kernel_rfl)⟩
theorem results : Tryd.f5.resultTypes = #[4] := by kernel_rfl

set_option maxRecDepth 100000 in
theorem contract (H : Type) (enc : TypeId × Value → H) (W : World) (base : Nat) (args : Array Value) (ds gs : List (DataW H)) (before : List MemPlace)
    (hval : ∀ (j : Nat) t v, Tryd.f5.params[j]? = some t → args[j]? = some v → Value.okWide Tryd.prog W .any base t v)
    (hW : DataW.Whole enc Tryd.prog Tryd.f5.params.toList Rows.numsBackSpec.vars false W args.toList ds gs before)
    (hg : errT W) : Calls Tryd.prog 5 args W fun e W' => ∃ v, e = .returned v ∧ Rows.numsBackSpec.post enc Tryd.prog Tryd.f5 false true false false W args v W' := by
  have hW' := hW
  obtain ⟨p, q, hA0, hV, rfl, hfz, hnd⟩ := hW
  have hA : DataW.TrodAll enc Tryd.prog W 0 (fun _ => true) true Tryd.f5.params.toList args.toList ds p := hA0
  rw [Tryd.params5] at hA hval
  obtain ⟨v0, vs0, d0, ds0, p0, q0, hargs, rfl, rfl, h0, r0⟩ := trodAll_cons hA
  obtain ⟨v1, vs1, d1, ds1, p1, q1, rfl, rfl, rfl, h1, r1⟩ := trodAll_cons r0
  obtain ⟨v2, vs2, d2, ds2, p2, q2, rfl, rfl, rfl, h2, r2⟩ := trodAll_cons r1
  obtain ⟨rfl, rfl, rfl⟩ := trodAll_nil r2
  obtain rfl : args = #[v0, v1, v2] := by cases args; simp_all
  obtain ⟨rfl, rfl⟩ := trodVars_none hV
  obtain ⟨A0, c0, l0, rfl, hN0, hC0, hM0, hZ0⟩ := open_nums Tryd.underlying42 Tryd.underlying3 (by kernel_rfl) (hval 0 42 v0 rfl rfl) h0
  obtain ⟨s1, rfl, hd1, hp1, ws1⟩ := Go.ChangeMaps.open_string Tryd.underlying9 (hval 1 9 v1 rfl rfl) h1
  rw [str_is s1]
  obtain ⟨s2, rfl, hd2, hp2, ws2⟩ := Go.ChangeMaps.open_string Tryd.underlying9 (hval 2 9 v2 rfl rfl) h2
  rw [str_is s2]
  clear hA0 hval
  refine (numsBack_any A0 c0 l0 s1.data.toList s2.data.toList W hN0 hC0 hM0 hZ0 (by simpa [maxLen] using ws1) (by simpa [maxLen] using ws2) hg).mono fun e W' ⟨he, hf⟩ => ?_
  subst he
  exact ⟨_, rfl, law_post laidOut readable results Tryd.underlying4 rfl hW' rfl hf.below⟩

set_option maxRecDepth 100000 in
theorem lifted (os : Os) (started : os.Started) (H : Type) (enc : TypeId × Value → H) :
    ReturnsInHanded {} Tryd.checked os 5 .any (fun w args => (Rows.numsBackSpec.pre enc Tryd.prog Tryd.f5 [] false w args ∧ laidMetH Tryd.prog dLaid w) ∧ sizedMet enc Tryd.prog Tryd.f5 (OpenSpec.ofChange Rows.numsBackSpec) false w args)
      (Rows.numsBackSpec.post enc Tryd.prog Tryd.f5 false true false false) := by
  refine returnsInHanded_of_change_and (C := Tryd.checked) (X := fun w _ => laidMetH Tryd.prog dLaid w) (fun _ _ _ hh h => h.of_heap hh) dOwn started (by kernel_rfl) Tryd.func5
    (ChangeSpec.witness_at (enc := enc) (C := Tryd.checked) (os := os) (X := fun w _ => laidMetH Tryd.prog dLaid w) false (laidWorld os) #[.slice none 0 0, .string ByteArray.empty, .string ByteArray.empty] 8 rfl (by kernel_rfl) (by kernel_rfl) (by kernel_rfl) (by kernel_rfl) (by kernel_rfl) (laidWorld_met os _)) ?_
  intro W base args ds gs before hval hW _ _ hL _
  exact contract H enc W base args ds gs before hval hW (errT_of_laid hL)

theorem numsBack_row : Rows.NumsBackSaid :=
  OpenClaim.holds_of_wide 5 Tryd.f5 rfl rfl rfl rfl rfl rfl rfl ⟨rfl, rfl, rfl, rfl, rfl⟩ rfl rfl rfl rfl rfl (by kernel_rfl) Tryd.func5 (by kernel_rfl)
    (of_decide_eq_true (by kernel_rfl)) (by unfold Func.isWrapper; first | (rw [if_pos (by decide +kernel)]; kernel_rfl) | (rw [if_neg (by decide +kernel)]; exact ⟨rfl, rfl⟩))
    (fun os started H enc _ => lifted os started H enc)
theorem numsBack_holds : Rows.NumsBackCardSaid :=
  Claim7.holds_tied_plain_at .later [] [.handle] true (true, "b123720e4dd10dda4afd9a9137f42657725ec316accd180c91bf0d64dc26dd5a") true
    numsBack_row (fun _ h => by cases h) (by kernel_rfl) (fun _ h => by cases h) numsBack_row_tie rfl ⟨rfl, rfl⟩ (by kernel_rfl) rfl
    (fun f fn hf hfn => by
      obtain rfl : f = 5 := Option.some.inj ((show Tryd.prog.funcNamed "lyceum/lyceumlaw03.NumsBack" = some 5 by kernel_rfl).symm.trans hf) |>.symm
      obtain rfl : fn = Tryd.f5 := (Option.some.inj (Tryd.func5.symm.trans hfn)).symm
      exact ⟨by kernel_rfl, fun j t ht => by
          rw [Tryd.params5] at ht
          match j, ht with
          | 0, ht => obtain rfl : 42 = t := by simpa using ht
                     exact (show Tryd.prog.wantsStandIn 42 = false by kernel_rfl)
          | 1, ht => obtain rfl : 9 = t := by simpa using ht
                     exact (show Tryd.prog.wantsStandIn 9 = false by kernel_rfl)
          | 2, ht => obtain rfl : 9 = t := by simpa using ht
                     exact (show Tryd.prog.wantsStandIn 9 = false by kernel_rfl)
          | j + 3, ht => simp at ht⟩)
    (by kernel_rfl)
end Go.Proofs.YtijcochanobpgaaDoor.rowNumsBack

