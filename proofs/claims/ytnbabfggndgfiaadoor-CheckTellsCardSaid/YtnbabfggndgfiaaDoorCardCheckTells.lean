/-
  CheckTells: for every input the law returns true; the arguments read as before.
  Conditions: none.
-/
import Derived.Test.YtnbabfggndgfiaaDoorTells2
import Derived.Test.YtnbabfggndgfiaaDoorShut
import Derived.Test.YtnbabfggndgfiaaDoorDoor
import Derived.Test.YtnbabfggndgfiaaDoorTie
import Derived.Test.YtnbabfggndgfiaaDoorCards
import Derived.SevenTiedAt
import Derived.Test.YtnbabfggndgfiaaDoorRows
namespace Go.Proofs.YtnbabfggndgfiaaDoor.rowCheckTells
open Go.ChangeShapes Go.WideShapes Go.ChangeAt Go.RowKit
set_option linter.unusedVariables false

theorem own : ownKnob Tryd.prog.godebug = none := by kernel_rfl
theorem laidOut : laidOutB Tryd.prog = true := by kernel_rfl
theorem readable : ∀ t ∈ Tryd.f3.params.toList, Tryd.prog.readableRec t = true ∧ t < Tryd.prog.types.size := by
  rw [Tryd.params3]
  intro t ht
  simp at ht
  rcases ht with rfl | rfl | rfl
  all_goals exact ⟨by kernel_rfl, of_decide_eq_true (by kernel_rfl)⟩
theorem results : Tryd.f3.resultTypes = #[4] := by kernel_rfl

theorem contract (H : Type) (enc : TypeId × Value → H) (W : World) (base : Nat) (args : Array Value) (ds gs : List (DataW H)) (before : List MemPlace)
    (hval : ∀ (j : Nat) t v, Tryd.f3.params[j]? = some t → args[j]? = some v → Value.okWide Tryd.prog W .any base t v)
    (hW : DataW.Whole enc Tryd.prog Tryd.f3.params.toList Rows.checkTellsSpec.vars false W args.toList ds gs before)
    (hg : errT W) : Calls Tryd.prog 3 args W fun e W' => ∃ v, e = .returned v ∧ Rows.checkTellsSpec.post enc Tryd.prog Tryd.f3 false true false false W args v W' := by
  have hW' := hW
  obtain ⟨p, q, hA0, hV, rfl, hfz, hnd⟩ := hW
  have hA : DataW.TrodAll enc Tryd.prog W 0 (fun _ => true) true Tryd.f3.params.toList args.toList ds p := hA0
  rw [Tryd.params3] at hA hval
  obtain ⟨v0, vs0, d0, ds0, p0, q0, hargs, rfl, rfl, h0, r0⟩ := trodAll_cons hA
  obtain ⟨v1, vs1, d1, ds1, p1, q1, rfl, rfl, rfl, h1, r1⟩ := trodAll_cons r0
  obtain ⟨v2, vs2, d2, ds2, p2, q2, rfl, rfl, rfl, h2, r2⟩ := trodAll_cons r1
  obtain ⟨rfl, rfl, rfl⟩ := trodAll_nil r2
  obtain rfl : args = #[v0, v1, v2] := by cases args; simp_all
  obtain ⟨rfl, rfl⟩ := trodVars_none hV
  obtain ⟨s0, rfl, hd0, hp0, ws0⟩ := Go.ChangeMaps.open_string Tryd.underlying9 (hval 0 9 v0 rfl rfl) h0
  obtain ⟨n1, rfl, hd1, hp1, wn1⟩ := open_int Tryd.underlying3 (hval 1 3 v1 rfl rfl) h1
  obtain ⟨m2, rfl, hd2, hp2, wn2⟩ := open_int Tryd.underlying5 (hval 2 5 v2 rfl rfl) h2
  obtain ⟨b2, rfl⟩ := wf_u8 wn2
  clear hA0 hval
  refine (checkTells_any s0 n1 b2 W ws0 (wf_int wn1).1 (wf_int wn1).2 hg).mono fun e W' ⟨he, hf⟩ => ?_
  subst he
  exact ⟨_, rfl, law_post laidOut readable results Tryd.underlying4 rfl hW' rfl hf.below⟩

set_option maxRecDepth 100000 in
theorem lifted (os : Os) (started : os.Started) (H : Type) (enc : TypeId × Value → H) :
    ReturnsInHanded {} Tryd.checked os 3 .any (fun w args => (Rows.checkTellsSpec.pre enc Tryd.prog Tryd.f3 [] false w args ∧ laidMetH Tryd.prog dLaid w) ∧ sizedMet enc Tryd.prog Tryd.f3 (OpenSpec.ofChange Rows.checkTellsSpec) false w args)
      (Rows.checkTellsSpec.post enc Tryd.prog Tryd.f3 false true false false) := by
  refine returnsInHanded_of_change_and (C := Tryd.checked) (X := fun w _ => laidMetH Tryd.prog dLaid w) (fun _ _ _ hh h => h.of_heap hh) dOwn started (by kernel_rfl) Tryd.func3
    (ChangeSpec.witness_at (enc := enc) (C := Tryd.checked) (os := os) (X := fun w _ => laidMetH Tryd.prog dLaid w) false (laidWorld os) #[.string ByteArray.empty, .int .i64 0, .int .u8 0] 8 rfl (by kernel_rfl) (by kernel_rfl) (by kernel_rfl) (by kernel_rfl) (by kernel_rfl) (laidWorld_met os _)) ?_
  intro W base args ds gs before hval hW _ _ hL _
  exact contract H enc W base args ds gs before hval hW (errT_of_laid hL)

theorem checkTells_row : Rows.CheckTellsSaid :=
  OpenClaim.holds_of_wide 3 Tryd.f3 rfl rfl rfl rfl rfl rfl rfl ⟨rfl, rfl, rfl, rfl, rfl⟩ rfl rfl rfl rfl rfl (by kernel_rfl) Tryd.func3 (by kernel_rfl)
    (of_decide_eq_true (by kernel_rfl)) (by unfold Func.isWrapper; first | (rw [if_pos (by decide +kernel)]; kernel_rfl) | (rw [if_neg (by decide +kernel)]; exact ⟨rfl, rfl⟩))
    (fun os started H enc _ => lifted os started H enc)
theorem checkTells_holds : Rows.CheckTellsCardSaid :=
  Claim7.holds_tied_plain_at .later [] [.handle] true (true, "d0e6de97d714ef26889a441f92b3f6bed6ab813672c181127d098c2dee9bca8b") true
    checkTells_row (fun _ h => by cases h) (by kernel_rfl) (fun _ h => by cases h) checkTells_row_tie rfl ⟨rfl, rfl⟩ (by kernel_rfl) rfl
    (fun f fn hf hfn => by
      obtain rfl : f = 3 := Option.some.inj ((show Tryd.prog.funcNamed "lyceum/lyceumlaw02.CheckTells" = some 3 by kernel_rfl).symm.trans hf) |>.symm
      obtain rfl : fn = Tryd.f3 := (Option.some.inj (Tryd.func3.symm.trans hfn)).symm
      exact ⟨by kernel_rfl, fun j t ht => by
          rw [Tryd.params3] at ht
          match j, ht with
          | 0, ht => obtain rfl : 9 = t := by simpa using ht
                     exact (show Tryd.prog.wantsStandIn 9 = false by kernel_rfl)
          | 1, ht => obtain rfl : 3 = t := by simpa using ht
                     exact (show Tryd.prog.wantsStandIn 3 = false by kernel_rfl)
          | 2, ht => obtain rfl : 5 = t := by simpa using ht
                     exact (show Tryd.prog.wantsStandIn 5 = false by kernel_rfl)
          | j + 3, ht => simp at ht⟩)
    (by kernel_rfl)
end Go.Proofs.YtnbabfggndgfiaaDoor.rowCheckTells

