/-
  NetworkTrue: for every input the law returns true; the arguments read as before.
  Conditions: none.
-/
import Derived.Test.YtblnmghbcgbgdaaDoorTrueLaw
import Derived.Test.YtblnmghbcgbgdaaDoorShut
import Derived.Test.YtblnmghbcgbgdaaDoorShape
import Derived.Test.YtblnmghbcgbgdaaDoorDoor
import Derived.Test.YtblnmghbcgbgdaaDoorTie
import Derived.Test.YtblnmghbcgbgdaaDoorCards
import Derived.SevenTiedAt
import Derived.Test.YtblnmghbcgbgdaaDoorRows
namespace Go.Proofs.YtblnmghbcgbgdaaDoor.rowNetworkTrue
open Go.ChangeShapes Go.WideShapes Go.ChangeAt Go.RowKit
set_option linter.unusedVariables false

theorem own : ownKnob Tryd.prog.godebug = none := by kernel_rfl
theorem laidOut : laidOutB Tryd.prog = true := by kernel_rfl
theorem readable : ∀ t ∈ Tryd.f6.params.toList, Tryd.prog.readableRec t = true ∧ t < Tryd.prog.types.size := by
  rw [Tryd.params6]
  intro t ht
  simp at ht
  subst ht
  exact ⟨by kernel_rfl, of_decide_eq_true (by kernel_rfl)⟩
theorem results : Tryd.f6.resultTypes = #[4] := by kernel_rfl

set_option maxRecDepth 100000 in
theorem contract (H : Type) (enc : TypeId × Value → H) (W : World) (base : Nat) (args : Array Value) (ds gs : List (DataW H)) (before : List MemPlace)
    (hval : ∀ (j : Nat) t v, Tryd.f6.params[j]? = some t → args[j]? = some v → Value.okWide Tryd.prog W .any base t v)
    (hW : DataW.Whole enc Tryd.prog Tryd.f6.params.toList Rows.networkTrueSpec.vars false W args.toList ds gs before)
    (hg : errT W) : Calls Tryd.prog 6 args W fun e W' => ∃ v, e = .returned v ∧ Rows.networkTrueSpec.post enc Tryd.prog Tryd.f6 false true false false W args v W' := by
  have hW' := hW
  obtain ⟨p, q, hA0, hV, rfl, hfz, hnd⟩ := hW
  have hA : DataW.TrodAll enc Tryd.prog W 0 (fun _ => true) true Tryd.f6.params.toList args.toList ds p := hA0
  rw [Tryd.params6] at hA hval
  obtain ⟨v0, vs0, d0, ds0, p0, q0, hargs, rfl, rfl, h0, r0⟩ := trodAll_cons hA
  obtain ⟨rfl, rfl, rfl⟩ := trodAll_nil r0
  obtain rfl : args = #[v0] := by cases args; simp_all
  obtain ⟨rfl, rfl⟩ := trodVars_none hV
  obtain ⟨A0, c0, L0, rfl, hlc0, hcm0, hF0, hR0⟩ := open_flats (s := sh23) 9 Tryd.underlying43 (by kernel_rfl) (by kernel_rfl) (by decide) (hval 0 43 v0 rfl rfl) h0
  clear hA0 hval
  refine (networkTrue_law A0 c0 L0 W hlc0 hcm0 hF0 hR0 hg).mono fun e W' ⟨he, hf⟩ => ?_
  subst he
  exact ⟨_, rfl, law_post laidOut readable results Tryd.underlying4 rfl hW' rfl hf.below⟩

set_option maxRecDepth 100000 in
theorem lifted (os : Os) (started : os.Started) (H : Type) (enc : TypeId × Value → H) :
    ReturnsInHanded {} Tryd.checked os 6 .any (fun w args => (Rows.networkTrueSpec.pre enc Tryd.prog Tryd.f6 [] false w args ∧ laidMetH Tryd.prog dLaid w) ∧ sizedMet enc Tryd.prog Tryd.f6 (OpenSpec.ofChange Rows.networkTrueSpec) false w args)
      (Rows.networkTrueSpec.post enc Tryd.prog Tryd.f6 false true false false) := by
  refine returnsInHanded_of_change_and (C := Tryd.checked) (X := fun w _ => laidMetH Tryd.prog dLaid w) (fun _ _ _ hh h => h.of_heap hh) dOwn started (by kernel_rfl) Tryd.func6
    (ChangeSpec.witness_at (enc := enc) (C := Tryd.checked) (os := os) (X := fun w _ => laidMetH Tryd.prog dLaid w) false (laidWorld os) #[.slice none 0 0] 8 rfl (by kernel_rfl) (by kernel_rfl) (by kernel_rfl) (by kernel_rfl) (by kernel_rfl) (laidWorld_met os _)) ?_
  intro W base args ds gs before hval hW _ _ hL _
  exact contract H enc W base args ds gs before hval hW (errT_of_laid hL)

theorem networkTrue_row : Rows.NetworkTrueSaid :=
  OpenClaim.holds_of_wide 6 Tryd.f6 rfl rfl rfl rfl rfl rfl rfl ⟨rfl, rfl, rfl, rfl, rfl⟩ rfl rfl rfl rfl rfl (by kernel_rfl) Tryd.func6 (by kernel_rfl)
    (of_decide_eq_true (by kernel_rfl)) (by unfold Func.isWrapper; first | (rw [if_pos (by decide +kernel)]; kernel_rfl) | (rw [if_neg (by decide +kernel)]; exact ⟨rfl, rfl⟩))
    (fun os started H enc _ => lifted os started H enc)
theorem networkTrue_holds : Rows.NetworkTrueCardSaid :=
  Claim7.holds_tied_plain_at .later [] [.handle] true (true, "b2c100aa23c3b144e9b8ee5415b34487f5dd11f6b7ad189a848e3fd783872358") true
    networkTrue_row (fun _ h => by cases h) (by kernel_rfl) (fun _ h => by cases h) networkTrue_row_tie rfl ⟨rfl, rfl⟩ (by kernel_rfl) rfl
    (fun f fn hf hfn => by
      obtain rfl : f = 6 := Option.some.inj ((show Tryd.prog.funcNamed "lyceum/lyceumlaw23.NetworkTrue" = some 6 by kernel_rfl).symm.trans hf) |>.symm
      obtain rfl : fn = Tryd.f6 := (Option.some.inj (Tryd.func6.symm.trans hfn)).symm
      exact ⟨by kernel_rfl, fun j t ht => by
          rw [Tryd.params6] at ht
          match j, ht with
          | 0, ht => obtain rfl : 43 = t := by simpa using ht
                     exact (show Tryd.prog.wantsStandIn 43 = false by kernel_rfl)
          | j + 1, ht => simp at ht⟩)
    (by kernel_rfl)
end Go.Proofs.YtblnmghbcgbgdaaDoor.rowNetworkTrue

