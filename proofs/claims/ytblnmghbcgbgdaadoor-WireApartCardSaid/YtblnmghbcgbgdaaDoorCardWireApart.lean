/-
  WireApart: for every input the law returns true; the arguments read as before.
  Conditions: none.
-/
import Derived.Test.YtblnmghbcgbgdaaDoorWireApart
import Derived.Test.YtblnmghbcgbgdaaDoorShut
import Derived.Test.YtblnmghbcgbgdaaDoorShape
import Derived.Test.YtblnmghbcgbgdaaDoorDoor
import Derived.Test.YtblnmghbcgbgdaaDoorTie
import Derived.Test.YtblnmghbcgbgdaaDoorCards
import Derived.SevenTiedAt
import Derived.Test.YtblnmghbcgbgdaaDoorRows
namespace Go.Proofs.YtblnmghbcgbgdaaDoor.rowWireApart
open Go.ChangeShapes Go.WideShapes Go.ChangeAt Go.RowKit
set_option linter.unusedVariables false

theorem own : ownKnob Tryd.prog.godebug = none := by kernel_rfl
theorem laidOut : laidOutB Tryd.prog = true := by kernel_rfl
theorem readable : ∀ t ∈ Tryd.f3.params.toList, Tryd.prog.readableRec t = true ∧ t < Tryd.prog.types.size := by
  rw [Tryd.params3]
  intro t ht
  simp at ht
  subst ht
  exact ⟨by kernel_rfl, of_decide_eq_true (by kernel_rfl)⟩
theorem results : Tryd.f3.resultTypes = #[4] := by kernel_rfl

set_option maxRecDepth 100000 in
theorem contract (H : Type) (enc : TypeId × Value → H) (W : World) (base : Nat) (args : Array Value) (ds gs : List (DataW H)) (before : List MemPlace)
    (hval : ∀ (j : Nat) t v, Tryd.f3.params[j]? = some t → args[j]? = some v → Value.okWide Tryd.prog W .any base t v)
    (hW : DataW.Whole enc Tryd.prog Tryd.f3.params.toList Rows.wireApartSpec.vars false W args.toList ds gs before)
    (hg : errT W) : Calls Tryd.prog 3 args W fun e W' => ∃ v, e = .returned v ∧ Rows.wireApartSpec.post enc Tryd.prog Tryd.f3 false true false false W args v W' := by
  have hW' := hW
  obtain ⟨p, q, hA0, hV, rfl, hfz, hnd⟩ := hW
  have hA : DataW.TrodAll enc Tryd.prog W 0 (fun _ => true) true Tryd.f3.params.toList args.toList ds p := hA0
  rw [Tryd.params3] at hA hval
  obtain ⟨v0, vs0, d0, ds0, p0, q0, hargs, rfl, rfl, h0, r0⟩ := trodAll_cons hA
  obtain ⟨v1, vs1, d1, ds1, p1, q1, rfl, rfl, rfl, h1, r1⟩ := trodAll_cons r0
  obtain ⟨rfl, rfl, rfl⟩ := trodAll_nil r1
  obtain rfl : args = #[v0, v1] := by cases args; simp_all
  obtain ⟨rfl, rfl⟩ := trodVars_none hV
  obtain ⟨L0, rfl, F0⟩ := open_flat (s := [.num .i64, .num .i64, .num .i64, .boo, .str, .str, .num .i64, .num .i64]) 9 Tryd.underlying25 (by kernel_rfl) (by kernel_rfl) (hval 0 25 v0 rfl rfl) h0
  obtain ⟨x0a, l0a, rfl, w0a, F0a⟩ := F0.num
  obtain ⟨x0b, l0b, rfl, w0b, F0b⟩ := F0a.num
  obtain ⟨x0c, l0c, rfl, w0c, F0c⟩ := F0b.num
  obtain ⟨x0d, l0d, rfl, F0d⟩ := F0c.boo
  obtain ⟨x0e, l0e, rfl, w0e, F0e⟩ := F0d.str
  obtain ⟨x0f, l0f, rfl, w0f, F0f⟩ := F0e.str
  obtain ⟨x0g, l0g, rfl, w0g, F0g⟩ := F0f.num
  obtain ⟨x0h, l0h, rfl, w0h, F0h⟩ := F0g.num
  obtain rfl := F0h.done
  obtain ⟨L1, rfl, F1⟩ := open_flat (s := [.num .i64, .num .i64, .num .i64, .boo, .str, .str, .num .i64, .num .i64]) 9 Tryd.underlying25 (by kernel_rfl) (by kernel_rfl) (hval 1 25 v1 rfl rfl) h1
  obtain ⟨x1a, l1a, rfl, w1a, F1a⟩ := F1.num
  obtain ⟨x1b, l1b, rfl, w1b, F1b⟩ := F1a.num
  obtain ⟨x1c, l1c, rfl, w1c, F1c⟩ := F1b.num
  obtain ⟨x1d, l1d, rfl, F1d⟩ := F1c.boo
  obtain ⟨x1e, l1e, rfl, w1e, F1e⟩ := F1d.str
  obtain ⟨x1f, l1f, rfl, w1f, F1f⟩ := F1e.str
  obtain ⟨x1g, l1g, rfl, w1g, F1g⟩ := F1f.num
  obtain ⟨x1h, l1h, rfl, w1h, F1h⟩ := F1g.num
  obtain rfl := F1h.done
  clear hA0 hval
  refine (apart_any ⟨x0a, x0b, x0c, x0d, x0e, x0f, x0g, x0h⟩ ⟨x1a, x1b, x1c, x1d, x1e, x1f, x1g, x1h⟩ W w0e w0f w1e w1f hg).mono fun e W' ⟨he, hf⟩ => ?_
  subst he
  exact ⟨_, rfl, law_post laidOut readable results Tryd.underlying4 rfl hW' rfl hf.below⟩

set_option maxRecDepth 100000 in
theorem lifted (os : Os) (started : os.Started) (H : Type) (enc : TypeId × Value → H) :
    ReturnsInHanded {} Tryd.checked os 3 .any (fun w args => (Rows.wireApartSpec.pre enc Tryd.prog Tryd.f3 [] false w args ∧ laidMetH Tryd.prog dLaid w) ∧ sizedMet enc Tryd.prog Tryd.f3 (OpenSpec.ofChange Rows.wireApartSpec) false w args)
      (Rows.wireApartSpec.post enc Tryd.prog Tryd.f3 false true false false) := by
  refine returnsInHanded_of_change_and (C := Tryd.checked) (X := fun w _ => laidMetH Tryd.prog dLaid w) (fun _ _ _ hh h => h.of_heap hh) dOwn started (by kernel_rfl) Tryd.func3
    (ChangeSpec.witness_at (enc := enc) (C := Tryd.checked) (os := os) (X := fun w _ => laidMetH Tryd.prog dLaid w) false (laidWorld os) #[.agg #[.int .i64 0, .int .i64 0, .int .i64 0, .bool false, .string ByteArray.empty, .string ByteArray.empty, .int .i64 0, .int .i64 0], .agg #[.int .i64 0, .int .i64 0, .int .i64 0, .bool false, .string ByteArray.empty, .string ByteArray.empty, .int .i64 0, .int .i64 0]] 8 rfl (by kernel_rfl) (by kernel_rfl) (by kernel_rfl) (by kernel_rfl) (by kernel_rfl) (laidWorld_met os _)) ?_
  intro W base args ds gs before hval hW _ _ hL _
  exact contract H enc W base args ds gs before hval hW (errT_of_laid hL)

theorem wireApart_row : Rows.WireApartSaid :=
  OpenClaim.holds_of_wide 3 Tryd.f3 rfl rfl rfl rfl rfl rfl rfl ⟨rfl, rfl, rfl, rfl, rfl⟩ rfl rfl rfl rfl rfl (by kernel_rfl) Tryd.func3 (by kernel_rfl)
    (of_decide_eq_true (by kernel_rfl)) (by unfold Func.isWrapper; first | (rw [if_pos (by decide +kernel)]; kernel_rfl) | (rw [if_neg (by decide +kernel)]; exact ⟨rfl, rfl⟩))
    (fun os started H enc _ => lifted os started H enc)
theorem wireApart_holds : Rows.WireApartCardSaid :=
  Claim7.holds_tied_plain_at .later [] [.handle] true (true, "b2c100aa23c3b144e9b8ee5415b34487f5dd11f6b7ad189a848e3fd783872358") true
    wireApart_row (fun _ h => by cases h) (by kernel_rfl) (fun _ h => by cases h) wireApart_row_tie rfl ⟨rfl, rfl⟩ (by kernel_rfl) rfl
    (fun f fn hf hfn => by
      obtain rfl : f = 3 := Option.some.inj ((show Tryd.prog.funcNamed "lyceum/lyceumlaw19.WireApart" = some 3 by kernel_rfl).symm.trans hf) |>.symm
      obtain rfl : fn = Tryd.f3 := (Option.some.inj (Tryd.func3.symm.trans hfn)).symm
      exact ⟨by kernel_rfl, fun j t ht => by
          rw [Tryd.params3] at ht
          match j, ht with
          | 0, ht => obtain rfl : 25 = t := by simpa using ht
                     exact (show Tryd.prog.wantsStandIn 25 = false by kernel_rfl)
          | 1, ht => obtain rfl : 25 = t := by simpa using ht
                     exact (show Tryd.prog.wantsStandIn 25 = false by kernel_rfl)
          | j + 2, ht => simp at ht⟩)
    (by kernel_rfl)
end Go.Proofs.YtblnmghbcgbgdaaDoor.rowWireApart

