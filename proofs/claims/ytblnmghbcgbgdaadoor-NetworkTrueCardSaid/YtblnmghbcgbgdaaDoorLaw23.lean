/-
  lyceumlaw23's awake.
-/
import Derived.Test.YtblnmghbcgbgdaaDoorNetQb
namespace Go.Proofs.YtblnmghbcgbgdaaDoor
open Go.RowKit
set_option linter.unusedVariables false

theorem fr_base {w w1 w2 : World} {b : Nat} {v : World} (h : Fr noneOf w w1) (k : Fr (SO (w.heap.size + 3) b v) w1 w2) : Fr noneOf w w2 := h.trans' k (fun i hi e => by obtain ⟨⟨e, _⟩, _⟩ := e; omega)
theorem awake_any (w : World) : Calls Tryd.prog 16 #[] w fun e w' => e = .returned (.bool true) ∧ Fr noneOf w w' := by
  have i1 : I64 1 := ⟨by omega, by omega⟩
  have i2 : I64 2 := ⟨by omega, by omega⟩
  have m1 : mayBe 1 2 (ByteArray.size ⟨#[]⟩) = true := by decide
  have m2 : mayBe 2 1 (ByteArray.size ⟨#[]⟩) = true := by decide
  have I := Lib.hid (And.intro i1 i2)
  have M := Lib.hid (And.intro m1 m2)
  clear i1 i2 m1 m2
  go_enter Tryd.func16, Tryd.ntmps16
  go_wp2_with (first
    | (go_at_call 17; (with_reducible refine (net_newx 1 _).mono ?_); rintro e w1 ⟨rfl, hN, hz1, hf1⟩; have HN1 := Lib.hid (hN (w.heap.size + 3) ⟨by omega, by omega⟩ ⟨by omega, by omega⟩); clear hN)
    | (go_at_call 19; refine (net_send 1 2 ⟨#[]⟩ HN1.out I.out.1 I.out.2 (by decide) M.out.1 (by decide) (by decide) (by decide) (by decide) (by omega)).mono ?_; rintro e w2 ⟨rfl, hN, hf2⟩; have HN2 := Lib.hid hN; clear hN HN1)
    | (go_at_call 19; refine (net_full 1 2 ⟨#[]⟩ HN2.out I.out.1 I.out.2 (by decide) M.out.1 (by decide) (by decide) (by decide)).mono ?_; rintro e w3 ⟨rfl, hN, hf3⟩; have HN3 := Lib.hid hN; clear hN HN2)
    | (go_at_call 19; refine (net_send 2 1 ⟨#[]⟩ HN3.out I.out.2 I.out.1 (by decide) M.out.2 (by decide) (by decide) (by decide) (by decide) (by have := hf2.size; have := hf3.size; omega)).mono ?_; rintro e w4 ⟨rfl, hN, hf4⟩; have HN4 := Lib.hid hN; clear hN HN3)
    | (go_at_call 44; refine (net_len HN4.out).mono ?_; rintro e w' ⟨rfl, rfl⟩)
    | (go_at_call 45; refine (net_lost HN4.out).mono ?_; rintro e w' ⟨rfl, rfl⟩))
  go_ret
  exact ⟨rfl, fr_base ((fr_base hf1 hf2).trans' hf3 (fun i hi e => by have e : i = w.heap.size + 1 := e; omega)) hf4⟩
end Go.Proofs.YtblnmghbcgbgdaaDoor
