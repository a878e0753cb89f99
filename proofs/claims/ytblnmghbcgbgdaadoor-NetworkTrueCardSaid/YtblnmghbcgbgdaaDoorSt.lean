/-
  A row that works, or one that failed (with whatever code).
  Conditions: none.
-/
import Derived.Test.YtblnmghbcgbgdaaDoorAround
namespace Go.Proofs.YtblnmghbcgbgdaaDoor
open Go.RowKit Nums
set_option linter.unusedVariables false
def St (g : Bool) (s : ByteArray) (p b : Nat) (w : World) : Prop := ∃ c : Int, (c == 0) = g ∧ Rw s p c b w
namespace St
theorem fr {g : Bool} {s : ByteArray} {p b : Nat} {w w' : World} {S : Nat → Prop} (h : St g s p b w) (hf : Fr S w w') (hs : ¬ S b) : St g s p b w' := by
  obtain ⟨c, hc, hR⟩ := h
  exact ⟨c, hc, Blk.fr hR hf hs⟩
theorem fr0 {g : Bool} {s : ByteArray} {p b : Nat} {w w' : World} (h : St g s p b w) (hf : Fr noneOf w w') : St g s p b w' := h.fr hf (fun x => x)
theorem alloc {g : Bool} {s : ByteArray} {p b : Nat} {w : World} (h : St g s p b w) (o : Obj) : St g s p b (w.alloc o) := h.fr0 ((Fr.refl noneOf w).alloc o)
theorem far {g : Bool} {s : ByteArray} {p b : Nat} {w : World} (h : St g s p b w) {a : Addr} (hp : b ≠ a.block) (u : Value) : St g s p b (w.setCell a u) := by
  obtain ⟨c, hc, hR⟩ := h
  exact ⟨c, hc, Blk.far hR hp u⟩
theorem good {s : ByteArray} {p b : Nat} {w : World} (h : St true s p b w) : Rw s p 0 b w := by
  obtain ⟨c, hc, hR⟩ := h
  have : c = 0 := by simpa using hc
  subst this
  exact hR
theorem of {s : ByteArray} {p b : Nat} {w : World} (h : Rw s p 0 b w) : St true s p b w := ⟨0, rfl, h⟩
end St
end Go.Proofs.YtblnmghbcgbgdaaDoor
