/-
  fault.Code of a number with a place around it.
-/
import Derived.Test.YtblnmghbcgbgdaaDoorAsA
namespace Go.Proofs.YtblnmghbcgbgdaaDoor
open Go.RowKit Nums
set_option linter.unusedVariables false

theorem code_around (g : Nat) (n p : Int) (w : World) (hg : errT w) (hb : Blk w g 154 (arC n p)) : Calls Tryd.prog 11 #[.iface 152 (.pointer (some ⟨g, 0, none⟩))] w fun e w' => e = .returned (.int .i64 n) ∧ Fr noneOf w w' := by
  have hn := Blk.new w 32 #[.int .i64 0]
  have hc : (w.alloc (.cells #[.int .i64 0] 32)).cell? ⟨w.heap.size, 0, none⟩ = some (.int .i64 0) := hn.cell 0
  have hf := hn.frozen 0
  have HG := Lib.hid (hg.fr ((Fr.refl noneOf w).alloc (.cells #[.int .i64 0] 32)))
  have HB := Lib.hid (hb.alloc (.cells #[.int .i64 0] 32))
  have HN := Lib.hid hn
  clear hg hn hb
  go_enter Tryd.func11, Tryd.ntmps11
  go_wp2_with (go_at_call 34; refine (as_around g n p _ _ _ HG.out HB.out hc hf).mono ?_; rintro e w' ⟨rfl, w1, rfl, hf1⟩; have HR := Lib.hid ((HN.out.fr0 hf1).set_ 0 (.int .i64 n)); have cR : (w1.setCell ⟨w.heap.size, 0, none⟩ (.int .i64 n)).cell? ⟨w.heap.size, 0, none⟩ = some (.int .i64 n) := HR.out.cell 0)
  go_ret
  exact ⟨rfl, Fr.setCell (((Fr.refl noneOf w).alloc _).trans hf1) (.inr (Nat.le_refl _)) _⟩
end Go.Proofs.YtblnmghbcgbgdaaDoor
