/-
  Contract of package check's Sum of a text, and of the law's helpers awake and short.
  Conditions: the text is at most 2^63 - 1 bytes long (as every string is).
-/
import Derived.Test.YtblnmghbcgbgdaaDoorCheck
namespace Go.Proofs.YtblnmghbcgbgdaaDoor
open Go.RowKit Crc
set_option linter.unusedVariables false

theorem sumtext_any (s : ByteArray) (w : World) (hs : s.size ≤ 9223372036854775807) :
    Calls Tryd.prog 56 #[.string s] w fun e w' => e = .returned (V32 (crc s.data.toList)) ∧ Fr noneOf w w' := by
  go_enter Tryd.func56, Tryd.ntmps56
  go_wp2_with fail
  refine (new_any _).mono ?_
  rintro e w1 ⟨rfl, rfl⟩
  go_wp2_with fail
  refine (write_any w.heap.size (w.heap.size + 1) 0 1 _ ones [s] _ ?_ rfl (by omega) ?_ (by omega)).mono ?_
  · exact (Blk.new _ _ _).alloc _
  · intro j t ht
    match j, ht with
    | 0, ht => simp at ht; subst ht; exact ⟨by simp, hs⟩
  rintro e w2 ⟨rfl, hb, hf⟩
  go_wp2_with fail
  refine (sum_any w.heap.size _ _ hb).mono ?_
  rintro e w3 ⟨rfl, rfl⟩
  go_wp2
  go_ret
  refine ⟨by simp [crc], ?_⟩
  exact (((Fr.refl noneOf w).alloc _).alloc _).trans' hf (fun i hi h => by unfold justOf at h; omega)
theorem size_mk (l : List UInt8) : (⟨l.toArray⟩ : ByteArray).size = l.length := by show l.toArray.size = _; simp
theorem sumlist_any (l : List UInt8) (w : World) (hl : l.length ≤ 9223372036854775807) :
    Calls Tryd.prog 56 #[.string ⟨l.toArray⟩] w fun e w' => e = .returned (.int .u32 ((crc l).toNat : Int)) ∧ Fr noneOf w w' :=
  (sumtext_any ⟨l.toArray⟩ w (by rw [size_mk]; exact hl)).mono fun _ _ ⟨he, hf⟩ => ⟨by rw [he]; rfl, hf⟩
end Go.Proofs.YtblnmghbcgbgdaaDoor
