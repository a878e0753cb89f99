/-
  Contracts of a Row that failed.
-/
import Derived.Test.YtblnmghbcgbgdaaDoorNumAny
import Derived.Test.YtblnmghbcgbgdaaDoorCodeAr

import Derived.Test.YtblnmghbcgbgdaaDoorRowOf
namespace Go.Proofs.YtblnmghbcgbgdaaDoor
open Go.RowKit Nums
set_option linter.unusedVariables false

theorem works_no (s : ByteArray) (p b : Nat) (c : Int) (w : World) (hc : (c == 0) = false) (h : Rw s p c b w) : Calls Tryd.prog 69 #[.pointer (some ⟨b, 0, none⟩)] w fun e w' => e = .returned (.bool false) ∧ w = w' := by
  have c2 : w.cell? ⟨b, 2, none⟩ = some (.int .i64 c) := h.cell 2
  clear h
  go_enter Tryd.func69, Tryd.ntmps69
  go_wp2
  go_ret
  exact ⟨rfl, rfl⟩
theorem fail_any (s : ByteArray) (p b : Nat) (c : Int) (w : World) (h : Rw s p 0 b w) : Calls Tryd.prog 66 #[.pointer (some ⟨b, 0, none⟩), .int .i64 c] w fun e w' => e = .returned (.tuple #[]) ∧ Rw s p c b w' ∧ Fr (justOf b) w w' := by
  have c2 : w.cell? ⟨b, 2, none⟩ = some (.int .i64 0) := h.cell 2
  have f2 := h.frozen 2
  have H := Lib.hid h
  clear h
  go_enter Tryd.func66, Tryd.ntmps66
  go_wp2_with (go_at_call 69; refine (works_yes s p b _ H.out).mono ?_; rintro e w' ⟨rfl, rfl⟩)
  go_end0
  exact ⟨rfl, H.out.set_ 2 (.int .i64 c), Fr.put b 2 _ (Fr.refl _ _)⟩
theorem fail_again (s : ByteArray) (p b : Nat) (c x : Int) (w : World) (hc : (c == 0) = false) (h : Rw s p c b w) : Calls Tryd.prog 66 #[.pointer (some ⟨b, 0, none⟩), .int .i64 x] w fun e w' => e = .returned (.tuple #[]) ∧ w = w' := by
  go_enter Tryd.func66, Tryd.ntmps66
  go_wp2_with (go_at_call 69; refine (works_no s p b c _ hc h).mono ?_; rintro e w' ⟨rfl, rfl⟩)
  go_end0
  exact ⟨rfl, rfl⟩
theorem num_no (s : ByteArray) (p b : Nat) (c x y : Int) (w : World) (hc : (c == 0) = false) (h : Rw s p c b w) : Calls Tryd.prog 67 #[.pointer (some ⟨b, 0, none⟩), .int .i64 x, .int .i64 y] w fun e w' => e = .returned (.int .i64 0) ∧ w = w' := by
  go_enter Tryd.func67, Tryd.ntmps67
  go_wp2_with (go_at_call 69; refine (works_no s p b c _ hc h).mono ?_; rintro e w' ⟨rfl, rfl⟩)
  go_ret
  exact ⟨rfl, rfl⟩
theorem text_no (s : ByteArray) (p b : Nat) (c x : Int) (w : World) (hc : (c == 0) = false) (h : Rw s p c b w) : Calls Tryd.prog 68 #[.pointer (some ⟨b, 0, none⟩), .int .i64 x] w fun e w' => e = .returned (.string ⟨#[]⟩) ∧ w = w' := by
  go_enter Tryd.func68, Tryd.ntmps68
  go_wp2_with (go_at_call 69; refine (works_no s p b c _ hc h).mono ?_; rintro e w' ⟨rfl, rfl⟩)
  go_ret
  exact ⟨rfl, rfl⟩
theorem err_no (s : ByteArray) (p b : Nat) (c : Int) (w : World) (hc : (c == 0) = false) (h : Rw s p c b w) : Calls Tryd.prog 65 #[.pointer (some ⟨b, 0, none⟩)] w fun e w' => ∃ g, e = .returned (.iface 152 (.pointer (some ⟨g, 0, none⟩))) ∧ Blk w' g 154 (arC c p) ∧ Fr noneOf w w' := by
  have c1 : w.cell? ⟨b, 1, none⟩ = some (.int .i64 (p : Int)) := h.cell 1
  have c2 : w.cell? ⟨b, 2, none⟩ = some (.int .i64 c) := h.cell 2
  have HW := Lib.hid h
  clear h
  go_enter Tryd.func65, Tryd.ntmps65
  go_wp2
  (go_region_held3 (fun w' => (w'.cell? ⟨b, 1, none⟩ = some (.int .i64 (p : Int)) ∧ w'.cell? ⟨b, 2, none⟩ = some (.int .i64 c)) ∧ Fr noneOf w w')
    (first | exact ⟨⟨(HW.out.fr0 hk).cell 1, (HW.out.fr0 hk).cell 2⟩, hk⟩ | exact ⟨⟨HW.out.cell 1, HW.out.cell 2⟩, Fr.refl _ _⟩ | (have q : Fr noneOf w w.drew := (Fr.refl noneOf w).drew; exact ⟨⟨(HW.out.fr0 q).cell 1, (HW.out.fr0 q).cell 2⟩, q⟩) | go_keep)
    (first
      | (go_at_call 26; go_split_ands; (with_reducible refine (fnew_yes c _ hc).mono ?_); rintro e wk ⟨rfl, rfl⟩; have hk := (by assumption : Fr noneOf w _))
      | (go_at_call 70; go_split_ands; (with_reducible refine (at_num c _ _).mono ?_); rintro e wk ⟨g, rfl, hB, hf, hg⟩; have hk := Fr.trans (S := noneOf) (a := w) (by assumption) hf)))
  all_goals
    go_wp2
    go_ret
    exact ⟨_, rfl, hB, hk⟩
theorem end_no (s : ByteArray) (p b : Nat) (c : Int) (w : World) (hc : (c == 0) = false) (h : Rw s p c b w) : Calls Tryd.prog 37 #[.pointer (some ⟨b, 0, none⟩)] w fun e w' => ∃ g, e = .returned (.iface 152 (.pointer (some ⟨g, 0, none⟩))) ∧ Blk w' g 154 (arC c p) ∧ Fr noneOf w w' := by
  have HW := Lib.hid h
  have c0 : w.cell? ⟨b, 0, none⟩ = some (.string s) := h.cell 0
  have c1 : w.cell? ⟨b, 1, none⟩ = some (.int .i64 (p : Int)) := h.cell 1
  clear h
  go_enter Tryd.func37, Tryd.ntmps37
  go_wp2
  go_quiet ((go_at_call 69; exact Calls.quiet_of_same ((works_no s p b c _ hc (HW.out.fr0 (by first | exact (Fr.refl _ _).drewN _ | exact Fr.refl _ _ | exact (Fr.refl _ _).drew))).mono fun _ _ ⟨h1, h2⟩ => ⟨h1, h2.symm⟩)))
  go_wp2_with (go_at_call 65; refine (err_no s p b c _ hc (HW.out.fr0 ((Fr.refl noneOf w).drewN _))).mono ?_; rintro e w2 ⟨g, rfl, hB, hf2⟩)
  go_ret
  exact ⟨g, rfl, hB, ((Fr.refl noneOf w).drewN _).trans hf2⟩
end Go.Proofs.YtblnmghbcgbgdaaDoor
