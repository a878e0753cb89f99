/-
  NetworkNil: Inject of none; the walk.
-/
import Derived.Test.YtblnmghbcgbgdaaLaw23
import Derived.Test.YtblnmghbcgbgdaaOpen
import Derived.Deep.RegionHeld3
import Derived.Deep.DeepCutAuto
namespace Go.Proofs.Ytblnmghbcgbgdaa
open Go.RowKit
set_option linter.unusedVariables false

theorem inject_nil (x y : Int) (s : ByteArray) (w : World) (hs : s.size ≤ 4100) : Calls Try.prog 15 #[.pointer none, .agg #[.int .i64 x, .int .i64 y, .string s]] w fun e w' => e = .returned (.bool false) ∧ Fr noneOf w w' := by
  obtain ⟨S, e, he, hO⟩ := open_any s hs
  have HO := Lib.hid hO
  have HBX := Lib.hid (Blk.new w 27 #[.int .i64 x, .int .i64 y, .string s])
  clear hO hs
  rcases he with rfl | ⟨n, rfl⟩
  all_goals
    go_enter Try.func15, Try.ntmps15
    go_wp2_with (first
      | (go_at_call 26; refine (HO.out _).mono ?_; rintro e w1 ⟨rfl, hf1⟩; have d0 : w1.cell? ⟨w.heap.size, 0, none⟩ = some (.int .i64 x) := (HBX.out.fr0 hf1).cell 0; have d1 : w1.cell? ⟨w.heap.size, 1, none⟩ = some (.int .i64 y) := (HBX.out.fr0 hf1).cell 1; have d2 : w1.cell? ⟨w.heap.size, 2, none⟩ = some (.string s) := (HBX.out.fr0 hf1).cell 2)
      | (go_at_call 8; refine (send_nil x y s _).mono ?_; rintro e w2 ⟨rfl, hf2⟩))
    go_ret
    first
      | exact ⟨rfl, (((Fr.refl noneOf w).alloc _).trans hf1).trans hf2⟩
      | exact ⟨rfl, ((Fr.refl noneOf w).alloc _).trans hf1⟩
set_option maxHeartbeats 8000000 in
theorem networkNil_any (x y : Int) (s : ByteArray) (i : Int) (w : World) (hx : I64 x) (hy : I64 y) (hs : s.size ≤ 9223372036854775807) :
    Calls Try.prog 5 #[.agg #[.int .i64 x, .int .i64 y, .string s], .int .i64 i] w fun e w' => e = .returned (.bool true) ∧ Fr noneOf w w' := by
  by_cases h20 : 20 < s.size
  · have h20I : (20 : Int) < (s.size : Int) := by omega
    have HS20 : Hid ((s.extract 0 20).size ≤ 4100) := Lib.hid (by rw [ByteArray.size_extract]; omega)
    obtain ⟨W, hW⟩ : ∃ W, W = w.alloc (.cells #[.int .i64 x, .int .i64 y, .string (s.extract 0 20)] 27) := ⟨_, rfl⟩
    have HFW := Lib.hid ((Fr.refl noneOf w).alloc (.cells #[.int .i64 x, .int .i64 y, .string (s.extract 0 20)] 27))
    have HBW := Lib.hid (Blk.new w 27 #[.int .i64 x, .int .i64 y, .string (s.extract 0 20)])
    rw [← hW] at HBW HFW
    obtain ⟨b, hb⟩ : ∃ b, b = w.heap.size := ⟨_, rfl⟩
    rw [← hb] at HBW
    have HXY := Lib.hid (And.intro hx hy)
    clear hx hy hs
    go_enter Try.func5, Try.ntmps5
    go_upto_region 4 with fail
    rw [← hW, ← hb]
    clear hW hb
    go_upto_region 5 with (go_at_call 9; refine (take_nil _ _).mono ?_; rintro e w1 ⟨rfl, hf1⟩)
    have HF5 := Lib.hid (hf1.alloc (.cells #[.int .i64 0, .int .i64 0, .string ⟨#[]⟩] 27))
    have hcl : ∀ wx, Fr noneOf W wx → wx.cell? ⟨b, 0, none⟩ = some (.int .i64 x) ∧ wx.cell? ⟨b, 1, none⟩ = some (.int .i64 y) ∧ wx.cell? ⟨b, 2, none⟩ = some (.string (s.extract 0 20)) := fun wx hf => ⟨(HBW.out.fr0 hf).cell 0, (HBW.out.fr0 hf).cell 1, (HBW.out.fr0 hf).cell 2⟩
    have HCL := Lib.hid hcl
    clear hcl hf1
    (go_region_held3 (fun w' => (w'.cell? ⟨b, 0, none⟩ = some (.int .i64 x) ∧ w'.cell? ⟨b, 1, none⟩ = some (.int .i64 y) ∧ w'.cell? ⟨b, 2, none⟩ = some (.string (s.extract 0 20))) ∧ Fr noneOf W w')
      (first | exact ⟨HCL.out _ hk, hk⟩ | exact ⟨HCL.out _ HF5.out, HF5.out⟩ | exact ⟨HCL.out _ HF5.out.drew, HF5.out.drew⟩ | go_keep)
      (first
        | (go_at_call 6; go_split_ands; (with_reducible refine (awake_any _).mono ?_); rintro e wk ⟨rfl, hf⟩; have hk := Fr.trans (S := noneOf) (a := W) (by assumption) hf)
        | (go_at_call 8; go_split_ands; (with_reducible refine (send_nil x y (s.extract 0 20) _).mono ?_); rintro e wk ⟨rfl, hf⟩; have hk := Fr.trans (S := noneOf) (a := W) (by assumption) hf)
        | (go_at_call 15; go_split_ands; (with_reducible refine (inject_nil x y (s.extract 0 20) _ HS20.out).mono ?_); rintro e wk ⟨rfl, hf⟩; have hk := Fr.trans (S := noneOf) (a := W) (by assumption) hf)
        | (go_at_call 12; go_split_ands; (with_reducible refine (drop_nil _ _).mono ?_); rintro e wk ⟨rfl, hf⟩; have hk := Fr.trans (S := noneOf) (a := W) (by assumption) hf)
        | (go_at_call 13; go_split_ands; (with_reducible refine (copy_nil _ _).mono ?_); rintro e wk ⟨rfl, hf⟩; have hk := Fr.trans (S := noneOf) (a := W) (by assumption) hf)
        | (go_at_call 17; go_split_ands; (with_reducible refine (spoil_nil _ _ _ _ _ _ _).mono ?_); rintro e wk ⟨rfl, hf⟩; have hk := Fr.trans (S := noneOf) (a := W) (by assumption) hf)
        | (go_at_call 10; go_split_ands; (with_reducible refine (len_nil _).mono ?_); rintro e wk ⟨rfl, rfl⟩; have hk := (by assumption : Fr noneOf W _))
        | (go_at_call 18; go_split_ands; (with_reducible refine (lost_nil _).mono ?_); rintro e wk ⟨rfl, rfl⟩; have hk := (by assumption : Fr noneOf W _))
        | (go_at_call 11; go_split_ands; (with_reducible refine (between_nil _ _ _).mono ?_); rintro e wk ⟨rfl, rfl⟩; have hk := (by assumption : Fr noneOf W _))))
    all_goals
      go_wp2
      go_ret
      exact ⟨rfl, HFW.out.trans hk⟩
  · have h20I : ¬ (20 : Int) < (s.size : Int) := by omega
    have HS20 : Hid (s.size ≤ 4100) := Lib.hid (by omega)
    obtain ⟨W, hW⟩ : ∃ W, W = w.alloc (.cells #[.int .i64 x, .int .i64 y, .string (s)] 27) := ⟨_, rfl⟩
    have HFW := Lib.hid ((Fr.refl noneOf w).alloc (.cells #[.int .i64 x, .int .i64 y, .string (s)] 27))
    have HBW := Lib.hid (Blk.new w 27 #[.int .i64 x, .int .i64 y, .string (s)])
    rw [← hW] at HBW HFW
    obtain ⟨b, hb⟩ : ∃ b, b = w.heap.size := ⟨_, rfl⟩
    rw [← hb] at HBW
    have HXY := Lib.hid (And.intro hx hy)
    clear hx hy hs
    go_enter Try.func5, Try.ntmps5
    go_upto_region 4 with fail
    rw [← hW, ← hb]
    clear hW hb
    go_upto_region 5 with (go_at_call 9; refine (take_nil _ _).mono ?_; rintro e w1 ⟨rfl, hf1⟩)
    have HF5 := Lib.hid (hf1.alloc (.cells #[.int .i64 0, .int .i64 0, .string ⟨#[]⟩] 27))
    have hcl : ∀ wx, Fr noneOf W wx → wx.cell? ⟨b, 0, none⟩ = some (.int .i64 x) ∧ wx.cell? ⟨b, 1, none⟩ = some (.int .i64 y) ∧ wx.cell? ⟨b, 2, none⟩ = some (.string (s)) := fun wx hf => ⟨(HBW.out.fr0 hf).cell 0, (HBW.out.fr0 hf).cell 1, (HBW.out.fr0 hf).cell 2⟩
    have HCL := Lib.hid hcl
    clear hcl hf1
    (go_region_held3 (fun w' => (w'.cell? ⟨b, 0, none⟩ = some (.int .i64 x) ∧ w'.cell? ⟨b, 1, none⟩ = some (.int .i64 y) ∧ w'.cell? ⟨b, 2, none⟩ = some (.string (s))) ∧ Fr noneOf W w')
      (first | exact ⟨HCL.out _ hk, hk⟩ | exact ⟨HCL.out _ HF5.out, HF5.out⟩ | exact ⟨HCL.out _ HF5.out.drew, HF5.out.drew⟩ | go_keep)
      (first
        | (go_at_call 6; go_split_ands; (with_reducible refine (awake_any _).mono ?_); rintro e wk ⟨rfl, hf⟩; have hk := Fr.trans (S := noneOf) (a := W) (by assumption) hf)
        | (go_at_call 8; go_split_ands; (with_reducible refine (send_nil x y (s) _).mono ?_); rintro e wk ⟨rfl, hf⟩; have hk := Fr.trans (S := noneOf) (a := W) (by assumption) hf)
        | (go_at_call 15; go_split_ands; (with_reducible refine (inject_nil x y (s) _ HS20.out).mono ?_); rintro e wk ⟨rfl, hf⟩; have hk := Fr.trans (S := noneOf) (a := W) (by assumption) hf)
        | (go_at_call 12; go_split_ands; (with_reducible refine (drop_nil _ _).mono ?_); rintro e wk ⟨rfl, hf⟩; have hk := Fr.trans (S := noneOf) (a := W) (by assumption) hf)
        | (go_at_call 13; go_split_ands; (with_reducible refine (copy_nil _ _).mono ?_); rintro e wk ⟨rfl, hf⟩; have hk := Fr.trans (S := noneOf) (a := W) (by assumption) hf)
        | (go_at_call 17; go_split_ands; (with_reducible refine (spoil_nil _ _ _ _ _ _ _).mono ?_); rintro e wk ⟨rfl, hf⟩; have hk := Fr.trans (S := noneOf) (a := W) (by assumption) hf)
        | (go_at_call 10; go_split_ands; (with_reducible refine (len_nil _).mono ?_); rintro e wk ⟨rfl, rfl⟩; have hk := (by assumption : Fr noneOf W _))
        | (go_at_call 18; go_split_ands; (with_reducible refine (lost_nil _).mono ?_); rintro e wk ⟨rfl, rfl⟩; have hk := (by assumption : Fr noneOf W _))
        | (go_at_call 11; go_split_ands; (with_reducible refine (between_nil _ _ _).mono ?_); rintro e wk ⟨rfl, rfl⟩; have hk := (by assumption : Fr noneOf W _))))
    all_goals
      go_wp2
      go_ret
      exact ⟨rfl, HFW.out.trans hk⟩
end Go.Proofs.Ytblnmghbcgbgdaa
