/-
  The reference's Bytes of a message that refuses.
  Conditions: its node is from 0 to 15.
-/
import Derived.Test.YtblnmghbcgbgdaaDoorNumsR
import Derived.Test.YtblnmghbcgbgdaaDoorRefWrapD
import Derived.Deep.RegionHeld3
namespace Go.Proofs.YtblnmghbcgbgdaaDoor
open Go.RowKit Nums Crc
set_option linter.unusedVariables false
set_option linter.unusedSimpArgs false

abbrev refM (n : Int) : Value := .agg #[.int .i64 3, .int .i64 0, .int .i64 0, .bool false, .string ⟨#[]⟩, .string ⟨#[]⟩, .int .i64 n, .int .i64 0]
theorem path_none (w : World) : Calls Tryd.prog 89 #[.string ⟨#[]⟩] w fun e w' => e = .returned (.bool true) ∧ w = w' := by
  go_enter Tryd.func89, Tryd.ntmps89
  go_wp2
  refine wp_loop_rounds 1 ?_
  rw [rounds_succ]
  go_wp2
  go_ret
  exact ⟨rfl, rfl⟩
theorem only_refuse (n : Int) (w : World) : Calls Tryd.prog 90 #[refM n] w fun e w' => e = .returned (refM n) ∧ Fr noneOf w w' := by
  go_enter Tryd.func90, Tryd.ntmps90
  go_wp2
  exact bodyPost_ret (v := refM n) (by simp [results, Tryd.results90, go_sem]) rfl ⟨rfl, by repeat (first | exact Fr.refl _ _ | apply Fr.drew | apply Fr.alloc)⟩
theorem ref17_zero (w : World) : Calls Tryd.prog 91 #[.agg #[.int .i64 0, .int .i64 0, .bool false, .string ⟨#[]⟩]] w fun e w' => e = .returned (.bool true) ∧ Fr noneOf w w' := by
  go_enter Tryd.func91, Tryd.ntmps91
  go_wp2
  go_ret
  exact ⟨rfl, by repeat (first | exact Fr.refl _ _ | apply Fr.drew | apply Fr.alloc)⟩
set_option maxHeartbeats 2000000 in
theorem check_refuse (n : Nat) (hn : n ≤ 15) (w : World) : Calls Tryd.prog 75 #[refM n] w fun e w' => e = .returned (.bool true) ∧ Fr noneOf w w' := by
  have h0 : decide ((n : Int) < 0) = false := by simp
  have h1 : decide ((15 : Int) < (n : Int)) = false := by simp; omega
  have HB := Lib.hid (Blk.new w 25 #[.int .i64 3, .int .i64 0, .int .i64 0, .bool false, .string ⟨#[]⟩, .string ⟨#[]⟩, .int .i64 n, .int .i64 0])
  obtain ⟨b, hb⟩ : ∃ b, b = w.heap.size := ⟨_, rfl⟩
  obtain ⟨W, hW⟩ : ∃ W, W = w.alloc (.cells #[.int .i64 3, .int .i64 0, .int .i64 0, .bool false, .string ⟨#[]⟩, .string ⟨#[]⟩, .int .i64 n, .int .i64 0] 25) := ⟨_, rfl⟩
  have HFW : Hid (Fr noneOf w W) := Lib.hid (by rw [hW]; exact (Fr.refl _ _).alloc _)
  rw [← hW, ← hb] at HB
  go_enter Tryd.func75, Tryd.ntmps75
  go_wp2_with (go_at_call 89; (with_reducible refine (path_none _).mono ?_); rintro e w' ⟨rfl, rfl⟩)
  rw [← hW, ← hb]
  clear hW hb
  have HCL : Hid (∀ w', Fr noneOf W w' → w'.cell? ⟨b, 0, none⟩ = some (.int .i64 3) ∧ w'.cell? ⟨b, 1, none⟩ = some (.int .i64 0) ∧ w'.cell? ⟨b, 2, none⟩ = some (.int .i64 0) ∧ w'.cell? ⟨b, 3, none⟩ = some (.bool false) ∧ w'.cell? ⟨b, 4, none⟩ = some (.string ⟨#[]⟩) ∧ w'.cell? ⟨b, 5, none⟩ = some (.string ⟨#[]⟩) ∧ w'.cell? ⟨b, 6, none⟩ = some (.int .i64 n) ∧ w'.cell? ⟨b, 7, none⟩ = some (.int .i64 0)) := Lib.hid (fun w' hf => ⟨(HB.out.fr0 hf).cell 0, (HB.out.fr0 hf).cell 1, (HB.out.fr0 hf).cell 2, (HB.out.fr0 hf).cell 3, (HB.out.fr0 hf).cell 4, (HB.out.fr0 hf).cell 5, (HB.out.fr0 hf).cell 6, (HB.out.fr0 hf).cell 7⟩)
  have hk0 := Fr.refl noneOf W
  (go_region_held3 (fun w' => (w'.cell? ⟨b, 0, none⟩ = some (.int .i64 3) ∧ w'.cell? ⟨b, 1, none⟩ = some (.int .i64 0) ∧ w'.cell? ⟨b, 2, none⟩ = some (.int .i64 0) ∧ w'.cell? ⟨b, 3, none⟩ = some (.bool false) ∧ w'.cell? ⟨b, 4, none⟩ = some (.string ⟨#[]⟩) ∧ w'.cell? ⟨b, 5, none⟩ = some (.string ⟨#[]⟩) ∧ w'.cell? ⟨b, 6, none⟩ = some (.int .i64 n) ∧ w'.cell? ⟨b, 7, none⟩ = some (.int .i64 0)) ∧ Fr noneOf W w')
    (first | exact ⟨HCL.out _ hk, hk⟩ | exact ⟨HCL.out _ hk0.drew, hk0.drew⟩ | exact ⟨HCL.out _ hk0, hk0⟩)
    (first
      | (go_at_call 90; go_split_ands; (with_reducible refine (only_refuse n _).mono ?_); rintro e wk ⟨rfl, hf⟩; have hk := Fr.trans (S := noneOf) (a := W) (by assumption) hf)))
  all_goals
    obtain ⟨c0, c1, c2, c3, c4, c5, c6, c7⟩ := HCL.out _ hk
    have hbw := (HB.out.fr0 hk).lt
    go_wp2_with (go_at_call 91; (with_reducible refine (ref17_zero _).mono ?_); rintro e w2 ⟨rfl, hf2⟩)
    go_ret
    exact ⟨rfl, (HFW.out.trans (hk.alloc _)).trans hf2⟩
/-- The packet's bytes of a message that refuses. -/
def refS (n : Nat) : ByteArray := wrapB ⟨(put [3] ++ put [(n : Int)]).toArray⟩
theorem enc_short (n : Nat) (h : n ≤ 15) : put [(n : Int)] = [UInt8.ofNat (2 * n)] := by
  rw [put_one, fold_nonneg, enc_lt (by omega)]
theorem refS_size (n : Nat) (h : n ≤ 15) : (refS n).size = 6 := by
  have e3 : put [3] = [6] := enc_short 3 (by omega)
  unfold refS wrapB
  rw [e3, enc_short n h, ByteArray.size_append, tailB_size]
  rfl
theorem numsAt_new (w : World) (t : TypeId) (x : Int) (k : Nat) (hk : k = w.heap.size) (hx : -9223372036854775808 ≤ x ∧ x ≤ 9223372036854775807) : NumsAt (w.alloc (.cells #[.int .i64 x] t)) (some ⟨k, 0, none⟩) [x] := by
  subst hk
  have hb := Blk.new w t #[.int .i64 x]
  refine ⟨fun m hm => (by simp at hm; subst hm; exact hx), fun _ => ⟨w.heap.size, 0, rfl, hb.lt, fun j m hj => ?_⟩⟩
  match j, hj with
  | 0, hj => simp at hj; subst hj; exact hb.cell 0
theorem refsize (n : Nat) : (⟨([6] : List UInt8).toArray⟩ : ByteArray).size + (⟨([UInt8.ofNat (2 * n)] : List UInt8).toArray⟩ : ByteArray).size = 2 := rfl
set_option maxHeartbeats 4000000 in
theorem bytes_refuse (n : Nat) (hn : n ≤ 15) (w : World) : Calls Tryd.prog 46 #[refM n] w fun e w' => e = .returned (.tuple #[.string (refS n), .int .i64 0]) ∧ Fr noneOf w w' := by
  have e3 : put [3] = [6] := enc_short 3 (by omega)
  have HB := Lib.hid (Blk.new w 25 #[.int .i64 3, .int .i64 0, .int .i64 0, .bool false, .string ⟨#[]⟩, .string ⟨#[]⟩, .int .i64 n, .int .i64 0])
  have HFW : Hid (Fr noneOf w (w.alloc (.cells #[.int .i64 3, .int .i64 0, .int .i64 0, .bool false, .string ⟨#[]⟩, .string ⟨#[]⟩, .int .i64 n, .int .i64 0] 25))) := Lib.hid ((Fr.refl _ _).alloc _)
  obtain ⟨A3, hA3⟩ : ∃ A3 : ByteArray, A3 = ⟨(put [3]).toArray⟩ := ⟨_, rfl⟩
  obtain ⟨An, hAn⟩ : ∃ An : ByteArray, An = ⟨(put [(n : Int)]).toArray⟩ := ⟨_, rfl⟩
  have hsz2 : A3.size + An.size = 2 := by rw [hA3, hAn, e3, enc_short n hn]; exact refsize n
  have hsz : ¬ 9223372036854775807 < A3.size + An.size := by omega
  have hsum : Hid (A3 ++ An = ⟨(put [3] ++ put [(n : Int)]).toArray⟩) := Lib.hid (by rw [hA3, hAn]; exact str_add _ _)
  have hsz4 : Hid ((A3 ++ An).size ≤ 4096) := Lib.hid (by rw [ByteArray.size_append]; omega)
  have HP3 : Hid (∀ w c, NumsAt w c [3] → Calls Tryd.prog 76 #[.slice c 1 1] w fun e w' => e = .returned (.string A3) ∧ Fr noneOf w w') := Lib.hid (fun w c h => by rw [hA3]; exact refPut_is c 1 1 [3] w rfl h (by decide))
  have HPn : Hid (∀ w c, NumsAt w c [(n : Int)] → Calls Tryd.prog 76 #[.slice c 1 1] w fun e w' => e = .returned (.string An) ∧ Fr noneOf w w') := Lib.hid (fun w c h => by rw [hAn]; exact refPut_is c 1 1 [(n : Int)] w rfl h (by simp))
  clear hA3 hAn e3 hsz2
  go_enter Tryd.func46, Tryd.ntmps46
  go_wp2_with (first
    | (go_at_call 75; (with_reducible refine (check_refuse n hn _).mono ?_); rintro e w1 ⟨rfl, hf1⟩; have HB1 := Lib.hid (HB.out.fr0 hf1); have HF1 := Lib.hid (HFW.out.trans hf1); have c0 : w1.cell? ⟨w.heap.size, 0, none⟩ = some (.int .i64 3) := HB1.out.cell 0; have c1 : w1.cell? ⟨w.heap.size, 1, none⟩ = some (.int .i64 0) := HB1.out.cell 1; have c2 : w1.cell? ⟨w.heap.size, 2, none⟩ = some (.int .i64 0) := HB1.out.cell 2; have c3 : w1.cell? ⟨w.heap.size, 3, none⟩ = some (.bool false) := HB1.out.cell 3; have c4 : w1.cell? ⟨w.heap.size, 4, none⟩ = some (.string ⟨#[]⟩) := HB1.out.cell 4; have hlt := HB1.out.lt; clear hf1)
    | (go_at_call 76; (refine (HP3.out _ _ (numsAt_new _ _ 3 _ (by simp) (by omega))).mono ?_); rintro e w2 ⟨rfl, hf2⟩; have HF2 := Lib.hid ((((HF1.out).alloc _).alloc _).trans hf2); have HB2 := Lib.hid (((HB1.out.alloc _).alloc _).fr0 hf2); clear c0 c1 c2 c3 c4; have d0 : w2.cell? ⟨w.heap.size, 0, none⟩ = some (.int .i64 3) := HB2.out.cell 0; have d6 : w2.cell? ⟨w.heap.size, 6, none⟩ = some (.int .i64 n) := HB2.out.cell 6; clear hf2 HF1)
    | (go_at_call 76; (refine (HPn.out _ _ (numsAt_new _ _ (n : Int) _ (by simp) (by omega))).mono ?_); rintro e w3 ⟨rfl, hf3⟩; have HF3 := Lib.hid ((HF2.out.alloc _).trans hf3); clear hf3 HF2)
    | (go_at_call 14; (with_reducible refine (refwrap_any (A3 ++ An) _ hsz4.out).mono ?_); rintro e w4 ⟨rfl, hf4⟩; have HF4 := Lib.hid (HF3.out.trans hf4); clear hf4))
  go_quiet (fail)
  go_wp2
  go_ret2
  refine ⟨?_, (HF4.out.alloc _).drewN _⟩
  unfold refS
  rw [hsum.out]
  rfl
end Go.Proofs.YtblnmghbcgbgdaaDoor
