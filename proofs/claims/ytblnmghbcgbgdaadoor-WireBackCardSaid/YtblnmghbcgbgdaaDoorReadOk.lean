/-
  wire.Read of a message's packet gives that message.
  Conditions: none.
-/
import Derived.Test.YtblnmghbcgbgdaaDoorWireRead
import Derived.Test.YtblnmghbcgbgdaaDoorWireMade
import Derived.Test.YtblnmghbcgbgdaaDoorMsgEq
namespace Go.Proofs.YtblnmghbcgbgdaaDoor
open Go.RowKit Nums
set_option linter.unusedVariables false
set_option linter.unusedSimpArgs false
set_option maxRecDepth 100000 in
set_option maxHeartbeats 4000000 in
theorem read_walk (k1 g1 s1 : Int) (y1 : Bool) (b1 p1 : ByteArray) (n1 c1 : Int) (S U : ByteArray) (w : World)
    (HO : Hid (∀ w, Calls Tryd.prog 25 #[.string S] w fun e w' => e = .returned (.tuple #[.string U, .nilIface]) ∧ Fr noneOf w w'))
    (HB : Hid (∀ b w, Rw U 0 0 b w → Calls Tryd.prog 36 #[.pointer (some ⟨b, 0, none⟩)] w fun e w' => e = .returned (.agg #[.int .i64 k1, .int .i64 g1, .int .i64 s1, .bool y1, .string b1, .string p1, .int .i64 n1, .int .i64 c1]) ∧ Rw U U.size 0 b w' ∧ Fr (justOf b) w w'))
    (HC : Hid (∀ w, Calls Tryd.prog 13 #[.agg #[.int .i64 k1, .int .i64 g1, .int .i64 s1, .bool y1, .string b1, .string p1, .int .i64 n1, .int .i64 c1]] w fun e w' => e = .returned (.bool true) ∧ Fr noneOf w w')) :
    Calls Tryd.prog 12 #[.string S] w fun e w' => e = .returned (.tuple #[.agg #[.int .i64 k1, .int .i64 g1, .int .i64 s1, .bool y1, .string b1, .string p1, .int .i64 n1, .int .i64 c1], .nilIface]) ∧ Fr noneOf w w' := by
  have HQ0 : Hid (Blk (w.alloc (.cells #[.int .i64 0, .int .i64 0, .int .i64 0, .bool false, .string ⟨#[]⟩, .string ⟨#[]⟩, .int .i64 0, .int .i64 0] 25)) w.heap.size 25 #[.int .i64 0, .int .i64 0, .int .i64 0, .bool false, .string ⟨#[]⟩, .string ⟨#[]⟩, .int .i64 0, .int .i64 0]) := Lib.hid (Blk.new w _ _)
  have HF0 : Hid (Fr noneOf w (w.alloc (.cells #[.int .i64 0, .int .i64 0, .int .i64 0, .bool false, .string ⟨#[]⟩, .string ⟨#[]⟩, .int .i64 0, .int .i64 0] 25))) := Lib.hid ((Fr.refl _ _).alloc _)
  go_enter Tryd.func12, Tryd.ntmps12
  go_wp2_with (first
    | (go_at_call 25; (with_reducible refine (HO.out _).mono ?_); rintro e w1 ⟨rfl, hf1⟩; have HF1 : Hid (Fr noneOf w w1) := Lib.hid (HF0.out.trans hf1); have HQ1 := Lib.hid (HQ0.out.fr0 hf1); clear hf1)
    | (go_at_call 35; (with_reducible refine (of_any _ _).mono ?_); rintro e w2 ⟨b, rfl, hR, hf2, hb⟩; have HR2 := Lib.hid hR; have HF2 : Hid (Fr noneOf w w2) := Lib.hid (HF1.out.trans hf2); have HQ2 := Lib.hid (HQ1.out.fr0 hf2); have HN : Hid (w.heap.size ≠ b) := Lib.hid (by have := HQ1.out.lt; omega); have HG : Hid (w.heap.size ≤ b) := Lib.hid (by have := HQ1.out.lt; omega); clear hR hf2 hb)
    | (go_at_call 36; (with_reducible refine (HB.out _ _ HR2.out).mono ?_); rintro e w3 ⟨rfl, hR, hf3⟩; have HR3 : Hid (Rw U U.size 0 b (w3.alloc (.cells #[.int .i64 k1, .int .i64 g1, .int .i64 s1, .bool y1, .string b1, .string p1, .int .i64 n1, .int .i64 c1] 25))) := Lib.hid (Blk.alloc hR _); have HF3 : Hid (Fr noneOf w (w3.alloc (.cells #[.int .i64 k1, .int .i64 g1, .int .i64 s1, .bool y1, .string b1, .string p1, .int .i64 n1, .int .i64 c1] 25))) := Lib.hid ((Fr.trans' HF2.out hf3 (fun i hi e => by have := HG.out; have e : i = b := e; exfalso; omega)).alloc _); have HQ3 := Lib.hid ((HQ2.out.fr hf3 HN.out).alloc (.cells #[.int .i64 k1, .int .i64 g1, .int .i64 s1, .bool y1, .string b1, .string p1, .int .i64 n1, .int .i64 c1] 25)); clear hR hf3)
    | (go_at_call 37; (with_reducible refine (end_done _ _ _ HR3.out).mono ?_); rintro e w4 ⟨rfl, hf4⟩; have HF4 : Hid (Fr noneOf w w4) := Lib.hid (HF3.out.trans hf4); have HQ4 := Lib.hid (HQ3.out.fr0 hf4); have HM4 : Hid (Blk w4 w3.heap.size 25 #[.int .i64 k1, .int .i64 g1, .int .i64 s1, .bool y1, .string b1, .string p1, .int .i64 n1, .int .i64 c1]) := Lib.hid ((Blk.new w3 25 #[.int .i64 k1, .int .i64 g1, .int .i64 s1, .bool y1, .string b1, .string p1, .int .i64 n1, .int .i64 c1]).fr0 hf4); clear hf4; have m4_0 : w4.cell? ⟨w3.heap.size, 0, none⟩ = some (.int .i64 k1) := HM4.out.cell 0; have m4_1 : w4.cell? ⟨w3.heap.size, 1, none⟩ = some (.int .i64 g1) := HM4.out.cell 1; have m4_2 : w4.cell? ⟨w3.heap.size, 2, none⟩ = some (.int .i64 s1) := HM4.out.cell 2; have m4_3 : w4.cell? ⟨w3.heap.size, 3, none⟩ = some (.bool y1) := HM4.out.cell 3; have m4_4 : w4.cell? ⟨w3.heap.size, 4, none⟩ = some (.string b1) := HM4.out.cell 4; have m4_5 : w4.cell? ⟨w3.heap.size, 5, none⟩ = some (.string p1) := HM4.out.cell 5; have m4_6 : w4.cell? ⟨w3.heap.size, 6, none⟩ = some (.int .i64 n1) := HM4.out.cell 6; have m4_7 : w4.cell? ⟨w3.heap.size, 7, none⟩ = some (.int .i64 c1) := HM4.out.cell 7; skip)
    | (go_at_call 13; (with_reducible refine (HC.out _).mono ?_); rintro e w5 ⟨rfl, hf5⟩; have HF5 : Hid (Fr noneOf w w5) := Lib.hid (HF4.out.trans hf5); have HQ5 := Lib.hid (HQ4.out.fr0 hf5); have HM5 : Hid (Blk w5 w3.heap.size 25 #[.int .i64 k1, .int .i64 g1, .int .i64 s1, .bool y1, .string b1, .string p1, .int .i64 n1, .int .i64 c1]) := Lib.hid (HM4.out.fr0 hf5); clear hf5; have m5_0 : w5.cell? ⟨w3.heap.size, 0, none⟩ = some (.int .i64 k1) := HM5.out.cell 0; have m5_1 : w5.cell? ⟨w3.heap.size, 1, none⟩ = some (.int .i64 g1) := HM5.out.cell 1; have m5_2 : w5.cell? ⟨w3.heap.size, 2, none⟩ = some (.int .i64 s1) := HM5.out.cell 2; have m5_3 : w5.cell? ⟨w3.heap.size, 3, none⟩ = some (.bool y1) := HM5.out.cell 3; have m5_4 : w5.cell? ⟨w3.heap.size, 4, none⟩ = some (.string b1) := HM5.out.cell 4; have m5_5 : w5.cell? ⟨w3.heap.size, 5, none⟩ = some (.string p1) := HM5.out.cell 5; have m5_6 : w5.cell? ⟨w3.heap.size, 6, none⟩ = some (.int .i64 n1) := HM5.out.cell 6; have m5_7 : w5.cell? ⟨w3.heap.size, 7, none⟩ = some (.int .i64 c1) := HM5.out.cell 7; have mf5_0 := HM5.out.frozen 0; have mf5_1 := HM5.out.frozen 1; have mf5_2 := HM5.out.frozen 2; have mf5_3 := HM5.out.frozen 3; have mf5_4 := HM5.out.frozen 4; have mf5_5 := HM5.out.frozen 5; have mf5_6 := HM5.out.frozen 6; have mf5_7 := HM5.out.frozen 7; have r5_0 : w5.cell? ⟨w.heap.size, 0, none⟩ = some (.int .i64 0) := HQ5.out.cell 0; have r5_1 : w5.cell? ⟨w.heap.size, 1, none⟩ = some (.int .i64 0) := HQ5.out.cell 1; have r5_2 : w5.cell? ⟨w.heap.size, 2, none⟩ = some (.int .i64 0) := HQ5.out.cell 2; have r5_3 : w5.cell? ⟨w.heap.size, 3, none⟩ = some (.bool false) := HQ5.out.cell 3; have r5_4 : w5.cell? ⟨w.heap.size, 4, none⟩ = some (.string ⟨#[]⟩) := HQ5.out.cell 4; have r5_5 : w5.cell? ⟨w.heap.size, 5, none⟩ = some (.string ⟨#[]⟩) := HQ5.out.cell 5; have r5_6 : w5.cell? ⟨w.heap.size, 6, none⟩ = some (.int .i64 0) := HQ5.out.cell 6; have r5_7 : w5.cell? ⟨w.heap.size, 7, none⟩ = some (.int .i64 0) := HQ5.out.cell 7; have rf5_0 := HQ5.out.frozen 0; have rf5_1 := HQ5.out.frozen 1; have rf5_2 := HQ5.out.frozen 2; have rf5_3 := HQ5.out.frozen 3; have rf5_4 := HQ5.out.frozen 4; have rf5_5 := HQ5.out.frozen 5; have rf5_6 := HQ5.out.frozen 6; have rf5_7 := HQ5.out.frozen 7; skip)
    )
  have E := Lib.hid ((((((((HQ5.out.set_ 0 (.int .i64 k1)).set_ 1 (.int .i64 g1)).set_ 2 (.int .i64 s1)).set_ 3 (.bool y1)).set_ 4 (.string b1)).set_ 5 (.string p1)).set_ 6 (.int .i64 n1)).set_ 7 (.int .i64 c1))
  have E0 := E.out.cell 0
  have E1 := E.out.cell 1
  have E2 := E.out.cell 2
  have E3 := E.out.cell 3
  have E4 := E.out.cell 4
  have E5 := E.out.cell 5
  have E6 := E.out.cell 6
  have E7 := E.out.cell 7
  exact bodyPost_ret (v := .tuple #[.agg #[.int .i64 k1, .int .i64 g1, .int .i64 s1, .bool y1, .string b1, .string p1, .int .i64 n1, .int .i64 c1], .nilIface]) (by simp [results, Tryd.results12, go_sem, E0, E1, E2, E3, E4, E5, E6, E7]) rfl ⟨rfl, ((((((((HF5.out.setCell (p := ⟨w.heap.size, 0, none⟩) (.inr (Nat.le_refl _)) _).setCell (p := ⟨w.heap.size, 1, none⟩) (.inr (Nat.le_refl _)) _).setCell (p := ⟨w.heap.size, 2, none⟩) (.inr (Nat.le_refl _)) _).setCell (p := ⟨w.heap.size, 3, none⟩) (.inr (Nat.le_refl _)) _).setCell (p := ⟨w.heap.size, 4, none⟩) (.inr (Nat.le_refl _)) _).setCell (p := ⟨w.heap.size, 5, none⟩) (.inr (Nat.le_refl _)) _).setCell (p := ⟨w.heap.size, 6, none⟩) (.inr (Nat.le_refl _)) _).setCell (p := ⟨w.heap.size, 7, none⟩) (.inr (Nat.le_refl _)) _)⟩
theorem read_ok (x : Ms) (hx : x.ok) (w : World) : Calls Tryd.prog 12 #[.string (wrapB ⟨x.enc.toArray⟩)] w fun e w' => e = .returned (.tuple #[.agg x.val, .nilIface]) ∧ Fr noneOf w w' := by
  have hl := (ms_len x hx).1
  have hsz : (ByteArray.mk x.enc.toArray).size = x.enc.length := by simp [ByteArray.size]
  have HO := Lib.hid (fun w => open_wrapped ⟨x.enc.toArray⟩ w (by omega))
  have HB := Lib.hid (fun b w h => body_ok x hx ⟨x.enc.toArray⟩ (by simp) b w h)
  have HC := Lib.hid (fun w => check_ok x hx w)
  obtain ⟨r, hr⟩ := ms_raw x
  rw [hr] at HB HC ⊢
  obtain ⟨_, _, _, _, _, _, _, _⟩ := r
  dsimp only [Raw.val] at *
  exact read_walk _ _ _ _ _ _ _ _ _ _ w HO HB HC
end Go.Proofs.YtblnmghbcgbgdaaDoor
