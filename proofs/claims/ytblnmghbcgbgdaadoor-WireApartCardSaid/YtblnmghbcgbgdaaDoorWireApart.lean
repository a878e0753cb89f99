/-
  WireApart: the walk.
  Conditions: none.
-/
import Derived.Test.YtblnmghbcgbgdaaDoorMadeAny
import Derived.Test.YtblnmghbcgbgdaaDoorMsgEq
import Derived.Deep.DeepCutAuto
namespace Go.Proofs.YtblnmghbcgbgdaaDoor
open Go.RowKit Nums
set_option linter.unusedVariables false
set_option linter.unusedSimpArgs false
set_option maxRecDepth 100000 in
set_option maxHeartbeats 8000000 in
theorem apart_walk (k1 g1 s1 : Int) (y1 : Bool) (b1 p1 : ByteArray) (n1 c1 : Int) (k2 g2 s2 : Int) (y2 : Bool) (b2 p2 : ByteArray) (n2 c2 : Int) (k3 g3 s3 : Int) (y3 : Bool) (b3 p3 : ByteArray) (n3 c3 : Int) (k4 g4 s4 : Int) (y4 : Bool) (b4 p4 : ByteArray) (n4 c4 : Int) (k5 g5 s5 : Int) (y5 : Bool) (b5 p5 : ByteArray) (n5 c5 : Int) (k6 g6 s6 : Int) (y6 : Bool) (b6 p6 : ByteArray) (n6 c6 : Int) (S T : ByteArray) (R : Bool) (w : World)
    (HL1 : Hid (∀ w, Calls Tryd.prog 9 #[.agg #[.int .i64 k1, .int .i64 g1, .int .i64 s1, .bool y1, .string b1, .string p1, .int .i64 n1, .int .i64 c1]] w fun e w' => e = .returned (.agg #[.int .i64 k3, .int .i64 g3, .int .i64 s3, .bool y3, .string b3, .string p3, .int .i64 n3, .int .i64 c3]) ∧ Fr noneOf w w')) (HL2 : Hid (∀ w, Calls Tryd.prog 9 #[.agg #[.int .i64 k2, .int .i64 g2, .int .i64 s2, .bool y2, .string b2, .string p2, .int .i64 n2, .int .i64 c2]] w fun e w' => e = .returned (.agg #[.int .i64 k4, .int .i64 g4, .int .i64 s4, .bool y4, .string b4, .string p4, .int .i64 n4, .int .i64 c4]) ∧ Fr noneOf w w'))
    (HM1 : Hid (∀ w, Calls Tryd.prog 8 #[.agg #[.int .i64 k3, .int .i64 g3, .int .i64 s3, .bool y3, .string b3, .string p3, .int .i64 n3, .int .i64 c3]] w fun e w' => e = .returned (.agg #[.int .i64 k5, .int .i64 g5, .int .i64 s5, .bool y5, .string b5, .string p5, .int .i64 n5, .int .i64 c5]) ∧ Fr noneOf w w')) (HM2 : Hid (∀ w, Calls Tryd.prog 8 #[.agg #[.int .i64 k4, .int .i64 g4, .int .i64 s4, .bool y4, .string b4, .string p4, .int .i64 n4, .int .i64 c4]] w fun e w' => e = .returned (.agg #[.int .i64 k6, .int .i64 g6, .int .i64 s6, .bool y6, .string b6, .string p6, .int .i64 n6, .int .i64 c6]) ∧ Fr noneOf w w'))
    (HB1 : Hid (∀ w, Calls Tryd.prog 10 #[.agg #[.int .i64 k5, .int .i64 g5, .int .i64 s5, .bool y5, .string b5, .string p5, .int .i64 n5, .int .i64 c5]] w fun e w' => e = .returned (.tuple #[.string S, .nilIface]) ∧ Fr noneOf w w')) (HB2 : Hid (∀ w, Calls Tryd.prog 10 #[.agg #[.int .i64 k6, .int .i64 g6, .int .i64 s6, .bool y6, .string b6, .string p6, .int .i64 n6, .int .i64 c6]] w fun e w' => e = .returned (.tuple #[.string T, .nilIface]) ∧ Fr noneOf w w'))
    (hE : ∀ w, (binOp .eql 25 (.agg #[.int .i64 k5, .int .i64 g5, .int .i64 s5, .bool y5, .string b5, .string p5, .int .i64 n5, .int .i64 c5]) (.agg #[.int .i64 k6, .int .i64 g6, .int .i64 s6, .bool y6, .string b6, .string p6, .int .i64 n6, .int .i64 c6])).run Tryd.prog w = .ok (.bool R) w) (hS : (S.toList == T.toList) = R) (h5 : (5 : Int) ≤ (S.size : Int)) :
    Calls Tryd.prog 3 #[.agg #[.int .i64 k1, .int .i64 g1, .int .i64 s1, .bool y1, .string b1, .string p1, .int .i64 n1, .int .i64 c1], .agg #[.int .i64 k2, .int .i64 g2, .int .i64 s2, .bool y2, .string b2, .string p2, .int .i64 n2, .int .i64 c2]] w fun e w' => e = .returned (.bool true) ∧ Fr noneOf w w' := by
  have h5b : ¬ (S.size : Int) < 5 := by omega
  obtain ⟨W, hW⟩ : ∃ W, W = (w.alloc (.cells #[.int .i64 k1, .int .i64 g1, .int .i64 s1, .bool y1, .string b1, .string p1, .int .i64 n1, .int .i64 c1] 25)).alloc (.cells #[.int .i64 k2, .int .i64 g2, .int .i64 s2, .bool y2, .string b2, .string p2, .int .i64 n2, .int .i64 c2] 25) := ⟨_, rfl⟩
  have HA : Hid (Blk W w.heap.size 25 #[.int .i64 k1, .int .i64 g1, .int .i64 s1, .bool y1, .string b1, .string p1, .int .i64 n1, .int .i64 c1]) := Lib.hid (by rw [hW]; exact (Blk.new w _ _).alloc _)
  have HB : Hid (Blk W (w.heap.size + 1) 25 #[.int .i64 k2, .int .i64 g2, .int .i64 s2, .bool y2, .string b2, .string p2, .int .i64 n2, .int .i64 c2]) := Lib.hid (by rw [hW]; have := Blk.new (w.alloc (.cells #[.int .i64 k1, .int .i64 g1, .int .i64 s1, .bool y1, .string b1, .string p1, .int .i64 n1, .int .i64 c1] 25)) 25 #[.int .i64 k2, .int .i64 g2, .int .i64 s2, .bool y2, .string b2, .string p2, .int .i64 n2, .int .i64 c2]; rw [World.size_alloc] at this; exact this)
  have HFW : Hid (Fr noneOf w W) := Lib.hid (by rw [hW]; exact ((Fr.refl _ _).alloc _).alloc _)
  have HW := Lib.hid hW
  go_enter Tryd.func3, Tryd.ntmps3
  go_wp2_with (first
    | (go_at_call 7; (with_reducible refine (awake_any _).mono ?_); rintro e w1 ⟨rfl, hf1⟩; have HF1 : Hid (Fr noneOf W w1) := Lib.hid (by rw [HW.out]; exact hf1); clear hf1; have HA1 := Lib.hid (HA.out.fr0 HF1.out); have HB1' := Lib.hid (HB.out.fr0 HF1.out); have a0 : w1.cell? ⟨w.heap.size, 0, none⟩ = some (.int .i64 k1) := HA1.out.cell 0; have a1 : w1.cell? ⟨w.heap.size, 1, none⟩ = some (.int .i64 g1) := HA1.out.cell 1; have a2 : w1.cell? ⟨w.heap.size, 2, none⟩ = some (.int .i64 s1) := HA1.out.cell 2; have a3 : w1.cell? ⟨w.heap.size, 3, none⟩ = some (.bool y1) := HA1.out.cell 3; have a4 : w1.cell? ⟨w.heap.size, 4, none⟩ = some (.string b1) := HA1.out.cell 4; have a5 : w1.cell? ⟨w.heap.size, 5, none⟩ = some (.string p1) := HA1.out.cell 5; have a6 : w1.cell? ⟨w.heap.size, 6, none⟩ = some (.int .i64 n1) := HA1.out.cell 6; have a7 : w1.cell? ⟨w.heap.size, 7, none⟩ = some (.int .i64 c1) := HA1.out.cell 7; skip)
    | (go_at_call 9; have hh := HF1; clear hh; (with_reducible refine (HL1.out _).mono ?_); rintro e w2 ⟨rfl, hf2⟩; have HF2 := Lib.hid hf2; clear hf2)
    | (go_at_call 8; (with_reducible refine (HM1.out _).mono ?_); rintro e w3 ⟨rfl, hf3⟩; have HF3 := Lib.hid hf3; clear hf3; have HB3 : Hid (Blk (w3.alloc (.cells #[.int .i64 k5, .int .i64 g5, .int .i64 s5, .bool y5, .string b5, .string p5, .int .i64 n5, .int .i64 c5] 25)) (w.heap.size + 1) 25 #[.int .i64 k2, .int .i64 g2, .int .i64 s2, .bool y2, .string b2, .string p2, .int .i64 n2, .int .i64 c2]) := Lib.hid (((HB1'.out.fr0 HF2.out).fr0 HF3.out).alloc _); have d0 : (w3.alloc (.cells #[.int .i64 k5, .int .i64 g5, .int .i64 s5, .bool y5, .string b5, .string p5, .int .i64 n5, .int .i64 c5] 25)).cell? ⟨w.heap.size + 1, 0, none⟩ = some (.int .i64 k2) := HB3.out.cell 0; have d1 : (w3.alloc (.cells #[.int .i64 k5, .int .i64 g5, .int .i64 s5, .bool y5, .string b5, .string p5, .int .i64 n5, .int .i64 c5] 25)).cell? ⟨w.heap.size + 1, 1, none⟩ = some (.int .i64 g2) := HB3.out.cell 1; have d2 : (w3.alloc (.cells #[.int .i64 k5, .int .i64 g5, .int .i64 s5, .bool y5, .string b5, .string p5, .int .i64 n5, .int .i64 c5] 25)).cell? ⟨w.heap.size + 1, 2, none⟩ = some (.int .i64 s2) := HB3.out.cell 2; have d3 : (w3.alloc (.cells #[.int .i64 k5, .int .i64 g5, .int .i64 s5, .bool y5, .string b5, .string p5, .int .i64 n5, .int .i64 c5] 25)).cell? ⟨w.heap.size + 1, 3, none⟩ = some (.bool y2) := HB3.out.cell 3; have d4 : (w3.alloc (.cells #[.int .i64 k5, .int .i64 g5, .int .i64 s5, .bool y5, .string b5, .string p5, .int .i64 n5, .int .i64 c5] 25)).cell? ⟨w.heap.size + 1, 4, none⟩ = some (.string b2) := HB3.out.cell 4; have d5 : (w3.alloc (.cells #[.int .i64 k5, .int .i64 g5, .int .i64 s5, .bool y5, .string b5, .string p5, .int .i64 n5, .int .i64 c5] 25)).cell? ⟨w.heap.size + 1, 5, none⟩ = some (.string p2) := HB3.out.cell 5; have d6 : (w3.alloc (.cells #[.int .i64 k5, .int .i64 g5, .int .i64 s5, .bool y5, .string b5, .string p5, .int .i64 n5, .int .i64 c5] 25)).cell? ⟨w.heap.size + 1, 6, none⟩ = some (.int .i64 n2) := HB3.out.cell 6; have d7 : (w3.alloc (.cells #[.int .i64 k5, .int .i64 g5, .int .i64 s5, .bool y5, .string b5, .string p5, .int .i64 n5, .int .i64 c5] 25)).cell? ⟨w.heap.size + 1, 7, none⟩ = some (.int .i64 c2) := HB3.out.cell 7; skip)
    | (go_at_call 9; have hh := HF3; clear hh; (with_reducible refine (HL2.out _).mono ?_); rintro e w4 ⟨rfl, hf4⟩; have HF4 := Lib.hid hf4; clear hf4; have HX4 : Hid (Blk w4 w3.heap.size 25 #[.int .i64 k5, .int .i64 g5, .int .i64 s5, .bool y5, .string b5, .string p5, .int .i64 n5, .int .i64 c5]) := Lib.hid ((Blk.new w3 25 #[.int .i64 k5, .int .i64 g5, .int .i64 s5, .bool y5, .string b5, .string p5, .int .i64 n5, .int .i64 c5]).fr0 HF4.out))
    | (go_at_call 8; (with_reducible refine (HM2.out _).mono ?_); rintro e w5 ⟨rfl, hf5⟩; have HF5 := Lib.hid hf5; clear hf5; have HX5 : Hid (Blk (w5.alloc (.cells #[.int .i64 k6, .int .i64 g6, .int .i64 s6, .bool y6, .string b6, .string p6, .int .i64 n6, .int .i64 c6] 25)) w3.heap.size 25 #[.int .i64 k5, .int .i64 g5, .int .i64 s5, .bool y5, .string b5, .string p5, .int .i64 n5, .int .i64 c5]) := Lib.hid ((HX4.out.fr0 HF5.out).alloc _); have x0 : (w5.alloc (.cells #[.int .i64 k6, .int .i64 g6, .int .i64 s6, .bool y6, .string b6, .string p6, .int .i64 n6, .int .i64 c6] 25)).cell? ⟨w3.heap.size, 0, none⟩ = some (.int .i64 k5) := HX5.out.cell 0; have x1 : (w5.alloc (.cells #[.int .i64 k6, .int .i64 g6, .int .i64 s6, .bool y6, .string b6, .string p6, .int .i64 n6, .int .i64 c6] 25)).cell? ⟨w3.heap.size, 1, none⟩ = some (.int .i64 g5) := HX5.out.cell 1; have x2 : (w5.alloc (.cells #[.int .i64 k6, .int .i64 g6, .int .i64 s6, .bool y6, .string b6, .string p6, .int .i64 n6, .int .i64 c6] 25)).cell? ⟨w3.heap.size, 2, none⟩ = some (.int .i64 s5) := HX5.out.cell 2; have x3 : (w5.alloc (.cells #[.int .i64 k6, .int .i64 g6, .int .i64 s6, .bool y6, .string b6, .string p6, .int .i64 n6, .int .i64 c6] 25)).cell? ⟨w3.heap.size, 3, none⟩ = some (.bool y5) := HX5.out.cell 3; have x4 : (w5.alloc (.cells #[.int .i64 k6, .int .i64 g6, .int .i64 s6, .bool y6, .string b6, .string p6, .int .i64 n6, .int .i64 c6] 25)).cell? ⟨w3.heap.size, 4, none⟩ = some (.string b5) := HX5.out.cell 4; have x5 : (w5.alloc (.cells #[.int .i64 k6, .int .i64 g6, .int .i64 s6, .bool y6, .string b6, .string p6, .int .i64 n6, .int .i64 c6] 25)).cell? ⟨w3.heap.size, 5, none⟩ = some (.string p5) := HX5.out.cell 5; have x6 : (w5.alloc (.cells #[.int .i64 k6, .int .i64 g6, .int .i64 s6, .bool y6, .string b6, .string p6, .int .i64 n6, .int .i64 c6] 25)).cell? ⟨w3.heap.size, 6, none⟩ = some (.int .i64 n5) := HX5.out.cell 6; have x7 : (w5.alloc (.cells #[.int .i64 k6, .int .i64 g6, .int .i64 s6, .bool y6, .string b6, .string p6, .int .i64 n6, .int .i64 c6] 25)).cell? ⟨w3.heap.size, 7, none⟩ = some (.int .i64 c5) := HX5.out.cell 7; skip)
    | (go_at_call 10; have hh := HX5; clear hh; (with_reducible refine (HB1.out _).mono ?_); rintro e w6 ⟨rfl, hf6⟩; have HF6 := Lib.hid hf6; clear hf6; have HX6 : Hid (Blk w6 w3.heap.size 25 #[.int .i64 k5, .int .i64 g5, .int .i64 s5, .bool y5, .string b5, .string p5, .int .i64 n5, .int .i64 c5]) := Lib.hid (HX5.out.fr0 HF6.out); have HY6 : Hid (Blk w6 w5.heap.size 25 #[.int .i64 k6, .int .i64 g6, .int .i64 s6, .bool y6, .string b6, .string p6, .int .i64 n6, .int .i64 c6]) := Lib.hid ((Blk.new w5 25 #[.int .i64 k6, .int .i64 g6, .int .i64 s6, .bool y6, .string b6, .string p6, .int .i64 n6, .int .i64 c6]).fr0 HF6.out); have yq0 : w6.cell? ⟨w5.heap.size, 0, none⟩ = some (.int .i64 k6) := HY6.out.cell 0; have yq1 : w6.cell? ⟨w5.heap.size, 1, none⟩ = some (.int .i64 g6) := HY6.out.cell 1; have yq2 : w6.cell? ⟨w5.heap.size, 2, none⟩ = some (.int .i64 s6) := HY6.out.cell 2; have yq3 : w6.cell? ⟨w5.heap.size, 3, none⟩ = some (.bool y6) := HY6.out.cell 3; have yq4 : w6.cell? ⟨w5.heap.size, 4, none⟩ = some (.string b6) := HY6.out.cell 4; have yq5 : w6.cell? ⟨w5.heap.size, 5, none⟩ = some (.string p6) := HY6.out.cell 5; have yq6 : w6.cell? ⟨w5.heap.size, 6, none⟩ = some (.int .i64 n6) := HY6.out.cell 6; have yq7 : w6.cell? ⟨w5.heap.size, 7, none⟩ = some (.int .i64 c6) := HY6.out.cell 7; skip)
    | (go_at_call 10; have hh := HX6; clear hh; (with_reducible refine (HB2.out _).mono ?_); rintro e w7 ⟨rfl, hf7⟩; have HF7 := Lib.hid hf7; clear hf7; have HX7 : Hid (Blk w7 w3.heap.size 25 #[.int .i64 k5, .int .i64 g5, .int .i64 s5, .bool y5, .string b5, .string p5, .int .i64 n5, .int .i64 c5]) := Lib.hid (HX6.out.fr0 HF7.out); have HY7 : Hid (Blk w7 w5.heap.size 25 #[.int .i64 k6, .int .i64 g6, .int .i64 s6, .bool y6, .string b6, .string p6, .int .i64 n6, .int .i64 c6]) := Lib.hid (HY6.out.fr0 HF7.out))
    | (go_at_call 11; have hh := HX8; clear hh; (with_reducible refine (code_nil _).mono ?_); rintro e w9 ⟨rfl, hf9⟩; have HF9 := Lib.hid hf9; clear hf9; have HX9 : Hid (Blk w9 w3.heap.size 25 #[.int .i64 k5, .int .i64 g5, .int .i64 s5, .bool y5, .string b5, .string p5, .int .i64 n5, .int .i64 c5]) := Lib.hid (HX8.out.fr0 HF9.out); have HY9 : Hid (Blk w9 w5.heap.size 25 #[.int .i64 k6, .int .i64 g6, .int .i64 s6, .bool y6, .string b6, .string p6, .int .i64 n6, .int .i64 c6]) := Lib.hid (HY8.out.fr0 HF9.out); have xx0 : w9.cell? ⟨w3.heap.size, 0, none⟩ = some (.int .i64 k5) := HX9.out.cell 0; have xx1 : w9.cell? ⟨w3.heap.size, 1, none⟩ = some (.int .i64 g5) := HX9.out.cell 1; have xx2 : w9.cell? ⟨w3.heap.size, 2, none⟩ = some (.int .i64 s5) := HX9.out.cell 2; have xx3 : w9.cell? ⟨w3.heap.size, 3, none⟩ = some (.bool y5) := HX9.out.cell 3; have xx4 : w9.cell? ⟨w3.heap.size, 4, none⟩ = some (.string b5) := HX9.out.cell 4; have xx5 : w9.cell? ⟨w3.heap.size, 5, none⟩ = some (.string p5) := HX9.out.cell 5; have xx6 : w9.cell? ⟨w3.heap.size, 6, none⟩ = some (.int .i64 n5) := HX9.out.cell 6; have xx7 : w9.cell? ⟨w3.heap.size, 7, none⟩ = some (.int .i64 c5) := HX9.out.cell 7; have yy0 : w9.cell? ⟨w5.heap.size, 0, none⟩ = some (.int .i64 k6) := HY9.out.cell 0; have yy1 : w9.cell? ⟨w5.heap.size, 1, none⟩ = some (.int .i64 g6) := HY9.out.cell 1; have yy2 : w9.cell? ⟨w5.heap.size, 2, none⟩ = some (.int .i64 s6) := HY9.out.cell 2; have yy3 : w9.cell? ⟨w5.heap.size, 3, none⟩ = some (.bool y6) := HY9.out.cell 3; have yy4 : w9.cell? ⟨w5.heap.size, 4, none⟩ = some (.string b6) := HY9.out.cell 4; have yy5 : w9.cell? ⟨w5.heap.size, 5, none⟩ = some (.string p6) := HY9.out.cell 5; have yy6 : w9.cell? ⟨w5.heap.size, 6, none⟩ = some (.int .i64 n6) := HY9.out.cell 6; have yy7 : w9.cell? ⟨w5.heap.size, 7, none⟩ = some (.int .i64 c6) := HY9.out.cell 7; have hE9 := hE w9)
    | (go_at_call 11; (with_reducible refine (code_nil _).mono ?_); rintro e w8 ⟨rfl, hf8⟩; have HF8 := Lib.hid hf8; clear hf8; have HX8 : Hid (Blk w8 w3.heap.size 25 #[.int .i64 k5, .int .i64 g5, .int .i64 s5, .bool y5, .string b5, .string p5, .int .i64 n5, .int .i64 c5]) := Lib.hid (HX7.out.fr0 HF8.out); have HY8 : Hid (Blk w8 w5.heap.size 25 #[.int .i64 k6, .int .i64 g6, .int .i64 s6, .bool y6, .string b6, .string p6, .int .i64 n6, .int .i64 c6]) := Lib.hid (HY7.out.fr0 HF8.out)))
  go_ret
  exact ⟨rfl, ((((((((HFW.out.trans HF1.out).trans HF2.out).trans HF3.out).alloc _).trans HF4.out).trans HF5.out).alloc _ |>.trans HF6.out).trans HF7.out |>.trans HF8.out).trans HF9.out⟩

theorem wrapB_inj (s t : ByteArray) (h : wrapB s = wrapB t) : s = t := by
  have h1 := congrArg ByteArray.size h
  rw [wrapB_size, wrapB_size] at h1
  have e : s.size = t.size := by omega
  rw [← wrapB_head s, ← wrapB_head t, h, e]
theorem apart_any (a b : Raw) (w : World) (ha1 : a.body.size ≤ 9223372036854775807) (ha2 : a.path.size ≤ 9223372036854775807) (hb1 : b.body.size ≤ 9223372036854775807) (hb2 : b.path.size ≤ 9223372036854775807) (hg : errT w) :
    Calls Tryd.prog 3 #[.agg a.val, .agg b.val] w fun e w' => e = .returned (.bool true) ∧ Fr noneOf w w' := by
  obtain ⟨A, hA⟩ : ∃ A : Raw, A = { a with body := cutB a.body 60, path := cutB a.path 60 } := ⟨_, rfl⟩
  obtain ⟨B, hB⟩ : ∃ B : Raw, B = { b with body := cutB b.body 60, path := cutB b.path 60 } := ⟨_, rfl⟩
  have hLA := fun w => less_any a w ha1 ha2
  have hLB := fun w => less_any b w hb1 hb2
  rw [← hA] at hLA
  rw [← hB] at hLB
  have z1 := cutB_size a.body 60
  have z2 := cutB_size a.path 60
  have z3 := cutB_size b.body 60
  have z4 := cutB_size b.path 60
  obtain ⟨x, hx, hX⟩ := made_any A (by rw [hA]; show (cutB a.body 60).size ≤ 1000; omega) (by rw [hA]; show (cutB a.path 60).size ≤ 1000; omega)
  obtain ⟨y, hy, hY⟩ := made_any B (by rw [hB]; show (cutB b.body 60).size ≤ 1000; omega) (by rw [hB]; show (cutB b.path 60).size ≤ 1000; omega)
  have hBX := fun w => bytes_ok x hx w
  have hBY := fun w => bytes_ok y hy w
  have hlx := ms_len x hx
  have hly := ms_len y hy
  have hv : x.val = y.val ↔ x = y := ⟨val_inj x y hx hy, fun h => by rw [h]⟩
  have hw : wrapB ⟨x.enc.toArray⟩ = wrapB ⟨y.enc.toArray⟩ ↔ x = y := ⟨fun h => ms_inj x y hx hy (by have := congrArg (fun b : ByteArray => b.data.toList) (wrapB_inj _ _ h); simpa using this), fun h => by rw [h]⟩
  obtain ⟨rx, hrx⟩ := ms_raw x
  obtain ⟨ry, hry⟩ := ms_raw y
  unfold Makes at hX hY
  unfold Wrote at hBX hBY
  rw [hrx] at hX hBX hv
  rw [hry] at hY hBY hv
  have h5 : (5 : Int) ≤ ((wrapB ⟨x.enc.toArray⟩).size : Int) := by
    rw [wrapB_size]
    have : (ByteArray.mk x.enc.toArray).size = x.enc.length := by simp [ByteArray.size]
    omega
  clear hA hB z1 z2 z3 z4
  obtain ⟨_, _, _, _, _, _, _, _⟩ := a
  obtain ⟨_, _, _, _, _, _, _, _⟩ := b
  obtain ⟨_, _, _, _, _, _, _, _⟩ := A
  obtain ⟨_, _, _, _, _, _, _, _⟩ := B
  obtain ⟨_, _, _, _, _, _, _, _⟩ := rx
  obtain ⟨_, _, _, _, _, _, _, _⟩ := ry
  dsimp only [Raw.val] at *
  by_cases he : x = y
  · refine apart_walk _ _ _ _ _ _ _ _ _ _ _ _ _ _ _ _ _ _ _ _ _ _ _ _ _ _ _ _ _ _ _ _ _ _ _ _ _ _ _ _ _ _ _ _ _ _ _ _ _ _ true w (Lib.hid hLA) (Lib.hid hLB) (Lib.hid hX) (Lib.hid hY) (Lib.hid hBX) (Lib.hid hBY) (fun w => ?_) ?_ h5
    · rw [hv.mpr he]; exact msg_same w _ _ _ _ _ _ _ _
    · rw [hw.mpr he]; simp
  · refine apart_walk _ _ _ _ _ _ _ _ _ _ _ _ _ _ _ _ _ _ _ _ _ _ _ _ _ _ _ _ _ _ _ _ _ _ _ _ _ _ _ _ _ _ _ _ _ _ _ _ _ _ false w (Lib.hid hLA) (Lib.hid hLB) (Lib.hid hX) (Lib.hid hY) (Lib.hid hBX) (Lib.hid hBY) (fun w => ?_) ?_ h5
    · exact msg_other w _ _ _ _ _ _ _ _ _ _ _ _ _ _ _ _ (fun h => he (hv.mp h))
    · simp only [beq_eq_false_iff_ne, ne_eq]; exact fun h => he (hw.mp (tl_inj _ _ h))
end Go.Proofs.YtblnmghbcgbgdaaDoor
