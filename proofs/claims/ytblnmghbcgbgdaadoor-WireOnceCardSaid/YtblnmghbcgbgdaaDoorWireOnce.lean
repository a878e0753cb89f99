/-
  WireOnce: the walk.
  Conditions: none.
-/
import Derived.Test.YtblnmghbcgbgdaaDoorReadAny
import Derived.Test.YtblnmghbcgbgdaaDoorMadeAny
import Derived.Test.YtblnmghbcgbgdaaDoorRefWrapD
import Derived.Deep.DeepCutAuto
namespace Go.Proofs.YtblnmghbcgbgdaaDoor
open Go.RowKit Nums
set_option linter.unusedVariables false
set_option linter.unusedSimpArgs false

theorem text_S (Y : ByteArray) (w : World) : (Instr.field 39 (.agg #[.string Y, .int .i64 0]) 0).run Tryd.prog w = .ok (.string Y) w := by kernel_rfl

set_option maxRecDepth 100000 in
set_option maxHeartbeats 4000000 in
theorem once_bad (s X Y : ByteArray) (w : World) (hg : errT w) (HS : Hid (∀ w, Calls Tryd.prog 15 #[.string s, .int .i64 80] w fun e w' => e = .returned (.string X) ∧ w = w')) (HW : Hid (∀ w, Calls Tryd.prog 14 #[.string X] w fun e w' => e = .returned (.agg #[.string Y, .int .i64 0]) ∧ Fr noneOf w w'))
    (HR : Hid (∀ w, Calls Tryd.prog 12 #[.string Y] w fun e w' => (∃ T V, e = .returned (.tuple #[.agg #[.int .i64 0, .int .i64 0, .int .i64 0, .bool false, .string ⟨#[]⟩, .string ⟨#[]⟩, .int .i64 0, .int .i64 0], .iface T V]) ∧ Bad T V w') ∧ Fr noneOf w w')) :
    Calls Tryd.prog 5 #[.string s] w fun e w' => e = .returned (.bool true) ∧ Fr noneOf w w' := by
  have HG := Lib.hid hg
  clear hg
  have hfd := text_S Y
  go_enter Tryd.func5, Tryd.ntmps5
  go_wp2_with (first
    | (go_at_call 7; (with_reducible refine (awake_any _).mono ?_); rintro e w1 ⟨rfl, hf1⟩; have HF1 := Lib.hid hf1; clear hf1)
    | (go_at_call 15; (with_reducible refine (HS.out _).mono ?_); rintro e w2 ⟨rfl, rfl⟩)
    | (go_at_call 14; (with_reducible refine (HW.out _).mono ?_); rintro e w3 ⟨rfl, hf3⟩; have HF3 := Lib.hid (HF1.out.trans hf3); clear hf3)
    | (go_at_call 12; (with_reducible refine (HR.out _).mono ?_); rintro e w4 ⟨⟨T, U, rfl, hbd⟩, hf4⟩; have HF4 := Lib.hid ((HF3.out.trans hf4).alloc (.cells #[.int .i64 0, .int .i64 0, .int .i64 0, .bool false, .string ⟨#[]⟩, .string ⟨#[]⟩, .int .i64 0, .int .i64 0] 25)); have HQ4 : Hid (Blk (w4.alloc (.cells #[.int .i64 0, .int .i64 0, .int .i64 0, .bool false, .string ⟨#[]⟩, .string ⟨#[]⟩, .int .i64 0, .int .i64 0] 25)) w4.heap.size 25 #[.int .i64 0, .int .i64 0, .int .i64 0, .bool false, .string ⟨#[]⟩, .string ⟨#[]⟩, .int .i64 0, .int .i64 0]) := Lib.hid (Blk.new w4 _ _); have HB4 : Hid (Bad T U (w4.alloc (.cells #[.int .i64 0, .int .i64 0, .int .i64 0, .bool false, .string ⟨#[]⟩, .string ⟨#[]⟩, .int .i64 0, .int .i64 0] 25))) := Lib.hid (hbd.fr0 ((Fr.refl _ _).alloc _)); clear hbd hf4)
    | (go_at_call 11; (with_reducible refine (code_bad HB4.out (HG.out.fr HF4.out)).mono ?_); rintro e w5 ⟨c, hc, rfl, hf5⟩; have HF5 := Lib.hid (HF4.out.trans hf5); have HQ5 := Lib.hid (HQ4.out.fr0 hf5); clear hf5; have c0 : w5.cell? ⟨w4.heap.size, 0, none⟩ = some (.int .i64 0) := HQ5.out.cell 0; have hne : ¬ c = 0 := by simpa using hc)
    )
  go_ret
  exact ⟨rfl, HF5.out⟩

set_option maxRecDepth 100000 in
set_option maxHeartbeats 4000000 in
theorem once_good (k1 g1 s1 : Int) (y1 : Bool) (b1 p1 : ByteArray) (n1 c1 : Int) (s X Y : ByteArray) (w : World) (HS : Hid (∀ w, Calls Tryd.prog 15 #[.string s, .int .i64 80] w fun e w' => e = .returned (.string X) ∧ w = w')) (HW : Hid (∀ w, Calls Tryd.prog 14 #[.string X] w fun e w' => e = .returned (.agg #[.string Y, .int .i64 0]) ∧ Fr noneOf w w'))
    (HR : Hid (∀ w, Calls Tryd.prog 12 #[.string Y] w fun e w' => e = .returned (.tuple #[.agg #[.int .i64 k1, .int .i64 g1, .int .i64 s1, .bool y1, .string b1, .string p1, .int .i64 n1, .int .i64 c1], .nilIface]) ∧ Fr noneOf w w')) (HB : Hid (∀ w, Calls Tryd.prog 10 #[.agg #[.int .i64 k1, .int .i64 g1, .int .i64 s1, .bool y1, .string b1, .string p1, .int .i64 n1, .int .i64 c1]] w fun e w' => e = .returned (.tuple #[.string Y, .nilIface]) ∧ Fr noneOf w w')) (HC : Hid (∀ w, Calls Tryd.prog 13 #[.agg #[.int .i64 k1, .int .i64 g1, .int .i64 s1, .bool y1, .string b1, .string p1, .int .i64 n1, .int .i64 c1]] w fun e w' => e = .returned (.bool true) ∧ Fr noneOf w w')) :
    Calls Tryd.prog 5 #[.string s] w fun e w' => e = .returned (.bool true) ∧ Fr noneOf w w' := by
  have hfd := text_S Y
  go_enter Tryd.func5, Tryd.ntmps5
  go_wp2_with (first
    | (go_at_call 7; (with_reducible refine (awake_any _).mono ?_); rintro e w1 ⟨rfl, hf1⟩; have HF1 := Lib.hid hf1; clear hf1)
    | (go_at_call 15; (with_reducible refine (HS.out _).mono ?_); rintro e w2 ⟨rfl, rfl⟩)
    | (go_at_call 14; (with_reducible refine (HW.out _).mono ?_); rintro e w3 ⟨rfl, hf3⟩; have HF3 := Lib.hid (HF1.out.trans hf3); clear hf3)
    | (go_at_call 12; (with_reducible refine (HR.out _).mono ?_); rintro e w4 ⟨rfl, hf4⟩; have HF4 := Lib.hid ((HF3.out.trans hf4).alloc (.cells #[.int .i64 k1, .int .i64 g1, .int .i64 s1, .bool y1, .string b1, .string p1, .int .i64 n1, .int .i64 c1] 25)); have HQ4 : Hid (Blk (w4.alloc (.cells #[.int .i64 k1, .int .i64 g1, .int .i64 s1, .bool y1, .string b1, .string p1, .int .i64 n1, .int .i64 c1] 25)) w4.heap.size 25 #[.int .i64 k1, .int .i64 g1, .int .i64 s1, .bool y1, .string b1, .string p1, .int .i64 n1, .int .i64 c1]) := Lib.hid (Blk.new w4 _ _); clear hf4)
    | (go_at_call 11; have hh := HF7; clear hh; (with_reducible refine (code_nil _).mono ?_); rintro e w8 ⟨rfl, hf8⟩; have HF8 := Lib.hid (HF7.out.trans hf8); clear hf8)
    | (go_at_call 11; (with_reducible refine (code_nil _).mono ?_); rintro e w5 ⟨rfl, hf5⟩; have HF5 := Lib.hid (HF4.out.trans hf5); have HQ5 := Lib.hid (HQ4.out.fr0 hf5); clear hf5; have m5_0 : w5.cell? ⟨w4.heap.size, 0, none⟩ = some (.int .i64 k1) := HQ5.out.cell 0; have m5_1 : w5.cell? ⟨w4.heap.size, 1, none⟩ = some (.int .i64 g1) := HQ5.out.cell 1; have m5_2 : w5.cell? ⟨w4.heap.size, 2, none⟩ = some (.int .i64 s1) := HQ5.out.cell 2; have m5_3 : w5.cell? ⟨w4.heap.size, 3, none⟩ = some (.bool y1) := HQ5.out.cell 3; have m5_4 : w5.cell? ⟨w4.heap.size, 4, none⟩ = some (.string b1) := HQ5.out.cell 4; have m5_5 : w5.cell? ⟨w4.heap.size, 5, none⟩ = some (.string p1) := HQ5.out.cell 5; have m5_6 : w5.cell? ⟨w4.heap.size, 6, none⟩ = some (.int .i64 n1) := HQ5.out.cell 6; have m5_7 : w5.cell? ⟨w4.heap.size, 7, none⟩ = some (.int .i64 c1) := HQ5.out.cell 7; skip)
    | (go_at_call 10; (with_reducible refine (HB.out _).mono ?_); rintro e w6 ⟨rfl, hf6⟩; have HF6 := Lib.hid (HF5.out.trans hf6); have HQ6 := Lib.hid (HQ5.out.fr0 hf6); clear hf6; have m6_0 : w6.cell? ⟨w4.heap.size, 0, none⟩ = some (.int .i64 k1) := HQ6.out.cell 0; have m6_1 : w6.cell? ⟨w4.heap.size, 1, none⟩ = some (.int .i64 g1) := HQ6.out.cell 1; have m6_2 : w6.cell? ⟨w4.heap.size, 2, none⟩ = some (.int .i64 s1) := HQ6.out.cell 2; have m6_3 : w6.cell? ⟨w4.heap.size, 3, none⟩ = some (.bool y1) := HQ6.out.cell 3; have m6_4 : w6.cell? ⟨w4.heap.size, 4, none⟩ = some (.string b1) := HQ6.out.cell 4; have m6_5 : w6.cell? ⟨w4.heap.size, 5, none⟩ = some (.string p1) := HQ6.out.cell 5; have m6_6 : w6.cell? ⟨w4.heap.size, 6, none⟩ = some (.int .i64 n1) := HQ6.out.cell 6; have m6_7 : w6.cell? ⟨w4.heap.size, 7, none⟩ = some (.int .i64 c1) := HQ6.out.cell 7; skip)
    | (go_at_call 13; (with_reducible refine (HC.out _).mono ?_); rintro e w7 ⟨rfl, hf7⟩; have HF7 := Lib.hid (HF6.out.trans hf7); clear hf7)
    )
  go_ret
  exact ⟨rfl, HF8.out⟩

theorem once_any (s : ByteArray) (w : World) (hs : s.size ≤ 9223372036854775807) (hg : errT w) :
    Calls Tryd.prog 5 #[.string s] w fun e w' => e = .returned (.bool true) ∧ Fr noneOf w w' := by
  have HS := Lib.hid (fun w => short_any s 80 w hs (by omega))
  rw [show ((80 : Nat) : Int) = 80 from rfl] at HS
  have hc := cutB_size s 80
  obtain ⟨X, hX⟩ : ∃ X, X = cutB s 80 := ⟨_, rfl⟩
  rw [← hX] at HS hc
  have HW := Lib.hid (fun w => refwrap_any X w (by omega))
  rcases read_any X (by omega) with ⟨x, hx, hxe, HR⟩ | HR
  · have HB := fun w => bytes_ok x hx w
    have HC := fun w => check_ok x hx w
    obtain ⟨r, hr⟩ := ms_raw x
    unfold Wrote at HB
    rw [show (ByteArray.mk x.enc.toArray) = X by rw [← hxe]] at HB
    rw [hr] at HB HC HR
    obtain ⟨_, _, _, _, _, _, _, _⟩ := r
    dsimp only [Raw.val] at *
    exact once_good _ _ _ _ _ _ _ _ s X (wrapB X) w HS HW (Lib.hid HR) (Lib.hid HB) (Lib.hid HC)
  · exact once_bad s X (wrapB X) w hg HS HW (Lib.hid HR)
end Go.Proofs.YtblnmghbcgbgdaaDoor
