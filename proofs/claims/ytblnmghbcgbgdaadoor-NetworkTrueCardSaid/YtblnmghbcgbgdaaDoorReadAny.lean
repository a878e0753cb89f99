/-
  wire.Read of whatever is wrapped: a message that may be, whose bytes were wrapped; or a fault.
  Conditions: none.
-/
import Derived.Test.YtblnmghbcgbgdaaDoorBodyAny
import Derived.Test.YtblnmghbcgbgdaaDoorWireMade
import Derived.Test.YtblnmghbcgbgdaaDoorMsgEq
import Derived.Test.YtblnmghbcgbgdaaDoorBackW
namespace Go.Proofs.YtblnmghbcgbgdaaDoor
open Go.RowKit Nums
set_option linter.unusedVariables false
set_option linter.unusedSimpArgs false
theorem Blk.apart {w : World} {a b : Nat} {t u : TypeId} {cs ds : Array Value} (h : Blk w a t cs) (k : Blk w b u ds) (htu : t ≠ u) : a ≠ b := by
  intro e
  subst e
  have := (h.symm.trans k)
  simp at this
  exact htu this.2
/-- A fault that stands there, and is not OK. -/
def Bad (T : Nat) (V : Value) (w : World) : Prop := (∃ c : Int, (c == 0) = false ∧ T = 32 ∧ V = .int .i64 c) ∨ (∃ (g : Nat) (c p : Int), (c == 0) = false ∧ T = 152 ∧ V = .pointer (some ⟨g, 0, none⟩) ∧ Blk w g 154 (arC c p))
theorem Bad.fr0 {T : Nat} {V : Value} {w w' : World} (h : Bad T V w) (hf : Fr noneOf w w') : Bad T V w' := by
  rcases h with h | ⟨g, c, p, h1, h2, h3, h4⟩
  · exact .inl h
  · exact .inr ⟨g, c, p, h1, h2, h3, h4.fr0 hf⟩
theorem code_bad {T : Nat} {V : Value} {w : World} (h : Bad T V w) (hg : errT w) : Calls Tryd.prog 11 #[.iface T V] w fun e w' => ∃ c : Int, (c == 0) = false ∧ e = .returned (.int .i64 c) ∧ Fr noneOf w w' := by
  rcases h with ⟨c, hc, rfl, rfl⟩ | ⟨g, c, p, hc, rfl, rfl, hb⟩
  · exact (code_num c w hg).mono fun e w' ⟨a, b⟩ => ⟨c, hc, a, b⟩
  · exact (code_around g c p w hg hb).mono fun e w' ⟨a, b⟩ => ⟨c, hc, a, b⟩
theorem end_bad (g : Bool) (s : ByteArray) (q b : Nat) (hq : q ≤ s.size) (hbad : g = true → q ≠ s.size) (w : World) (h : St g s q b w) : Calls Tryd.prog 37 #[.pointer (some ⟨b, 0, none⟩)] w fun e w' => ∃ (i : Nat) (c p : Int), (c == 0) = false ∧ e = .returned (.iface 152 (.pointer (some ⟨i, 0, none⟩))) ∧ Blk w' i 154 (arC c p) ∧ Fr noneOf w w' := by
  cases g with
  | false =>
    obtain ⟨c, hc, hR⟩ := h
    exact (end_no s q b c w hc hR).mono fun e w' ⟨i, a, b, d⟩ => ⟨i, c, _, hc, a, b, d⟩
  | true =>
    have := hbad rfl
    exact (end_more s q b w (by omega) h.good).mono fun e w' ⟨i, a, b, d⟩ => ⟨i, 10, _, rfl, a, b, d⟩
set_option maxRecDepth 100000 in
set_option maxHeartbeats 4000000 in
theorem read_walk (k1 g1 s1 : Int) (y1 : Bool) (b1 p1 : ByteArray) (n1 c1 : Int) (S U : ByteArray) (w : World)
    (HO : Hid (∀ w, Calls Tryd.prog 25 #[.string S] w fun e w' => e = .returned (.tuple #[.string U, .nilIface]) ∧ Fr noneOf w w'))
    (HB : Hid (∀ b w, Rw U 0 0 b w → Calls Tryd.prog 36 #[.pointer (some ⟨b, 0, none⟩)] w fun e w' => e = .returned (.agg #[.int .i64 k1, .int .i64 g1, .int .i64 s1, .bool y1, .string b1, .string p1, .int .i64 n1, .int .i64 c1]) ∧ Rw U U.size 0 b w' ∧ Fr (justOf b) w w'))
    (HC : Hid (∀ w, Calls Tryd.prog 13 #[.agg #[.int .i64 k1, .int .i64 g1, .int .i64 s1, .bool y1, .string b1, .string p1, .int .i64 n1, .int .i64 c1]] w fun e w' => e = .returned (.bool true) ∧ Fr noneOf w w')) :
    Calls Tryd.prog 12 #[.string S] w fun e w' => e = .returned (.tuple #[.agg #[.int .i64 k1, .int .i64 g1, .int .i64 s1, .bool y1, .string b1, .string p1, .int .i64 n1, .int .i64 c1], .nilIface]) ∧ Fr noneOf w w' := by
  have HQ0 : Hid (Blk (w.alloc (.cells #[.int .i64 0, .int .i64 0, .int .i64 0, .bool false, .string ⟨#[]⟩, .string ⟨#[]⟩, .int .i64 0, .int .i64 0] 25)) w.heap.size 25 #[.int .i64 0, .int .i64 0, .int .i64 0, .bool false, .string ⟨#[]⟩, .string ⟨#[]⟩, .int .i64 0, .int .i64 0]) := Lib.hid (Blk.new w _ _)
  have HF0 : Hid (Fr noneOf w (w.alloc (.cells #[.int .i64 0, .int .i64 0, .int .i64 0, .bool false, .string ⟨#[]⟩, .string ⟨#[]⟩, .int .i64 0, .int .i64 0] 25))) := Lib.hid ((Fr.refl _ _).alloc _)
  go_enter Tryd.func12, Tryd.ntmps12
  go_wp2_with (first
    | (go_at_call 25; (with_reducible refine (HO.out _).mono ?_); rintro e w1 ⟨rfl, hf1⟩; have HF1 : Hid (Fr noneOf w w1) := Lib.hid (HF0.out.trans hf1); have HQ1 := Lib.hid (HQ0.out.fr0 hf1); clear hf1)
    | (go_at_call 35; (with_reducible refine (of_any _ _).mono ?_); rintro e w2 ⟨b, rfl, hR, hf2, hb⟩; have HR2 := Lib.hid hR; have HF2 : Hid (Fr noneOf w w2) := Lib.hid (HF1.out.trans hf2); have HQ2 := Lib.hid (HQ1.out.fr0 hf2); have HN : Hid (w.heap.size ≠ b) := Lib.hid (by have := HQ1.out.lt; omega); have HG : Hid (w.heap.size ≤ b) := Lib.hid (by have := HQ1.out.lt; omega); clear hR hf2 hb)
    | (go_at_call 36; (with_reducible refine (HB.out _ _ HR2.out).mono ?_); rintro e w3 ⟨rfl, hR, hf3⟩; have HR3 : Hid (Rw U U.size 0 b (w3.alloc (.cells #[.int .i64 k1, .int .i64 g1, .int .i64 s1, .bool y1, .string b1, .string p1, .int .i64 n1, .int .i64 c1] 25))) := Lib.hid (Blk.alloc hR _); have HF3 : Hid (Fr noneOf w (w3.alloc (.cells #[.int .i64 k1, .int .i64 g1, .int .i64 s1, .bool y1, .string b1, .string p1, .int .i64 n1, .int .i64 c1] 25))) := Lib.hid ((Fr.trans' HF2.out hf3 (fun i hi e => by have := HG.out; have e : i = b := e; exfalso; omega)).alloc _); have HQ3 := Lib.hid ((HQ2.out.fr hf3 HN.out).alloc (.cells #[.int .i64 k1, .int .i64 g1, .int .i64 s1, .bool y1, .string b1, .string p1, .int .i64 n1, .int .i64 c1] 25)); clear hR hf3)
    | (go_at_call 37; (with_reducible refine (end_done _ _ _ HR3.out).mono ?_); rintro e w4 ⟨rfl, hf4⟩; have HF4 : Hid (Fr noneOf w w4) := Lib.hid (HF3.out.trans hf4); have HQ4 := Lib.hid (HQ3.out.fr0 hf4); have HM4 : Hid (Blk w4 w3.heap.size 25 #[.int .i64 k1, .int .i64 g1, .int .i64 s1, .bool y1, .string b1, .string p1, .int .i64 n1, .int .i64 c1]) := Lib.hid ((Blk.new w3 25 #[.int .i64 k1, .int .i64 g1, .int .i64 s1, .bool y1, .string b1, .string p1, .int .i64 n1, .int .i64 c1]).fr0 hf4); clear hf4; have m4_0 : w4.cell? ⟨w3.heap.size, 0, none⟩ = some (.int .i64 k1) := HM4.out.cell 0; have m4_1 : w4.cell? ⟨w3.heap.size, 1, none⟩ = some (.int .i64 g1) := HM4.out.cell 1; have m4_2 : w4.cell? ⟨w3.heap.size, 2, none⟩ = some (.int .i64 s1) := HM4.out.cell 2; have m4_3 : w4.cell? ⟨w3.heap.size, 3, none⟩ = some (.bool y1) := HM4.out.cell 3; have m4_4 : w4.cell? ⟨w3.heap.size, 4, none⟩ = some (.string b1) := HM4.out.cell 4; have m4_5 : w4.cell? ⟨w3.heap.size, 5, none⟩ = some (.string p1) := HM4.out.cell 5; have m4_6 : w4.cell? ⟨w3.heap.size, 6, none⟩ = some (.int .i64 n1) := HM4.out.cell 6; have m4_7 : w4.cell? ⟨w3.heap.size, 7, none⟩ = some (.int .i64 c1) := HM4.out.cell 7; skip)
    | (go_at_call 13; (with_reducible refine (HC.out _).mono ?_); rintro e w5 ⟨rfl, hf5⟩; have HF5 : Hid (Fr noneOf w w5) := Lib.hid (HF4.out.trans hf5); have HQ5 := Lib.hid (HQ4.out.fr0 hf5); have HM5 : Hid (Blk w5 w3.heap.size 25 #[.int .i64 k1, .int .i64 g1, .int .i64 s1, .bool y1, .string b1, .string p1, .int .i64 n1, .int .i64 c1]) := Lib.hid (HM4.out.fr0 hf5); clear hf5; have m5_0 : w5.cell? ⟨w3.heap.size, 0, none⟩ = some (.int .i64 k1) := HM5.out.cell 0; have m5_1 : w5.cell? ⟨w3.heap.size, 1, none⟩ = some (.int .i64 g1) := HM5.out.cell 1; have m5_2 : w5.cell? ⟨w3.heap.size, 2, none⟩ = some (.int .i64 s1) := HM5.out.cell 2; have m5_3 : w5.cell? ⟨w3.heap.size, 3, none⟩ = some (.bool y1) := HM5.out.cell 3; have m5_4 : w5.cell? ⟨w3.heap.size, 4, none⟩ = some (.string b1) := HM5.out.cell 4; have m5_5 : w5.cell? ⟨w3.heap.size, 5, none⟩ = some (.string p1) := HM5.out.cell 5; have m5_6 : w5.cell? ⟨w3.heap.size, 6, none⟩ = some (.int .i64 n1) := HM5.out.cell 6; have m5_7 : w5.cell? ⟨w3.heap.size, 7, none⟩ = some (.int .i64 c1) := HM5.out.cell 7; have mf5_0 := HM5.out.frozen 0; have mf5_1 := HM5.out.frozen 1; have mf5_2 := HM5.out.frozen 2; have mf5_3 := HM5.out.frozen 3; have mf5_4 := HM5.out.frozen 4; have mf5_5 := HM5.out.frozen 5; have mf5_6 := HM5.out.frozen 6; have mf5_7 := HM5.out.frozen 7; have r5_0 : w5.cell? ⟨w.heap.size, 0, none⟩ = some (.int .i64 0) := HQ5.out.cell 0; have r5_1 : w5.cell? ⟨w.heap.size, 1, none⟩ = some (.int .i64 0) := HQ5.out.cell 1; have r5_2 : w5.cell? ⟨w.heap.size, 2, none⟩ = some (.int .i64 0) := HQ5.out.cell 2; have r5_3 : w5.cell? ⟨w.heap.size, 3, none⟩ = some (.bool false) := HQ5.out.cell 3; have r5_4 : w5.cell? ⟨w.heap.size, 4, none⟩ = some (.string ⟨#[]⟩) := HQ5.out.cell 4; have r5_5 : w5.cell? ⟨w.heap.size, 5, none⟩ = some (.string ⟨#[]⟩) := HQ5.out.cell 5; have r5_6 : w5.cell? ⟨w.heap.size, 6, none⟩ = some (.int .i64 0) := HQ5.out.cell 6; have r5_7 : w5.cell? ⟨w.heap.size, 7, none⟩ = some (.int .i64 0) := HQ5.out.cell 7; have rf5_0 := HQ5.out.frozen 0; have rf5_1 := HQ5.out.frozen 1; have rf5_2 := HQ5.out.frozen 2; have rf5_3 := HQ5.out.frozen 3; have rf5_4 := HQ5.out.frozen 4; have rf5_5 := HQ5.out.frozen 5; have rf5_6 := HQ5.out.frozen 6; have rf5_7 := HQ5.out.frozen 7; skip)
    )
  have E := Lib.hid ((((((((HQ5.out.set_ 0 (.int .i64 k1)).set_ 1 (.int .i64 g1)).set_ 2 (.int .i64 s1)).set_ 3 (.bool y1)).set_ 4 (.string b1)).set_ 5 (.string p1)).set_ 6 (.int .i64 n1)).set_ 7 (.int .i64 c1))
  have E0 := E.out.cell 0
  have E1 := E.out.cell 1
  have E2 := E.out.cell 2
  have E3 := E.out.cell 3
  have E4 := E.out.cell 4
  have E5 := E.out.cell 5
  have E6 := E.out.cell 6
  have E7 := E.out.cell 7
  exact bodyPost_ret (v := .tuple #[.agg #[.int .i64 k1, .int .i64 g1, .int .i64 s1, .bool y1, .string b1, .string p1, .int .i64 n1, .int .i64 c1], .nilIface]) (by simp [results, Tryd.results12, go_sem, E0, E1, E2, E3, E4, E5, E6, E7]) rfl ⟨rfl, ((((((((HF5.out.setCell (p := ⟨w.heap.size, 0, none⟩) (.inr (Nat.le_refl _)) _).setCell (p := ⟨w.heap.size, 1, none⟩) (.inr (Nat.le_refl _)) _).setCell (p := ⟨w.heap.size, 2, none⟩) (.inr (Nat.le_refl _)) _).setCell (p := ⟨w.heap.size, 3, none⟩) (.inr (Nat.le_refl _)) _).setCell (p := ⟨w.heap.size, 4, none⟩) (.inr (Nat.le_refl _)) _).setCell (p := ⟨w.heap.size, 5, none⟩) (.inr (Nat.le_refl _)) _).setCell (p := ⟨w.heap.size, 6, none⟩) (.inr (Nat.le_refl _)) _).setCell (p := ⟨w.heap.size, 7, none⟩) (.inr (Nat.le_refl _)) _)⟩
set_option maxRecDepth 100000 in
set_option maxHeartbeats 4000000 in
theorem read_lost (k1 g1 s1 : Int) (y1 : Bool) (b1 p1 : ByteArray) (n1 c1 : Int) (S U : ByteArray) (g : Bool) (q : Nat) (w : World)
    (HO : Hid (∀ w, Calls Tryd.prog 25 #[.string S] w fun e w' => e = .returned (.tuple #[.string U, .nilIface]) ∧ Fr noneOf w w'))
    (HB : Hid (∀ b w, Rw U 0 0 b w → Calls Tryd.prog 36 #[.pointer (some ⟨b, 0, none⟩)] w fun e w' => e = .returned (.agg #[.int .i64 k1, .int .i64 g1, .int .i64 s1, .bool y1, .string b1, .string p1, .int .i64 n1, .int .i64 c1]) ∧ St g U q b w' ∧ Fr (justOf b) w w'))
    (HE : Hid (∀ b w, St g U q b w → Calls Tryd.prog 37 #[.pointer (some ⟨b, 0, none⟩)] w fun e w' => ∃ (i : Nat) (c p : Int), (c == 0) = false ∧ e = .returned (.iface 152 (.pointer (some ⟨i, 0, none⟩))) ∧ Blk w' i 154 (arC c p) ∧ Fr noneOf w w')) :
    Calls Tryd.prog 12 #[.string S] w fun e w' => (∃ T V, e = .returned (.tuple #[.agg #[.int .i64 0, .int .i64 0, .int .i64 0, .bool false, .string ⟨#[]⟩, .string ⟨#[]⟩, .int .i64 0, .int .i64 0], .iface T V]) ∧ Bad T V w') ∧ Fr noneOf w w' := by
  have HQ0 : Hid (Blk (w.alloc (.cells #[.int .i64 0, .int .i64 0, .int .i64 0, .bool false, .string ⟨#[]⟩, .string ⟨#[]⟩, .int .i64 0, .int .i64 0] 25)) w.heap.size 25 #[.int .i64 0, .int .i64 0, .int .i64 0, .bool false, .string ⟨#[]⟩, .string ⟨#[]⟩, .int .i64 0, .int .i64 0]) := Lib.hid (Blk.new w _ _)
  have HF0 : Hid (Fr noneOf w (w.alloc (.cells #[.int .i64 0, .int .i64 0, .int .i64 0, .bool false, .string ⟨#[]⟩, .string ⟨#[]⟩, .int .i64 0, .int .i64 0] 25))) := Lib.hid ((Fr.refl _ _).alloc _)
  go_enter Tryd.func12, Tryd.ntmps12
  go_wp2_with (first
    | (go_at_call 25; (with_reducible refine (HO.out _).mono ?_); rintro e w1 ⟨rfl, hf1⟩; have HF1 : Hid (Fr noneOf w w1) := Lib.hid (HF0.out.trans hf1); have HQ1 := Lib.hid (HQ0.out.fr0 hf1); clear hf1)
    | (go_at_call 35; (with_reducible refine (of_any _ _).mono ?_); rintro e w2 ⟨b, rfl, hR, hf2, hb⟩; have HR2 := Lib.hid hR; have HF2 : Hid (Fr noneOf w w2) := Lib.hid (HF1.out.trans hf2); have HQ2 := Lib.hid (HQ1.out.fr0 hf2); have HN : Hid (w.heap.size ≠ b) := Lib.hid (by have := HQ1.out.lt; omega); have HG : Hid (w.heap.size ≤ b) := Lib.hid (by have := HQ1.out.lt; omega); clear hR hf2 hb)
    | (go_at_call 36; (with_reducible refine (HB.out _ _ HR2.out).mono ?_); rintro e w3 ⟨rfl, hR, hf3⟩; have HR3 : Hid (St g U q b (w3.alloc (.cells #[.int .i64 k1, .int .i64 g1, .int .i64 s1, .bool y1, .string b1, .string p1, .int .i64 n1, .int .i64 c1] 25))) := Lib.hid (St.alloc hR _); have HF3 : Hid (Fr noneOf w (w3.alloc (.cells #[.int .i64 k1, .int .i64 g1, .int .i64 s1, .bool y1, .string b1, .string p1, .int .i64 n1, .int .i64 c1] 25))) := Lib.hid ((Fr.trans' HF2.out hf3 (fun i hi e => by have := HG.out; have e : i = b := e; exfalso; omega)).alloc _); have HQ3 := Lib.hid ((HQ2.out.fr hf3 HN.out).alloc (.cells #[.int .i64 k1, .int .i64 g1, .int .i64 s1, .bool y1, .string b1, .string p1, .int .i64 n1, .int .i64 c1] 25)); clear hR hf3)
    | (go_at_call 37; (with_reducible refine (HE.out _ _ HR3.out).mono ?_); rintro e w4 ⟨ii, cc, pp, hcc, rfl, hii, hf4⟩; have HF4 : Hid (Fr noneOf w w4) := Lib.hid (HF3.out.trans hf4); have HQ4 := Lib.hid (HQ3.out.fr0 hf4); have HI := Lib.hid hii; have HCC := Lib.hid hcc; clear hf4 hii hcc; have r4_0 : w4.cell? ⟨w.heap.size, 0, none⟩ = some (.int .i64 0) := HQ4.out.cell 0; have r4_1 : w4.cell? ⟨w.heap.size, 1, none⟩ = some (.int .i64 0) := HQ4.out.cell 1; have r4_2 : w4.cell? ⟨w.heap.size, 2, none⟩ = some (.int .i64 0) := HQ4.out.cell 2; have r4_3 : w4.cell? ⟨w.heap.size, 3, none⟩ = some (.bool false) := HQ4.out.cell 3; have r4_4 : w4.cell? ⟨w.heap.size, 4, none⟩ = some (.string ⟨#[]⟩) := HQ4.out.cell 4; have r4_5 : w4.cell? ⟨w.heap.size, 5, none⟩ = some (.string ⟨#[]⟩) := HQ4.out.cell 5; have r4_6 : w4.cell? ⟨w.heap.size, 6, none⟩ = some (.int .i64 0) := HQ4.out.cell 6; have r4_7 : w4.cell? ⟨w.heap.size, 7, none⟩ = some (.int .i64 0) := HQ4.out.cell 7; have rf4_0 := HQ4.out.frozen 0; have rf4_1 := HQ4.out.frozen 1; have rf4_2 := HQ4.out.frozen 2; have rf4_3 := HQ4.out.frozen 3; have rf4_4 := HQ4.out.frozen 4; have rf4_5 := HQ4.out.frozen 5; have rf4_6 := HQ4.out.frozen 6; have rf4_7 := HQ4.out.frozen 7; skip)
    )
  have E := Lib.hid ((((((((HQ4.out.set_ 0 (.int .i64 0)).set_ 1 (.int .i64 0)).set_ 2 (.int .i64 0)).set_ 3 (.bool false)).set_ 4 (.string ⟨#[]⟩)).set_ 5 (.string ⟨#[]⟩)).set_ 6 (.int .i64 0)).set_ 7 (.int .i64 0))
  have E0 := E.out.cell 0
  have E1 := E.out.cell 1
  have E2 := E.out.cell 2
  have E3 := E.out.cell 3
  have E4 := E.out.cell 4
  have E5 := E.out.cell 5
  have E6 := E.out.cell 6
  have E7 := E.out.cell 7
  exact bodyPost_ret (v := .tuple #[.agg #[.int .i64 0, .int .i64 0, .int .i64 0, .bool false, .string ⟨#[]⟩, .string ⟨#[]⟩, .int .i64 0, .int .i64 0], .iface 152 (.pointer (some ⟨ii, 0, none⟩))]) (by simp [results, Tryd.results12, go_sem, E0, E1, E2, E3, E4, E5, E6, E7]) rfl ⟨⟨_, _, rfl, .inr ⟨ii, cc, pp, HCC.out, rfl, rfl, (Blk.far (Blk.far (Blk.far (Blk.far (Blk.far (Blk.far (Blk.far (Blk.far HI.out (p := ⟨w.heap.size, 0, none⟩) (HI.out.apart HQ4.out (by decide)) _) (p := ⟨w.heap.size, 1, none⟩) (HI.out.apart HQ4.out (by decide)) _) (p := ⟨w.heap.size, 2, none⟩) (HI.out.apart HQ4.out (by decide)) _) (p := ⟨w.heap.size, 3, none⟩) (HI.out.apart HQ4.out (by decide)) _) (p := ⟨w.heap.size, 4, none⟩) (HI.out.apart HQ4.out (by decide)) _) (p := ⟨w.heap.size, 5, none⟩) (HI.out.apart HQ4.out (by decide)) _) (p := ⟨w.heap.size, 6, none⟩) (HI.out.apart HQ4.out (by decide)) _) (p := ⟨w.heap.size, 7, none⟩) (HI.out.apart HQ4.out (by decide)) _)⟩⟩, ((((((((HF4.out.setCell (p := ⟨w.heap.size, 0, none⟩) (.inr (Nat.le_refl _)) _).setCell (p := ⟨w.heap.size, 1, none⟩) (.inr (Nat.le_refl _)) _).setCell (p := ⟨w.heap.size, 2, none⟩) (.inr (Nat.le_refl _)) _).setCell (p := ⟨w.heap.size, 3, none⟩) (.inr (Nat.le_refl _)) _).setCell (p := ⟨w.heap.size, 4, none⟩) (.inr (Nat.le_refl _)) _).setCell (p := ⟨w.heap.size, 5, none⟩) (.inr (Nat.le_refl _)) _).setCell (p := ⟨w.heap.size, 6, none⟩) (.inr (Nat.le_refl _)) _).setCell (p := ⟨w.heap.size, 7, none⟩) (.inr (Nat.le_refl _)) _)⟩
set_option maxRecDepth 100000 in
set_option maxHeartbeats 4000000 in
theorem read_no (k1 g1 s1 : Int) (y1 : Bool) (b1 p1 : ByteArray) (n1 c1 : Int) (S U : ByteArray) (w : World)
    (HO : Hid (∀ w, Calls Tryd.prog 25 #[.string S] w fun e w' => e = .returned (.tuple #[.string U, .nilIface]) ∧ Fr noneOf w w'))
    (HB : Hid (∀ b w, Rw U 0 0 b w → Calls Tryd.prog 36 #[.pointer (some ⟨b, 0, none⟩)] w fun e w' => e = .returned (.agg #[.int .i64 k1, .int .i64 g1, .int .i64 s1, .bool y1, .string b1, .string p1, .int .i64 n1, .int .i64 c1]) ∧ Rw U U.size 0 b w' ∧ Fr (justOf b) w w'))
    (HC : Hid (∀ w, Calls Tryd.prog 13 #[.agg #[.int .i64 k1, .int .i64 g1, .int .i64 s1, .bool y1, .string b1, .string p1, .int .i64 n1, .int .i64 c1]] w fun e w' => e = .returned (.bool false) ∧ Fr noneOf w w')) :
    Calls Tryd.prog 12 #[.string S] w fun e w' => (∃ T V, e = .returned (.tuple #[.agg #[.int .i64 0, .int .i64 0, .int .i64 0, .bool false, .string ⟨#[]⟩, .string ⟨#[]⟩, .int .i64 0, .int .i64 0], .iface T V]) ∧ Bad T V w') ∧ Fr noneOf w w' := by
  have HQ0 : Hid (Blk (w.alloc (.cells #[.int .i64 0, .int .i64 0, .int .i64 0, .bool false, .string ⟨#[]⟩, .string ⟨#[]⟩, .int .i64 0, .int .i64 0] 25)) w.heap.size 25 #[.int .i64 0, .int .i64 0, .int .i64 0, .bool false, .string ⟨#[]⟩, .string ⟨#[]⟩, .int .i64 0, .int .i64 0]) := Lib.hid (Blk.new w _ _)
  have HF0 : Hid (Fr noneOf w (w.alloc (.cells #[.int .i64 0, .int .i64 0, .int .i64 0, .bool false, .string ⟨#[]⟩, .string ⟨#[]⟩, .int .i64 0, .int .i64 0] 25))) := Lib.hid ((Fr.refl _ _).alloc _)
  go_enter Tryd.func12, Tryd.ntmps12
  go_wp2_with (first
    | (go_at_call 25; (with_reducible refine (HO.out _).mono ?_); rintro e w1 ⟨rfl, hf1⟩; have HF1 : Hid (Fr noneOf w w1) := Lib.hid (HF0.out.trans hf1); have HQ1 := Lib.hid (HQ0.out.fr0 hf1); clear hf1)
    | (go_at_call 35; (with_reducible refine (of_any _ _).mono ?_); rintro e w2 ⟨b, rfl, hR, hf2, hb⟩; have HR2 := Lib.hid hR; have HF2 : Hid (Fr noneOf w w2) := Lib.hid (HF1.out.trans hf2); have HQ2 := Lib.hid (HQ1.out.fr0 hf2); have HN : Hid (w.heap.size ≠ b) := Lib.hid (by have := HQ1.out.lt; omega); have HG : Hid (w.heap.size ≤ b) := Lib.hid (by have := HQ1.out.lt; omega); clear hR hf2 hb)
    | (go_at_call 36; (with_reducible refine (HB.out _ _ HR2.out).mono ?_); rintro e w3 ⟨rfl, hR, hf3⟩; have HR3 : Hid (Rw U U.size 0 b (w3.alloc (.cells #[.int .i64 k1, .int .i64 g1, .int .i64 s1, .bool y1, .string b1, .string p1, .int .i64 n1, .int .i64 c1] 25))) := Lib.hid (Blk.alloc hR _); have HF3 : Hid (Fr noneOf w (w3.alloc (.cells #[.int .i64 k1, .int .i64 g1, .int .i64 s1, .bool y1, .string b1, .string p1, .int .i64 n1, .int .i64 c1] 25))) := Lib.hid ((Fr.trans' HF2.out hf3 (fun i hi e => by have := HG.out; have e : i = b := e; exfalso; omega)).alloc _); have HQ3 := Lib.hid ((HQ2.out.fr hf3 HN.out).alloc (.cells #[.int .i64 k1, .int .i64 g1, .int .i64 s1, .bool y1, .string b1, .string p1, .int .i64 n1, .int .i64 c1] 25)); clear hR hf3)
    | (go_at_call 37; (with_reducible refine (end_done _ _ _ HR3.out).mono ?_); rintro e w4 ⟨rfl, hf4⟩; have HF4 : Hid (Fr noneOf w w4) := Lib.hid (HF3.out.trans hf4); have HQ4 := Lib.hid (HQ3.out.fr0 hf4); have HM4 : Hid (Blk w4 w3.heap.size 25 #[.int .i64 k1, .int .i64 g1, .int .i64 s1, .bool y1, .string b1, .string p1, .int .i64 n1, .int .i64 c1]) := Lib.hid ((Blk.new w3 25 #[.int .i64 k1, .int .i64 g1, .int .i64 s1, .bool y1, .string b1, .string p1, .int .i64 n1, .int .i64 c1]).fr0 hf4); clear hf4; have m4_0 : w4.cell? ⟨w3.heap.size, 0, none⟩ = some (.int .i64 k1) := HM4.out.cell 0; have m4_1 : w4.cell? ⟨w3.heap.size, 1, none⟩ = some (.int .i64 g1) := HM4.out.cell 1; have m4_2 : w4.cell? ⟨w3.heap.size, 2, none⟩ = some (.int .i64 s1) := HM4.out.cell 2; have m4_3 : w4.cell? ⟨w3.heap.size, 3, none⟩ = some (.bool y1) := HM4.out.cell 3; have m4_4 : w4.cell? ⟨w3.heap.size, 4, none⟩ = some (.string b1) := HM4.out.cell 4; have m4_5 : w4.cell? ⟨w3.heap.size, 5, none⟩ = some (.string p1) := HM4.out.cell 5; have m4_6 : w4.cell? ⟨w3.heap.size, 6, none⟩ = some (.int .i64 n1) := HM4.out.cell 6; have m4_7 : w4.cell? ⟨w3.heap.size, 7, none⟩ = some (.int .i64 c1) := HM4.out.cell 7; skip)
    | (go_at_call 13; (with_reducible refine (HC.out _).mono ?_); rintro e w5 ⟨rfl, hf5⟩; have HF5 : Hid (Fr noneOf w w5) := Lib.hid (HF4.out.trans hf5); have HQ5 := Lib.hid (HQ4.out.fr0 hf5); have HM5 : Hid (Blk w5 w3.heap.size 25 #[.int .i64 k1, .int .i64 g1, .int .i64 s1, .bool y1, .string b1, .string p1, .int .i64 n1, .int .i64 c1]) := Lib.hid (HM4.out.fr0 hf5); clear hf5; have m5_0 : w5.cell? ⟨w3.heap.size, 0, none⟩ = some (.int .i64 k1) := HM5.out.cell 0; have m5_1 : w5.cell? ⟨w3.heap.size, 1, none⟩ = some (.int .i64 g1) := HM5.out.cell 1; have m5_2 : w5.cell? ⟨w3.heap.size, 2, none⟩ = some (.int .i64 s1) := HM5.out.cell 2; have m5_3 : w5.cell? ⟨w3.heap.size, 3, none⟩ = some (.bool y1) := HM5.out.cell 3; have m5_4 : w5.cell? ⟨w3.heap.size, 4, none⟩ = some (.string b1) := HM5.out.cell 4; have m5_5 : w5.cell? ⟨w3.heap.size, 5, none⟩ = some (.string p1) := HM5.out.cell 5; have m5_6 : w5.cell? ⟨w3.heap.size, 6, none⟩ = some (.int .i64 n1) := HM5.out.cell 6; have m5_7 : w5.cell? ⟨w3.heap.size, 7, none⟩ = some (.int .i64 c1) := HM5.out.cell 7; have mf5_0 := HM5.out.frozen 0; have mf5_1 := HM5.out.frozen 1; have mf5_2 := HM5.out.frozen 2; have mf5_3 := HM5.out.frozen 3; have mf5_4 := HM5.out.frozen 4; have mf5_5 := HM5.out.frozen 5; have mf5_6 := HM5.out.frozen 6; have mf5_7 := HM5.out.frozen 7; have r5_0 : w5.cell? ⟨w.heap.size, 0, none⟩ = some (.int .i64 0) := HQ5.out.cell 0; have r5_1 : w5.cell? ⟨w.heap.size, 1, none⟩ = some (.int .i64 0) := HQ5.out.cell 1; have r5_2 : w5.cell? ⟨w.heap.size, 2, none⟩ = some (.int .i64 0) := HQ5.out.cell 2; have r5_3 : w5.cell? ⟨w.heap.size, 3, none⟩ = some (.bool false) := HQ5.out.cell 3; have r5_4 : w5.cell? ⟨w.heap.size, 4, none⟩ = some (.string ⟨#[]⟩) := HQ5.out.cell 4; have r5_5 : w5.cell? ⟨w.heap.size, 5, none⟩ = some (.string ⟨#[]⟩) := HQ5.out.cell 5; have r5_6 : w5.cell? ⟨w.heap.size, 6, none⟩ = some (.int .i64 0) := HQ5.out.cell 6; have r5_7 : w5.cell? ⟨w.heap.size, 7, none⟩ = some (.int .i64 0) := HQ5.out.cell 7; have rf5_0 := HQ5.out.frozen 0; have rf5_1 := HQ5.out.frozen 1; have rf5_2 := HQ5.out.frozen 2; have rf5_3 := HQ5.out.frozen 3; have rf5_4 := HQ5.out.frozen 4; have rf5_5 := HQ5.out.frozen 5; have rf5_6 := HQ5.out.frozen 6; have rf5_7 := HQ5.out.frozen 7; skip)
    | (go_at_call 26; (with_reducible refine (fnew_yes 10 _ rfl).mono ?_); rintro e w6 ⟨rfl, rfl⟩)
    )
  have E := Lib.hid ((((((((HQ5.out.set_ 0 (.int .i64 0)).set_ 1 (.int .i64 0)).set_ 2 (.int .i64 0)).set_ 3 (.bool false)).set_ 4 (.string ⟨#[]⟩)).set_ 5 (.string ⟨#[]⟩)).set_ 6 (.int .i64 0)).set_ 7 (.int .i64 0))
  have E0 := E.out.cell 0
  have E1 := E.out.cell 1
  have E2 := E.out.cell 2
  have E3 := E.out.cell 3
  have E4 := E.out.cell 4
  have E5 := E.out.cell 5
  have E6 := E.out.cell 6
  have E7 := E.out.cell 7
  exact bodyPost_ret (v := .tuple #[.agg #[.int .i64 0, .int .i64 0, .int .i64 0, .bool false, .string ⟨#[]⟩, .string ⟨#[]⟩, .int .i64 0, .int .i64 0], .iface 32 (.int .i64 10)]) (by simp [results, Tryd.results12, go_sem, E0, E1, E2, E3, E4, E5, E6, E7]) rfl ⟨⟨_, _, rfl, .inl ⟨10, rfl, rfl, rfl⟩⟩, ((((((((HF5.out.setCell (p := ⟨w.heap.size, 0, none⟩) (.inr (Nat.le_refl _)) _).setCell (p := ⟨w.heap.size, 1, none⟩) (.inr (Nat.le_refl _)) _).setCell (p := ⟨w.heap.size, 2, none⟩) (.inr (Nat.le_refl _)) _).setCell (p := ⟨w.heap.size, 3, none⟩) (.inr (Nat.le_refl _)) _).setCell (p := ⟨w.heap.size, 4, none⟩) (.inr (Nat.le_refl _)) _).setCell (p := ⟨w.heap.size, 5, none⟩) (.inr (Nat.le_refl _)) _).setCell (p := ⟨w.heap.size, 6, none⟩) (.inr (Nat.le_refl _)) _).setCell (p := ⟨w.heap.size, 7, none⟩) (.inr (Nat.le_refl _)) _)⟩
def Zmsg : Array Value := #[.int .i64 0, .int .i64 0, .int .i64 0, .bool false, .string ⟨#[]⟩, .string ⟨#[]⟩, .int .i64 0, .int .i64 0]
theorem read_any (s : ByteArray) (hsz : s.size ≤ 80) : (∃ x : Ms, x.ok ∧ s.data.toList = x.enc ∧ ∀ w, Calls Tryd.prog 12 #[.string (wrapB s)] w fun e w' => e = .returned (.tuple #[.agg x.val, .nilIface]) ∧ Fr noneOf w w')
    ∨ (∀ w, Calls Tryd.prog 12 #[.string (wrapB s)] w fun e w' => (∃ T V, e = .returned (.tuple #[.agg Zmsg, .iface T V]) ∧ Bad T V w') ∧ Fr noneOf w w') := by
  have HO := Lib.hid (fun w => open_wrapped s w (by omega))
  obtain ⟨r, q, g, hq, HB, hc⟩ := body_any s hsz
  by_cases hb : g = true ∧ q = s.size
  · obtain ⟨rfl, rfl⟩ := hb
    have HB' : Hid (∀ b w, Rw s 0 0 b w → Calls Tryd.prog 36 #[.pointer (some ⟨b, 0, none⟩)] w fun e w' => e = .returned (.agg r.val) ∧ Rw s s.size 0 b w' ∧ Fr (justOf b) w w') := Lib.hid (fun b w h => (HB.out b w h).mono fun e w' ⟨a, b, c⟩ => ⟨a, b.good, c⟩)
    rcases hc rfl rfl with ⟨x, hx, hv, hs⟩ | hno
    · refine .inl ⟨x, hx, hs, fun w => ?_⟩
      have HC := Lib.hid (fun w => check_ok x hx w)
      rw [← hv] at HC ⊢
      obtain ⟨_, _, _, _, _, _, _, _⟩ := r
      dsimp only [Raw.val] at *
      exact read_walk _ _ _ _ _ _ _ _ _ _ w HO HB' HC
    · refine .inr (fun w => ?_)
      unfold No at hno
      obtain ⟨_, _, _, _, _, _, _, _⟩ := r
      dsimp only [Raw.val] at *
      exact read_no _ _ _ _ _ _ _ _ _ _ w HO HB' hno
  · refine .inr (fun w => ?_)
    have HE := Lib.hid (fun b w h => end_bad g s q b hq (fun h1 h2 => hb ⟨h1, h2⟩) w h)
    obtain ⟨_, _, _, _, _, _, _, _⟩ := r
    dsimp only [Raw.val] at *
    exact read_lost _ _ _ _ _ _ _ _ _ _ g q w HO HB HE
end Go.Proofs.YtblnmghbcgbgdaaDoor
