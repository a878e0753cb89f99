/-
  Contracts of a step's packet, message and number (lyceumlaw23), where it is not far.
-/
import Derived.Test.YtblnmghbcgbgdaaDoorRefBytes
namespace Go.Proofs.YtblnmghbcgbgdaaDoor
open Go.RowKit Nums Crc
set_option linter.unusedVariables false
set_option linter.unusedSimpArgs false

theorem and_le (n : Int) (m : Nat) (hm : m ≤ 1000) : ∃ q : Nat, bits .and .i64 n (m : Int) = (q : Int) ∧ q ≤ m := by
  have h1 : bits .and .i64 n (m : Int) = IntKind.i64.wrap ((BitVec.ofInt 64 n &&& BitVec.ofInt 64 (m : Int)).toNat : Int) := rfl
  have h2 : (BitVec.ofInt 64 n &&& BitVec.ofInt 64 (m : Int)).toNat ≤ m := by
    rw [BitVec.toNat_and]
    refine Nat.le_trans Nat.and_le_right ?_
    simp
    omega
  refine ⟨_, ?_, h2⟩
  rw [h1, IntKind.wrap_i64]
  omega
/-- A step of layer 23. -/
structure St23 where
  (kd fr to i at' : Int)
  (b0 b1 b2 b3 : Int)
  (s : ByteArray)
def St23.cells (o : St23) (far : Bool) : Array Value := #[.int .i64 o.kd, .int .i64 o.fr, .int .i64 o.to, .int .i64 o.i, .int .i64 o.at', .int .u8 o.b0, .int .u8 o.b1, .int .u8 o.b2, .int .u8 o.b3, .string o.s, .bool far]
theorem msg_any (o : St23) (q : Nat) (hq : bits .and .i64 o.i 15 = (q : Int)) (w : World) : Calls Tryd.prog 47 #[.agg (o.cells false)] w fun e w' => e = .returned (refM q) ∧ Fr noneOf w w' := by
  obtain ⟨kd, fr, to, i, at', b0, b1, b2, b3, s⟩ := o
  dsimp only [St23.cells] at hq ⊢
  go_enter Tryd.func47, Tryd.ntmps47
  go_wp2
  exact bodyPost_ret (v := refM q) (by simp [results, Tryd.results47, go_sem]) rfl ⟨rfl, by repeat (first | exact Fr.refl _ _ | apply Fr.drew | apply Fr.alloc)⟩
theorem at_any (o : St23) (q : Nat) (hq : bits .and .i64 o.i 15 = (q : Int)) (w : World) : Calls Tryd.prog 22 #[.agg (o.cells false)] w fun e w' => e = .returned (.int .i64 q) ∧ Fr noneOf w w' := by
  obtain ⟨kd, fr, to, i, at', b0, b1, b2, b3, s⟩ := o
  dsimp only [St23.cells] at hq ⊢
  go_enter Tryd.func22, Tryd.ntmps22
  go_wp2
  go_ret
  exact ⟨rfl, by repeat (first | exact Fr.refl _ _ | apply Fr.drew | apply Fr.alloc)⟩
set_option maxHeartbeats 4000000 in
theorem packet_any (o : St23) (hs : o.s.size ≤ 9223372036854775807) : ∃ (x y : Nat) (S : ByteArray), x ≤ 3 ∧ y ≤ 3 ∧ S.size ≤ 20 ∧ bits .and .i64 o.fr 3 = (x : Int) ∧ bits .and .i64 o.to 3 = (y : Int) ∧ (∀ κ q : Nat, bits .and .i64 o.kd 15 = (κ : Int) → κ < 5 → bits .and .i64 o.i 15 = (q : Int) → S = refS q) ∧
    ∀ w, Calls Tryd.prog 18 #[.agg (o.cells false)] w fun e w' => e = .returned (.agg #[.int .i64 x, .int .i64 y, .string S]) ∧ Fr noneOf w w' := by
  obtain ⟨x, hx, hx3⟩ := and_le o.fr 3 (by omega)
  obtain ⟨y, hy, hy3⟩ := and_le o.to 3 (by omega)
  obtain ⟨κ, hκ, hκ15⟩ := and_le o.kd 15 (by omega)
  obtain ⟨q, hq, hq15⟩ := and_le o.i 15 (by omega)
  have hx' : bits .and .i64 o.fr 3 = (x : Int) := hx
  have hy' : bits .and .i64 o.to 3 = (y : Int) := hy
  have hκ' : bits .and .i64 o.kd 15 = (κ : Int) := hκ
  have hq' : bits .and .i64 o.i 15 = (q : Int) := hq
  clear hx hy hκ hq
  obtain ⟨T, hT⟩ : ∃ T : ByteArray, T = if 20 < o.s.size then o.s.extract 0 20 else o.s := ⟨_, rfl⟩
  have hT20 : T.size ≤ 20 := by
    rw [hT]
    split
    · rw [ByteArray.size_extract]; omega
    · omega
  refine ⟨x, y, if κ < 5 then refS q else T, hx3, hy3, ?_, hx', hy', ?_, fun w => ?_⟩
  · split
    · rw [refS_size q hq15]; omega
    · exact hT20
  · intro κ' q' h1 h2 h3
    have e1 : κ' = κ := by rw [hκ'] at h1; omega
    have e2 : q' = q := by rw [hq'] at h3; omega
    rw [if_pos (by omega), e2]
  have HM := Lib.hid (fun w => msg_any o q hq' w)
  have HR := Lib.hid (fun w => bytes_refuse q hq15 w)
  obtain ⟨kd, fr, to, i, at', b0, b1, b2, b3, s⟩ := o
  dsimp only [St23.cells] at *
  have hB := Blk.new w 51 #[.int .i64 kd, .int .i64 fr, .int .i64 to, .int .i64 i, .int .i64 at', .int .u8 b0, .int .u8 b1, .int .u8 b2, .int .u8 b3, .string s, .bool false]
  have HB := Lib.hid (hB.alloc (.cells #[.int .i64 0, .int .i64 0, .string ⟨#[]⟩] 53))
  have hPk := Blk.new (w.alloc (.cells #[.int .i64 kd, .int .i64 fr, .int .i64 to, .int .i64 i, .int .i64 at', .int .u8 b0, .int .u8 b1, .int .u8 b2, .int .u8 b3, .string s, .bool false] 51)) 53 #[.int .i64 0, .int .i64 0, .string ⟨#[]⟩]
  rw [World.size_alloc] at hPk
  have HPK := Lib.hid hPk
  have HF0 : Hid (Fr noneOf w ((w.alloc (.cells #[.int .i64 kd, .int .i64 fr, .int .i64 to, .int .i64 i, .int .i64 at', .int .u8 b0, .int .u8 b1, .int .u8 b2, .int .u8 b3, .string s, .bool false] 51)).alloc (.cells #[.int .i64 0, .int .i64 0, .string ⟨#[]⟩] 53))) := Lib.hid (((Fr.refl _ _).alloc _).alloc _)
  clear hB hPk hT20
  by_cases h20 : 20 < s.size
  · have h20I : (20 : Int) < (s.size : Int) := by omega
    rw [if_pos h20] at hT
    by_cases h5 : κ < 5
    · have h5I : (κ : Int) < 5 := by omega
      rw [if_pos h5]
      obtain ⟨R, hR⟩ : ∃ R, R = refS q := ⟨_, rfl⟩
      rw [← hR] at HR ⊢
      clear hR hT
      go_enter Tryd.func18, Tryd.ntmps18
      go_wp2_with (first
        | (go_at_call 47; (refine (HM.out _).mono ?_); rintro e w1 ⟨rfl, hf1⟩; have HF1 := Lib.hid hf1; clear hf1)
        | (go_at_call 46; (with_reducible refine (HR.out _).mono ?_); rintro e w2 ⟨rfl, hf2⟩; have HF2 := Lib.hid (HF1.out.trans hf2); have HB2 := Lib.hid (HB.out.fr0 HF2.out); have HP2 := Lib.hid (HPK.out.fr0 HF2.out); have c1 : w2.cell? ⟨w.heap.size, 1, none⟩ = some (.int .i64 fr) := HB2.out.cell 1; have c2 : w2.cell? ⟨w.heap.size, 2, none⟩ = some (.int .i64 to) := HB2.out.cell 2; have c10 : w2.cell? ⟨w.heap.size, 10, none⟩ = some (.bool false) := HB2.out.cell 10; have p0 : w2.cell? ⟨w.heap.size + 1, 0, none⟩ = some (.int .i64 0) := HP2.out.cell 0; have p1 : w2.cell? ⟨w.heap.size + 1, 1, none⟩ = some (.int .i64 0) := HP2.out.cell 1; have p2 : w2.cell? ⟨w.heap.size + 1, 2, none⟩ = some (.string ⟨#[]⟩) := HP2.out.cell 2; have g0 := HP2.out.frozen 0; have g1 := HP2.out.frozen 1; have g2 := HP2.out.frozen 2; clear hf2))
      have E := Lib.hid (((HP2.out.set_ 0 (.int .i64 x)).set_ 1 (.int .i64 y)).set_ 2 (.string R))
      have E0 := E.out.cell 0
      have E1 := E.out.cell 1
      have E2 := E.out.cell 2
      refine bodyPost_ret (v := .agg #[.int .i64 x, .int .i64 y, .string R]) (by simp [results, Tryd.results18, go_sem, E0, E1, E2]) rfl ⟨rfl, ?_⟩
      exact (((HF0.out.trans HF2.out).setCell (p := ⟨w.heap.size + 1, 0, none⟩) (.inr (by show w.heap.size ≤ w.heap.size + 1; omega)) _).setCell (p := ⟨w.heap.size + 1, 1, none⟩) (.inr (by show w.heap.size ≤ w.heap.size + 1; omega)) _).setCell (p := ⟨w.heap.size + 1, 2, none⟩) (.inr (by show w.heap.size ≤ w.heap.size + 1; omega)) _
    · have h5I : ¬ (κ : Int) < 5 := by omega
      rw [if_neg h5, hT]
      clear hT HR HM
      go_enter Tryd.func18, Tryd.ntmps18
      go_wp2
      refine bodyPost_ret (v := .agg #[.int .i64 x, .int .i64 y, .string (s.extract 0 20)]) (by simp [results, Tryd.results18, go_sem]) rfl ⟨rfl, by repeat (first | exact Fr.refl _ _ | apply Fr.drew | apply Fr.alloc)⟩
  · have h20I : ¬ (20 : Int) < (s.size : Int) := by omega
    rw [if_neg h20] at hT
    by_cases h5 : κ < 5
    · have h5I : (κ : Int) < 5 := by omega
      rw [if_pos h5]
      obtain ⟨R, hR⟩ : ∃ R, R = refS q := ⟨_, rfl⟩
      rw [← hR] at HR ⊢
      clear hR hT
      go_enter Tryd.func18, Tryd.ntmps18
      go_wp2_with (first
        | (go_at_call 47; (refine (HM.out _).mono ?_); rintro e w1 ⟨rfl, hf1⟩; have HF1 := Lib.hid hf1; clear hf1)
        | (go_at_call 46; (with_reducible refine (HR.out _).mono ?_); rintro e w2 ⟨rfl, hf2⟩; have HF2 := Lib.hid (HF1.out.trans hf2); have HB2 := Lib.hid (HB.out.fr0 HF2.out); have HP2 := Lib.hid (HPK.out.fr0 HF2.out); have c1 : w2.cell? ⟨w.heap.size, 1, none⟩ = some (.int .i64 fr) := HB2.out.cell 1; have c2 : w2.cell? ⟨w.heap.size, 2, none⟩ = some (.int .i64 to) := HB2.out.cell 2; have c10 : w2.cell? ⟨w.heap.size, 10, none⟩ = some (.bool false) := HB2.out.cell 10; have p0 : w2.cell? ⟨w.heap.size + 1, 0, none⟩ = some (.int .i64 0) := HP2.out.cell 0; have p1 : w2.cell? ⟨w.heap.size + 1, 1, none⟩ = some (.int .i64 0) := HP2.out.cell 1; have p2 : w2.cell? ⟨w.heap.size + 1, 2, none⟩ = some (.string ⟨#[]⟩) := HP2.out.cell 2; have g0 := HP2.out.frozen 0; have g1 := HP2.out.frozen 1; have g2 := HP2.out.frozen 2; clear hf2))
      have E := Lib.hid (((HP2.out.set_ 0 (.int .i64 x)).set_ 1 (.int .i64 y)).set_ 2 (.string R))
      have E0 := E.out.cell 0
      have E1 := E.out.cell 1
      have E2 := E.out.cell 2
      refine bodyPost_ret (v := .agg #[.int .i64 x, .int .i64 y, .string R]) (by simp [results, Tryd.results18, go_sem, E0, E1, E2]) rfl ⟨rfl, ?_⟩
      exact (((HF0.out.trans HF2.out).setCell (p := ⟨w.heap.size + 1, 0, none⟩) (.inr (by show w.heap.size ≤ w.heap.size + 1; omega)) _).setCell (p := ⟨w.heap.size + 1, 1, none⟩) (.inr (by show w.heap.size ≤ w.heap.size + 1; omega)) _).setCell (p := ⟨w.heap.size + 1, 2, none⟩) (.inr (by show w.heap.size ≤ w.heap.size + 1; omega)) _
    · have h5I : ¬ (κ : Int) < 5 := by omega
      rw [if_neg h5, hT]
      clear hT HR HM
      go_enter Tryd.func18, Tryd.ntmps18
      go_wp2
      refine bodyPost_ret (v := .agg #[.int .i64 x, .int .i64 y, .string s]) (by simp [results, Tryd.results18, go_sem]) rfl ⟨rfl, by repeat (first | exact Fr.refl _ _ | apply Fr.drew | apply Fr.alloc)⟩
end Go.Proofs.YtblnmghbcgbgdaaDoor
