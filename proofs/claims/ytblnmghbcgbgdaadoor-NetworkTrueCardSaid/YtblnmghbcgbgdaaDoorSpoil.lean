/-
  wire.Spoil: whatever it is given, it gives a text of the same length.
  Conditions: none.
-/
import Derived.Test.YtblnmghbcgbgdaaDoorBackW
import Derived.Test.YtblnmghbcgbgdaaDoorNumsR
namespace Go.Proofs.YtblnmghbcgbgdaaDoor
open Go.RowKit Crc
set_option linter.unusedVariables false
set_option linter.unusedSimpArgs false
theorem tmod_bd (a : Int) (l : List UInt8) (h : 4 ≤ l.length) : -((l.length : Int) - 3) < a.tmod ((l.length : Int) - 3) ∧ a.tmod ((l.length : Int) - 3) < (l.length : Int) - 3 := by
  have e := Int.tmod_eq_emod (a := a) (b := (l.length : Int) - 3)
  have p := Int.emod_nonneg a (show (l.length : Int) - 3 ≠ 0 by omega)
  have q := Int.emod_lt_of_pos a (show (0 : Int) < (l.length : Int) - 3 by omega)
  have r : ((l.length : Int) - 3).natAbs = ((l.length : Int) - 3) := by omega
  rw [e]
  split
  · omega
  · rw [r]
    refine ⟨by omega, by omega⟩
theorem xor_byte (a b : Int) : ∃ z : UInt8, bits .xor .u8 a b = (z.toNat : Int) := by
  have h : 0 ≤ bits .xor .u8 a b ∧ bits .xor .u8 a b < 256 := by
    show 0 ≤ IntKind.u8.wrap _ ∧ IntKind.u8.wrap _ < 256
    rw [IntKind.wrap_u8]
    omega
  refine ⟨UInt8.ofNat (bits .xor .u8 a b).toNat, ?_⟩
  rw [UInt8.toNat_ofNat']
  omega
theorem by_0 (d0 d1 d2 d3 : Int) (w : World) : (Instr.index 49 (.agg #[.int .u8 d0, .int .u8 d1, .int .u8 d2, .int .u8 d3]) (.int .i64 0)).run Tryd.prog w = .ok (.int .u8 d0) w := by kernel_rfl
theorem by_1 (d0 d1 d2 d3 : Int) (w : World) : (Instr.index 49 (.agg #[.int .u8 d0, .int .u8 d1, .int .u8 d2, .int .u8 d3]) (.int .i64 1)).run Tryd.prog w = .ok (.int .u8 d1) w := by kernel_rfl
theorem by_2 (d0 d1 d2 d3 : Int) (w : World) : (Instr.index 49 (.agg #[.int .u8 d0, .int .u8 d1, .int .u8 d2, .int .u8 d3]) (.int .i64 2)).run Tryd.prog w = .ok (.int .u8 d2) w := by kernel_rfl
theorem by_3 (d0 d1 d2 d3 : Int) (w : World) : (Instr.index 49 (.agg #[.int .u8 d0, .int .u8 d1, .int .u8 d2, .int .u8 d3]) (.int .i64 3)).run Tryd.prog w = .ok (.int .u8 d3) w := by kernel_rfl
theorem wspoil_short (s : ByteArray) (at_ c0 c1 c2 c3 : Int) (w : World) (hs : s.size < 4) :
    Calls Tryd.prog 54 #[.string s, .int .i64 at_, .agg #[.int .u8 c0, .int .u8 c1, .int .u8 c2, .int .u8 c3]] w fun e w' => e = .returned (.string s) ∧ Fr noneOf w w' := by
  have hI : (s.size : Int) - 4 + 1 < 1 := by omega
  have hI2 : (s.size : Int) < 4 := by omega
  have hI0 : (0 : Int) ≤ (s.size : Int) := by omega
  go_enter Tryd.func54, Tryd.ntmps54
  go_wp2
  go_ret
  exact ⟨rfl, (Fr.refl _ _).alloc _⟩
set_option maxRecDepth 100000 in
set_option maxHeartbeats 4000000 in
theorem wspoil_long (s : ByteArray) (at_ d0 d1 d2 d3 : Int) (w : World) (hs : s.size ≤ 4100) (h4 : 4 ≤ s.size) (h0 : -9223372036854775808 ≤ at_) (h1 : at_ ≤ 9223372036854775807) :
    Calls Tryd.prog 54 #[.string s, .int .i64 at_, .agg #[.int .u8 d0, .int .u8 d1, .int .u8 d2, .int .u8 d3]] w fun e w' => ∃ s' : ByteArray, e = .returned (.string s') ∧ s'.size = s.size ∧ Fr noneOf w w' := by
  have hl0 : s.data.toList.length = s.size := by simp
  have hmo := tmod_bd at_ s.data.toList (by omega)
  rw [hl0] at hmo
  obtain ⟨q, hq⟩ : ∃ q, q = at_.tmod ((s.size : Int) - 3) := ⟨_, rfl⟩
  rw [← hq] at hmo
  obtain ⟨hm1, hm2⟩ := hmo
  have e3 : (s.size : Int) - 4 + 1 = (s.size : Int) - 3 := by omega
  have hn1 : ¬ (s.size : Int) - 3 < 1 := by omega
  obtain ⟨k, hk⟩ : ∃ k : Nat, at_.tmod ((s.size : Int) - 3) % ((s.size : Int) - 3) = (k : Int) := ⟨(at_.tmod ((s.size : Int) - 3) % ((s.size : Int) - 3)).toNat, (Int.toNat_of_nonneg (Int.emod_nonneg _ (by omega))).symm⟩
  have hk4 : k + 4 ≤ s.size := by
    have := Int.emod_lt_of_pos (at_.tmod ((s.size : Int) - 3)) (show (0 : Int) < (s.size : Int) - 3 by omega)
    omega
  have hsI : (s.size : Int) ≤ 4100 := by omega
  have hs4 : (4 : Int) ≤ (s.size : Int) := by omega
  have HL0 := Lib.hid hl0
  rw [hq] at hm1 hm2
  have HB := Lib.hid (Blk.new w 49 #[.int .u8 d0, .int .u8 d1, .int .u8 d2, .int .u8 d3])
  go_enter Tryd.func54, Tryd.ntmps54
  go_wp2_with (first
    | (refine wpList_sbytes rfl 9 63 5 _ rfl Tryd.underlying9 Tryd.underlying63 Tryd.underlying5 _ rfl ?_; intro w3 g cap l hl hrow hfr hg; have HBB := HB.out.fr0 hfr; have b0 : w3.cell? ⟨w.heap.size, 0, none⟩ = some (.int .u8 d0) := HBB.cell 0; have b1 : w3.cell? ⟨w.heap.size, 1, none⟩ = some (.int .u8 d1) := HBB.cell 1; have b2 : w3.cell? ⟨w.heap.size, 2, none⟩ = some (.int .u8 d2) := HBB.cell 2; have b3 : w3.cell? ⟨w.heap.size, 3, none⟩ = some (.int .u8 d3) := HBB.cell 3))
  have hll : l.length = s.size := by rw [hl.out]; simp
  have HFW := Lib.hid (((Fr.refl noneOf w).alloc (.cells #[.int .u8 d0, .int .u8 d1, .int .u8 d2, .int .u8 d3] 49)).trans hfr)
  have HGW : Hid (w.heap.size ≤ g) := Lib.hid (by have := hg; simp at this; omega)
  have HR3 := Lib.hid hrow
  have HLL := Lib.hid hll
  clear hk hq hm1 hm2 e3 hn1 hfr hg hrow HBB b0 b1 b2 b3 hl0 hll h0 h1
  go_loopw [28] (fun i wr => ∃ m : Nat, m ≤ 4 ∧ i = .int .i64 m ∧ (∃ l' : List UInt8, l'.length = s.size ∧ Row wr g (bytesV l')) ∧ Fr noneOf w wr) (fun i _ => 4 - (intOf i).toNat)
  case atStart => exact ⟨0, by omega, rfl, ⟨l, HLL.out, HR3.out⟩, HFW.out⟩
  case round =>
    obtain ⟨m, hm, rfl, ⟨l', hl', hr⟩, hf⟩ := hrel
    have HF := Lib.hid hf
    clear hf
    by_cases hlt : m < 4
    · obtain ⟨y, hy⟩ : ∃ y, l'[k + m]? = some y := ⟨l'[k + m]'(by omega), List.getElem?_eq_getElem _⟩
      have c1 : wr.cell? ⟨g, k + m, none⟩ = some (.int .u8 (y.toNat : Int)) := hr.cell (k + m) (V8 y) (by simp [bytesV, hy])
      have f1 := hr.free (k + m) (by simp [bytesV]; omega)
      have i0 : (0 : Int) ≤ (m : Int) := by omega
      have i1 : (m : Int) < 4 := by omega
      have i2 : (0 : Int) ≤ (k : Int) + (m : Int) := by omega
      have hlI : (l'.length : Int) = (s.size : Int) := by omega
      have hzz : ∀ c : Int, ∃ z : UInt8, bits .xor .u8 (y.toNat : Int) c = (z.toNat : Int) := fun c => xor_byte _ c
      have hset : ∀ z : UInt8, ∃ l2 : List UInt8, l2.length = s.size ∧ Row (wr.setCell ⟨g, k + m, none⟩ (.int .u8 (z.toNat : Int))) g (bytesV l2) := fun z => ⟨l'.set (k + m) z, by simp; omega, by
        have := hr.set_ (k + m) (by simp [bytesV]; omega) (V8 z)
        rw [show (bytesV l').set (k + m) (V8 z) = bytesV (l'.set (k + m) z) by simp [bytesV, List.map_set]] at this
        exact this⟩
      have HSET := Lib.hid hset
      have HL2 := Lib.hid (And.intro hl' hr)
      clear hset hl' hr hy
      have hcase : m = 0 ∨ m = 1 ∨ m = 2 ∨ m = 3 := by omega
      rcases hcase with rfl | rfl | rfl | rfl
      · obtain ⟨z, hz⟩ := hzz d0
        have hx := by_0 d0 d1 d2 d3
        have hb : (k : Int) < (l.length : Int) := by have := HLL.out; omega
        have hb0 : (0 : Int) ≤ (k : Int) := by omega
        have c1 : wr.cell? ⟨g, k, none⟩ = some (.int .u8 (y.toNat : Int)) := c1
        have f1 : wr.frozen? ⟨g, k, none⟩ = false := f1
        clear hzz
        go_wp2
        go_roundw
        case rel =>
          obtain ⟨l2, hl2, hr2⟩ := HSET.out z
          exact ⟨0 + 1, by omega, by go_num, ⟨l2, hl2, hr2⟩, (HF.out.setCell (p := ⟨g, k + 0, none⟩) (.inr HGW.out) _)⟩
        case measure => simp [intOf]
      · obtain ⟨z, hz⟩ := hzz d1
        have hx := by_1 d0 d1 d2 d3
        have hb : (k : Int) + 1 < (l.length : Int) := by have := HLL.out; omega
        have hb0 : (0 : Int) ≤ (k : Int) + 1 := by omega
        clear hzz
        go_wp2
        go_roundw
        case rel =>
          obtain ⟨l2, hl2, hr2⟩ := HSET.out z
          exact ⟨1 + 1, by omega, by go_num, ⟨l2, hl2, hr2⟩, (HF.out.setCell (p := ⟨g, k + 1, none⟩) (.inr HGW.out) _)⟩
        case measure => simp [intOf]
      · obtain ⟨z, hz⟩ := hzz d2
        have hx := by_2 d0 d1 d2 d3
        have hb : (k : Int) + 2 < (l.length : Int) := by have := HLL.out; omega
        have hb0 : (0 : Int) ≤ (k : Int) + 2 := by omega
        clear hzz
        go_wp2
        go_roundw
        case rel =>
          obtain ⟨l2, hl2, hr2⟩ := HSET.out z
          exact ⟨2 + 1, by omega, by go_num, ⟨l2, hl2, hr2⟩, (HF.out.setCell (p := ⟨g, k + 2, none⟩) (.inr HGW.out) _)⟩
        case measure => simp [intOf]
      · obtain ⟨z, hz⟩ := hzz d3
        have hx := by_3 d0 d1 d2 d3
        have hb : (k : Int) + 3 < (l.length : Int) := by have := HLL.out; omega
        have hb0 : (0 : Int) ≤ (k : Int) + 3 := by omega
        clear hzz
        go_wp2
        go_roundw
        case rel =>
          obtain ⟨l2, hl2, hr2⟩ := HSET.out z
          exact ⟨3 + 1, by omega, by go_num, ⟨l2, hl2, hr2⟩, (HF.out.setCell (p := ⟨g, k + 3, none⟩) (.inr HGW.out) _)⟩
        case measure => simp [intOf]
    · obtain rfl : m = 4 := by omega
      have hcv : ∀ n, n = l'.length → (convert 63 9 (.slice (some ⟨g, 0, none⟩) n cap)).run Tryd.prog wr = .ok (.string ⟨l'.toArray⟩) wr := by
        rintro n rfl
        exact run_bytes_back hr 63 9 5 Tryd.underlying63 Tryd.underlying5 Tryd.underlying9 cap
      have hcv' := hcv l.length (by have := HLL.out; omega)
      clear hcv
      go_wp2
      go_ret
      exact ⟨_, rfl, by rw [str_size]; omega, HF.out⟩
theorem wspoil_any (s : ByteArray) (at_ d0 d1 d2 d3 : Int) (w : World) (hs : s.size ≤ 4100) (h0 : -9223372036854775808 ≤ at_) (h1 : at_ ≤ 9223372036854775807) :
    Calls Tryd.prog 54 #[.string s, .int .i64 at_, .agg #[.int .u8 d0, .int .u8 d1, .int .u8 d2, .int .u8 d3]] w fun e w' => ∃ s' : ByteArray, e = .returned (.string s') ∧ s'.size = s.size ∧ Fr noneOf w w' := by
  by_cases h4 : s.size < 4
  · exact (wspoil_short s at_ d0 d1 d2 d3 w h4).mono fun e w' ⟨a, b⟩ => ⟨s, a, rfl, b⟩
  · exact wspoil_long s at_ d0 d1 d2 d3 w hs (by omega) h0 h1
end Go.Proofs.YtblnmghbcgbgdaaDoor
