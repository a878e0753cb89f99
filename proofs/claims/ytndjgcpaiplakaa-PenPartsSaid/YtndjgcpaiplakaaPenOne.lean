/-
  Contract of pen.one.
-/
import Derived.Test.YtndjgcpaiplakaaPen
namespace Go.Proofs.Ytndjgcpaiplakaa
set_option linter.unusedSimpArgs false
open Go.RowKit
set_option linter.unusedVariables false

theorem attr_same (n a : Int) (k : Nat) (h1 : n ≠ codeP k) (h2 : ¬ (n = codeP k + 20 ∧ 2 < codeP k)) : attrStep n a k = a := by
  unfold attrStep; rw [if_neg h1, if_neg h2]
theorem attr_on (n a : Int) (k : Nat) (h1 : n = codeP k) : attrStep n a k = bits .or .u8 a (bitP k) := by
  unfold attrStep; rw [if_pos h1]
theorem attr_off (n a : Int) (k : Nat) (h1 : n ≠ codeP k) (h2 : n = codeP k + 20 ∧ 2 < codeP k) : attrStep n a k = bits .andNot .u8 a (bitP k) := by
  unfold attrStep; rw [if_neg h1, if_pos h2]

theorem idx0 (w : World) : (Instr.index 41 (.agg #[.int .i64 1, .int .i64 2, .int .i64 3, .int .i64 4, .int .i64 5, .int .i64 7]) (.int .i64 0)).run Try.prog w = .ok (.int .i64 1) w := by kernel_rfl
theorem idx1 (w : World) : (Instr.index 41 (.agg #[.int .i64 1, .int .i64 2, .int .i64 3, .int .i64 4, .int .i64 5, .int .i64 7]) (.int .i64 1)).run Try.prog w = .ok (.int .i64 2) w := by kernel_rfl
theorem idx2 (w : World) : (Instr.index 41 (.agg #[.int .i64 1, .int .i64 2, .int .i64 3, .int .i64 4, .int .i64 5, .int .i64 7]) (.int .i64 2)).run Try.prog w = .ok (.int .i64 3) w := by kernel_rfl
theorem idx3 (w : World) : (Instr.index 41 (.agg #[.int .i64 1, .int .i64 2, .int .i64 3, .int .i64 4, .int .i64 5, .int .i64 7]) (.int .i64 3)).run Try.prog w = .ok (.int .i64 4) w := by kernel_rfl
theorem idx4 (w : World) : (Instr.index 41 (.agg #[.int .i64 1, .int .i64 2, .int .i64 3, .int .i64 4, .int .i64 5, .int .i64 7]) (.int .i64 4)).run Try.prog w = .ok (.int .i64 5) w := by kernel_rfl
theorem idx5 (w : World) : (Instr.index 41 (.agg #[.int .i64 1, .int .i64 2, .int .i64 3, .int .i64 4, .int .i64 5, .int .i64 7]) (.int .i64 5)).run Try.prog w = .ok (.int .i64 7) w := by kernel_rfl

theorem one_z0 (r f0 b0 a0 f b a : Int) (w : World)  (e1 : f = 0) (e2 : b = 0) (e3 : a = 0) :
    Calls Try.prog 10 #[penV ⟨r, f0, b0, a0⟩, .int .i64 (0 : Int)] w fun e w' => e = .returned (penV (tensP ⟨r, f, b, attrF (0 : Int) a 6⟩ (0 : Int))) ∧ Fr noneOf w w' := by
  have h0 : (-1000000 : Int) ≤ (0 : Int) := by omega
  have h1 : (0 : Int) ≤ (1000000 : Int) := by omega
  obtain ⟨z, hz⟩ : ∃ z, z = penV (tensP ⟨r, f, b, attrF (0 : Int) a 6⟩ (0 : Int)) := ⟨_, rfl⟩
  rw [← hz]
  have HZ := Lib.hid hz
  clear hz
  have HE1 := Lib.hid e1
  have HE2 := Lib.hid e2
  have HE3 := Lib.hid e3
  clear e1 e2 e3
  unfold penV
  go_enter Try.func10, Try.ntmps10
  go_wp2_with (go_at_call 15; refine (codes_any _).mono ?_; rintro e w1 ⟨rfl, hf1⟩)
  have hfw : Fr noneOf w w1 := (((Fr.refl _ _).alloc _).alloc _).trans hf1
  have hb1 : Blk w1 w.heap.size 23 (penC ⟨r, f, b, a⟩) := by
    rw [HE1.out, HE2.out, HE3.out]
    exact ((Blk.new w _ _).alloc _).fr0 hf1
  have hr1 : Blk w1 (w.heap.size + 1) 23 (penC ⟨0, 0, 0, 0⟩) := by
    have := (Blk.new (w.alloc _) 23 (penC ⟨0, 0, 0, 0⟩)).fr0 hf1
    simpa using this
  have HFW := Lib.hid hfw
  have HB1 := Lib.hid hb1
  have HR1 := Lib.hid hr1
  clear hfw hb1 hf1 hr1
  go_loopw [26] (fun i wr => ∃ k : Nat, k ≤ 6 ∧ i = .int .i64 k ∧ Blk wr w.heap.size 23 (penC ⟨r, f, b, attrF (0 : Int) a k⟩) ∧ Blk wr (w.heap.size + 1) 23 (penC ⟨0, 0, 0, 0⟩) ∧ Fr noneOf w wr) (fun i _ => 6 - (intOf i).toNat)
  case atStart => exact ⟨0, by omega, rfl, HB1.out, HR1.out, HFW.out⟩
  case round =>
    obtain ⟨k, hk, rfl, hb, hr, hf⟩ := hrel
    obtain ⟨A, hA⟩ : ∃ A, A = attrF (0 : Int) a k := ⟨_, rfl⟩
    rw [← hA] at hb
    obtain ⟨k', hk'⟩ : ∃ k', k' = k + 1 := ⟨_, rfl⟩
    have hn : attrF (0 : Int) a k' = attrStep (0 : Int) A k := by rw [hk', attrF, ← hA]
    have HN := Lib.hid hn
    have HK := Lib.hid hk'
    clear hn hk'
    have q0 : wr.cell? ⟨w.heap.size, 0, none⟩ = some (.int .i32 r) := hb.cell 0
    have q1 : wr.cell? ⟨w.heap.size, 1, none⟩ = some (.int .u8 f) := hb.cell 1
    have q2 : wr.cell? ⟨w.heap.size, 2, none⟩ = some (.int .u8 b) := hb.cell 2
    have q3 : wr.cell? ⟨w.heap.size, 3, none⟩ = some (.int .u8 A) := hb.cell 3
    have hfz := hb.frozen 3
    have j0 := idx0 wr
    have j1 := idx1 wr
    have j2 := idx2 wr
    have j3 := idx3 wr
    have j4 := idx4 wr
    have j5 := idx5 wr
    have HB := Lib.hid hb
    have HR := Lib.hid hr
    have HF := Lib.hid hf
    have HA := Lib.hid hA
    clear hb hr hf hA
    by_cases hlt : k < 6
    · have hk6 : k = 0 ∨ k = 1 ∨ k = 2 ∨ k = 3 ∨ k = 4 ∨ k = 5 := by omega
      have hcase : (0 : Int) = codeP k ∨ ((0 : Int) ≠ codeP k ∧ (0 : Int) = codeP k + 20 ∧ 2 < codeP k) ∨ ((0 : Int) ≠ codeP k ∧ (0 : Int) = codeP k + 20 ∧ ¬ 2 < codeP k) ∨ ((0 : Int) ≠ codeP k ∧ (0 : Int) ≠ codeP k + 20) := by
        by_cases x1 : (0 : Int) = codeP k
        · exact .inl x1
        · by_cases x2 : (0 : Int) = codeP k + 20
          · by_cases x3 : 2 < codeP k
            · exact .inr (.inl ⟨x1, x2, x3⟩)
            · exact .inr (.inr (.inl ⟨x1, x2, x3⟩))
          · exact .inr (.inr (.inr ⟨x1, x2⟩))
      rcases hcase with x1 | ⟨x1, x2, x3⟩ | ⟨x1, x2, x3⟩ | ⟨x1, x2⟩
      · have hs := attr_on (0 : Int) A k x1
        have HS := Lib.hid hs
        clear hs
        rcases hk6 with rfl | rfl | rfl | rfl | rfl | rfl
        all_goals
          simp only [codeP] at x1
          first
          | (exfalso; omega)
          | (try subst x1
             go_wp2
             go_region
             go_wp2
             go_roundw
             case rel =>
               refine ⟨k', by have := HK.out; omega, by rw [HK.out]; rfl, ?_, (HR.out.far (p := ⟨w.heap.size, 3, none⟩) (by simp) _).drew, (Fr.setCell (p := ⟨w.heap.size, 3, none⟩) HF.out (.inr (Nat.le_refl _)) _).drew⟩
               rw [HN.out, HS.out]
               exact (HB.out.set_ 3 _).drew
             case measure => simp [intOf])
      · have hs := attr_off (0 : Int) A k x1 ⟨x2, x3⟩
        have HS := Lib.hid hs
        clear hs
        rcases hk6 with rfl | rfl | rfl | rfl | rfl | rfl
        all_goals
          simp only [codeP] at x1 x2 x3
          first
          | (exfalso; omega)
          | (try subst x2
             go_wp2
             go_region
             go_wp2
             go_roundw
             case rel =>
               refine ⟨k', by have := HK.out; omega, by rw [HK.out]; rfl, ?_, (HR.out.far (p := ⟨w.heap.size, 3, none⟩) (by simp) _).drew, (Fr.setCell (p := ⟨w.heap.size, 3, none⟩) HF.out (.inr (Nat.le_refl _)) _).drew⟩
               rw [HN.out, HS.out]
               exact (HB.out.set_ 3 _).drew
             case measure => simp [intOf])
      · have hs := attr_same (0 : Int) A k x1 (fun h => x3 h.2)
        have HS := Lib.hid hs
        clear hs
        rcases hk6 with rfl | rfl | rfl | rfl | rfl | rfl
        all_goals
          simp only [codeP] at x1 x2 x3
          first
          | (exfalso; omega)
          | (try subst x2
             go_wp2
             go_roundw
             case rel => exact ⟨k', by have := HK.out; omega, by rw [HK.out]; rfl, by rw [HN.out, HS.out]; exact HB.out, HR.out, HF.out⟩
             case measure => simp [intOf])
      · have hs := attr_same (0 : Int) A k x1 (fun h => x2 h.1)
        have HS := Lib.hid hs
        clear hs
        rcases hk6 with rfl | rfl | rfl | rfl | rfl | rfl
        all_goals
          simp only [codeP] at x1 x2
          go_wp2
          go_roundw
          case rel => exact ⟨k', by have := HK.out; omega, by rw [HK.out]; rfl, by rw [HN.out, HS.out]; exact HB.out, HR.out, HF.out⟩
          case measure => simp [intOf]
    · have hkk : k = 6 := by omega
      subst hkk
      obtain ⟨zr, zf, zb, za, hzz⟩ : ∃ zr zf zb za, tensP ⟨r, f, b, A⟩ (0 : Int) = ⟨zr, zf, zb, za⟩ := ⟨_, _, _, _, rfl⟩
      have ht : ∀ w, Calls Try.prog 16 #[penV ⟨r, f, b, A⟩, .int .i64 (0 : Int)] w fun e w' => e = .returned (.agg #[.int .i32 zr, .int .u8 zf, .int .u8 zb, .int .u8 za]) ∧ Fr noneOf w w' := fun w => by
        have := tens_any ⟨r, f, b, A⟩ (0 : Int) w h0 h1
        rw [hzz] at this
        exact this
      have HT := Lib.hid ht
      have HZZ := Lib.hid hzz
      clear ht hzz
      go_wp2_with (go_at_call 16; refine (HT.out _).mono ?_; rintro e w2 ⟨rfl, hf2⟩; have d := HR.out.fr0 hf2; have f0 := d.frozen 0; have f1 := d.frozen 1; have f2 := d.frozen 2; have f3 := d.frozen 3; have d0 : w2.cell? ⟨w.heap.size + 1, 0, none⟩ = some (.int .i32 0) := d.cell 0; have d1 : w2.cell? ⟨w.heap.size + 1, 1, none⟩ = some (.int .u8 0) := d.cell 1; have d2 : w2.cell? ⟨w.heap.size + 1, 2, none⟩ = some (.int .u8 0) := d.cell 2; have d3 : w2.cell? ⟨w.heap.size + 1, 3, none⟩ = some (.int .u8 0) := d.cell 3)
      have E := (((d.set_ 0 (.int .i32 zr)).set_ 1 (.int .u8 zf)).set_ 2 (.int .u8 zb)).set_ 3 (.int .u8 za)
      have E0 := E.cell 0
      have E1 := E.cell 1
      have E2 := E.cell 2
      have E3 := E.cell 3
      have hz := HZ.out
      rw [← HA.out, HZZ.out] at hz
      refine bodyPost_ret (v := .agg #[.int .i32 zr, .int .u8 zf, .int .u8 zb, .int .u8 za]) (by simp [results, Try.results10, go_sem, E0, E1, E2, E3, penC]) rfl ⟨by rw [hz]; rfl, ?_⟩
      exact (((Fr.setCell (p := ⟨w.heap.size + 1, 0, none⟩) (HF.out.trans hf2) (.inr (by simp)) _).setCell (p := ⟨w.heap.size + 1, 1, none⟩) (.inr (by simp)) _).setCell (p := ⟨w.heap.size + 1, 2, none⟩) (.inr (by simp)) _).setCell (p := ⟨w.heap.size + 1, 3, none⟩) (.inr (by simp)) _


theorem one_z22 (r f0 b0 a0 f b a : Int) (w : World)  (e1 : f = f0) (e2 : b = b0) (e3 : a = bits .andNot .u8 a0 3) :
    Calls Try.prog 10 #[penV ⟨r, f0, b0, a0⟩, .int .i64 (22 : Int)] w fun e w' => e = .returned (penV (tensP ⟨r, f, b, attrF (22 : Int) a 6⟩ (22 : Int))) ∧ Fr noneOf w w' := by
  have h0 : (-1000000 : Int) ≤ (22 : Int) := by omega
  have h1 : (22 : Int) ≤ (1000000 : Int) := by omega
  obtain ⟨z, hz⟩ : ∃ z, z = penV (tensP ⟨r, f, b, attrF (22 : Int) a 6⟩ (22 : Int)) := ⟨_, rfl⟩
  rw [← hz]
  have HZ := Lib.hid hz
  clear hz
  have HE1 := Lib.hid e1
  have HE2 := Lib.hid e2
  have HE3 := Lib.hid e3
  clear e1 e2 e3
  unfold penV
  go_enter Try.func10, Try.ntmps10
  go_wp2_with (go_at_call 15; refine (codes_any _).mono ?_; rintro e w1 ⟨rfl, hf1⟩)
  have hfw : Fr noneOf w w1 := (((Fr.refl _ _).alloc _).alloc _).trans hf1
  have hb1 : Blk w1 w.heap.size 23 (penC ⟨r, f, b, a⟩) := by
    rw [HE1.out, HE2.out, HE3.out]
    exact ((Blk.new w _ _).alloc _).fr0 hf1
  have hr1 : Blk w1 (w.heap.size + 1) 23 (penC ⟨0, 0, 0, 0⟩) := by
    have := (Blk.new (w.alloc _) 23 (penC ⟨0, 0, 0, 0⟩)).fr0 hf1
    simpa using this
  have HFW := Lib.hid hfw
  have HB1 := Lib.hid hb1
  have HR1 := Lib.hid hr1
  clear hfw hb1 hf1 hr1
  go_loopw [26] (fun i wr => ∃ k : Nat, k ≤ 6 ∧ i = .int .i64 k ∧ Blk wr w.heap.size 23 (penC ⟨r, f, b, attrF (22 : Int) a k⟩) ∧ Blk wr (w.heap.size + 1) 23 (penC ⟨0, 0, 0, 0⟩) ∧ Fr noneOf w wr) (fun i _ => 6 - (intOf i).toNat)
  case atStart => exact ⟨0, by omega, rfl, HB1.out, HR1.out, HFW.out⟩
  case round =>
    obtain ⟨k, hk, rfl, hb, hr, hf⟩ := hrel
    obtain ⟨A, hA⟩ : ∃ A, A = attrF (22 : Int) a k := ⟨_, rfl⟩
    rw [← hA] at hb
    obtain ⟨k', hk'⟩ : ∃ k', k' = k + 1 := ⟨_, rfl⟩
    have hn : attrF (22 : Int) a k' = attrStep (22 : Int) A k := by rw [hk', attrF, ← hA]
    have HN := Lib.hid hn
    have HK := Lib.hid hk'
    clear hn hk'
    have q0 : wr.cell? ⟨w.heap.size, 0, none⟩ = some (.int .i32 r) := hb.cell 0
    have q1 : wr.cell? ⟨w.heap.size, 1, none⟩ = some (.int .u8 f) := hb.cell 1
    have q2 : wr.cell? ⟨w.heap.size, 2, none⟩ = some (.int .u8 b) := hb.cell 2
    have q3 : wr.cell? ⟨w.heap.size, 3, none⟩ = some (.int .u8 A) := hb.cell 3
    have hfz := hb.frozen 3
    have j0 := idx0 wr
    have j1 := idx1 wr
    have j2 := idx2 wr
    have j3 := idx3 wr
    have j4 := idx4 wr
    have j5 := idx5 wr
    have HB := Lib.hid hb
    have HR := Lib.hid hr
    have HF := Lib.hid hf
    have HA := Lib.hid hA
    clear hb hr hf hA
    by_cases hlt : k < 6
    · have hk6 : k = 0 ∨ k = 1 ∨ k = 2 ∨ k = 3 ∨ k = 4 ∨ k = 5 := by omega
      have hcase : (22 : Int) = codeP k ∨ ((22 : Int) ≠ codeP k ∧ (22 : Int) = codeP k + 20 ∧ 2 < codeP k) ∨ ((22 : Int) ≠ codeP k ∧ (22 : Int) = codeP k + 20 ∧ ¬ 2 < codeP k) ∨ ((22 : Int) ≠ codeP k ∧ (22 : Int) ≠ codeP k + 20) := by
        by_cases x1 : (22 : Int) = codeP k
        · exact .inl x1
        · by_cases x2 : (22 : Int) = codeP k + 20
          · by_cases x3 : 2 < codeP k
            · exact .inr (.inl ⟨x1, x2, x3⟩)
            · exact .inr (.inr (.inl ⟨x1, x2, x3⟩))
          · exact .inr (.inr (.inr ⟨x1, x2⟩))
      rcases hcase with x1 | ⟨x1, x2, x3⟩ | ⟨x1, x2, x3⟩ | ⟨x1, x2⟩
      · have hs := attr_on (22 : Int) A k x1
        have HS := Lib.hid hs
        clear hs
        rcases hk6 with rfl | rfl | rfl | rfl | rfl | rfl
        all_goals
          simp only [codeP] at x1
          first
          | (exfalso; omega)
          | (try subst x1
             go_wp2
             go_region
             go_wp2
             go_roundw
             case rel =>
               refine ⟨k', by have := HK.out; omega, by rw [HK.out]; rfl, ?_, (HR.out.far (p := ⟨w.heap.size, 3, none⟩) (by simp) _).drew, (Fr.setCell (p := ⟨w.heap.size, 3, none⟩) HF.out (.inr (Nat.le_refl _)) _).drew⟩
               rw [HN.out, HS.out]
               exact (HB.out.set_ 3 _).drew
             case measure => simp [intOf])
      · have hs := attr_off (22 : Int) A k x1 ⟨x2, x3⟩
        have HS := Lib.hid hs
        clear hs
        rcases hk6 with rfl | rfl | rfl | rfl | rfl | rfl
        all_goals
          simp only [codeP] at x1 x2 x3
          first
          | (exfalso; omega)
          | (try subst x2
             go_wp2
             go_region
             go_wp2
             go_roundw
             case rel =>
               refine ⟨k', by have := HK.out; omega, by rw [HK.out]; rfl, ?_, (HR.out.far (p := ⟨w.heap.size, 3, none⟩) (by simp) _).drew, (Fr.setCell (p := ⟨w.heap.size, 3, none⟩) HF.out (.inr (Nat.le_refl _)) _).drew⟩
               rw [HN.out, HS.out]
               exact (HB.out.set_ 3 _).drew
             case measure => simp [intOf])
      · have hs := attr_same (22 : Int) A k x1 (fun h => x3 h.2)
        have HS := Lib.hid hs
        clear hs
        rcases hk6 with rfl | rfl | rfl | rfl | rfl | rfl
        all_goals
          simp only [codeP] at x1 x2 x3
          first
          | (exfalso; omega)
          | (try subst x2
             go_wp2
             go_roundw
             case rel => exact ⟨k', by have := HK.out; omega, by rw [HK.out]; rfl, by rw [HN.out, HS.out]; exact HB.out, HR.out, HF.out⟩
             case measure => simp [intOf])
      · have hs := attr_same (22 : Int) A k x1 (fun h => x2 h.1)
        have HS := Lib.hid hs
        clear hs
        rcases hk6 with rfl | rfl | rfl | rfl | rfl | rfl
        all_goals
          simp only [codeP] at x1 x2
          go_wp2
          go_roundw
          case rel => exact ⟨k', by have := HK.out; omega, by rw [HK.out]; rfl, by rw [HN.out, HS.out]; exact HB.out, HR.out, HF.out⟩
          case measure => simp [intOf]
    · have hkk : k = 6 := by omega
      subst hkk
      obtain ⟨zr, zf, zb, za, hzz⟩ : ∃ zr zf zb za, tensP ⟨r, f, b, A⟩ (22 : Int) = ⟨zr, zf, zb, za⟩ := ⟨_, _, _, _, rfl⟩
      have ht : ∀ w, Calls Try.prog 16 #[penV ⟨r, f, b, A⟩, .int .i64 (22 : Int)] w fun e w' => e = .returned (.agg #[.int .i32 zr, .int .u8 zf, .int .u8 zb, .int .u8 za]) ∧ Fr noneOf w w' := fun w => by
        have := tens_any ⟨r, f, b, A⟩ (22 : Int) w h0 h1
        rw [hzz] at this
        exact this
      have HT := Lib.hid ht
      have HZZ := Lib.hid hzz
      clear ht hzz
      go_wp2_with (go_at_call 16; refine (HT.out _).mono ?_; rintro e w2 ⟨rfl, hf2⟩; have d := HR.out.fr0 hf2; have f0 := d.frozen 0; have f1 := d.frozen 1; have f2 := d.frozen 2; have f3 := d.frozen 3; have d0 : w2.cell? ⟨w.heap.size + 1, 0, none⟩ = some (.int .i32 0) := d.cell 0; have d1 : w2.cell? ⟨w.heap.size + 1, 1, none⟩ = some (.int .u8 0) := d.cell 1; have d2 : w2.cell? ⟨w.heap.size + 1, 2, none⟩ = some (.int .u8 0) := d.cell 2; have d3 : w2.cell? ⟨w.heap.size + 1, 3, none⟩ = some (.int .u8 0) := d.cell 3)
      have E := (((d.set_ 0 (.int .i32 zr)).set_ 1 (.int .u8 zf)).set_ 2 (.int .u8 zb)).set_ 3 (.int .u8 za)
      have E0 := E.cell 0
      have E1 := E.cell 1
      have E2 := E.cell 2
      have E3 := E.cell 3
      have hz := HZ.out
      rw [← HA.out, HZZ.out] at hz
      refine bodyPost_ret (v := .agg #[.int .i32 zr, .int .u8 zf, .int .u8 zb, .int .u8 za]) (by simp [results, Try.results10, go_sem, E0, E1, E2, E3, penC]) rfl ⟨by rw [hz]; rfl, ?_⟩
      exact (((Fr.setCell (p := ⟨w.heap.size + 1, 0, none⟩) (HF.out.trans hf2) (.inr (by simp)) _).setCell (p := ⟨w.heap.size + 1, 1, none⟩) (.inr (by simp)) _).setCell (p := ⟨w.heap.size + 1, 2, none⟩) (.inr (by simp)) _).setCell (p := ⟨w.heap.size + 1, 3, none⟩) (.inr (by simp)) _


theorem one_z39 (r f0 b0 a0 f b a : Int) (w : World)  (e1 : f = 0) (e2 : b = b0) (e3 : a = a0) :
    Calls Try.prog 10 #[penV ⟨r, f0, b0, a0⟩, .int .i64 (39 : Int)] w fun e w' => e = .returned (penV (tensP ⟨r, f, b, attrF (39 : Int) a 6⟩ (39 : Int))) ∧ Fr noneOf w w' := by
  have h0 : (-1000000 : Int) ≤ (39 : Int) := by omega
  have h1 : (39 : Int) ≤ (1000000 : Int) := by omega
  obtain ⟨z, hz⟩ : ∃ z, z = penV (tensP ⟨r, f, b, attrF (39 : Int) a 6⟩ (39 : Int)) := ⟨_, rfl⟩
  rw [← hz]
  have HZ := Lib.hid hz
  clear hz
  have HE1 := Lib.hid e1
  have HE2 := Lib.hid e2
  have HE3 := Lib.hid e3
  clear e1 e2 e3
  unfold penV
  go_enter Try.func10, Try.ntmps10
  go_wp2_with (go_at_call 15; refine (codes_any _).mono ?_; rintro e w1 ⟨rfl, hf1⟩)
  have hfw : Fr noneOf w w1 := (((Fr.refl _ _).alloc _).alloc _).trans hf1
  have hb1 : Blk w1 w.heap.size 23 (penC ⟨r, f, b, a⟩) := by
    rw [HE1.out, HE2.out, HE3.out]
    exact ((Blk.new w _ _).alloc _).fr0 hf1
  have hr1 : Blk w1 (w.heap.size + 1) 23 (penC ⟨0, 0, 0, 0⟩) := by
    have := (Blk.new (w.alloc _) 23 (penC ⟨0, 0, 0, 0⟩)).fr0 hf1
    simpa using this
  have HFW := Lib.hid hfw
  have HB1 := Lib.hid hb1
  have HR1 := Lib.hid hr1
  clear hfw hb1 hf1 hr1
  go_loopw [26] (fun i wr => ∃ k : Nat, k ≤ 6 ∧ i = .int .i64 k ∧ Blk wr w.heap.size 23 (penC ⟨r, f, b, attrF (39 : Int) a k⟩) ∧ Blk wr (w.heap.size + 1) 23 (penC ⟨0, 0, 0, 0⟩) ∧ Fr noneOf w wr) (fun i _ => 6 - (intOf i).toNat)
  case atStart => exact ⟨0, by omega, rfl, HB1.out, HR1.out, HFW.out⟩
  case round =>
    obtain ⟨k, hk, rfl, hb, hr, hf⟩ := hrel
    obtain ⟨A, hA⟩ : ∃ A, A = attrF (39 : Int) a k := ⟨_, rfl⟩
    rw [← hA] at hb
    obtain ⟨k', hk'⟩ : ∃ k', k' = k + 1 := ⟨_, rfl⟩
    have hn : attrF (39 : Int) a k' = attrStep (39 : Int) A k := by rw [hk', attrF, ← hA]
    have HN := Lib.hid hn
    have HK := Lib.hid hk'
    clear hn hk'
    have q0 : wr.cell? ⟨w.heap.size, 0, none⟩ = some (.int .i32 r) := hb.cell 0
    have q1 : wr.cell? ⟨w.heap.size, 1, none⟩ = some (.int .u8 f) := hb.cell 1
    have q2 : wr.cell? ⟨w.heap.size, 2, none⟩ = some (.int .u8 b) := hb.cell 2
    have q3 : wr.cell? ⟨w.heap.size, 3, none⟩ = some (.int .u8 A) := hb.cell 3
    have hfz := hb.frozen 3
    have j0 := idx0 wr
    have j1 := idx1 wr
    have j2 := idx2 wr
    have j3 := idx3 wr
    have j4 := idx4 wr
    have j5 := idx5 wr
    have HB := Lib.hid hb
    have HR := Lib.hid hr
    have HF := Lib.hid hf
    have HA := Lib.hid hA
    clear hb hr hf hA
    by_cases hlt : k < 6
    · have hk6 : k = 0 ∨ k = 1 ∨ k = 2 ∨ k = 3 ∨ k = 4 ∨ k = 5 := by omega
      have hcase : (39 : Int) = codeP k ∨ ((39 : Int) ≠ codeP k ∧ (39 : Int) = codeP k + 20 ∧ 2 < codeP k) ∨ ((39 : Int) ≠ codeP k ∧ (39 : Int) = codeP k + 20 ∧ ¬ 2 < codeP k) ∨ ((39 : Int) ≠ codeP k ∧ (39 : Int) ≠ codeP k + 20) := by
        by_cases x1 : (39 : Int) = codeP k
        · exact .inl x1
        · by_cases x2 : (39 : Int) = codeP k + 20
          · by_cases x3 : 2 < codeP k
            · exact .inr (.inl ⟨x1, x2, x3⟩)
            · exact .inr (.inr (.inl ⟨x1, x2, x3⟩))
          · exact .inr (.inr (.inr ⟨x1, x2⟩))
      rcases hcase with x1 | ⟨x1, x2, x3⟩ | ⟨x1, x2, x3⟩ | ⟨x1, x2⟩
      · have hs := attr_on (39 : Int) A k x1
        have HS := Lib.hid hs
        clear hs
        rcases hk6 with rfl | rfl | rfl | rfl | rfl | rfl
        all_goals
          simp only [codeP] at x1
          first
          | (exfalso; omega)
          | (try subst x1
             go_wp2
             go_region
             go_wp2
             go_roundw
             case rel =>
               refine ⟨k', by have := HK.out; omega, by rw [HK.out]; rfl, ?_, (HR.out.far (p := ⟨w.heap.size, 3, none⟩) (by simp) _).drew, (Fr.setCell (p := ⟨w.heap.size, 3, none⟩) HF.out (.inr (Nat.le_refl _)) _).drew⟩
               rw [HN.out, HS.out]
               exact (HB.out.set_ 3 _).drew
             case measure => simp [intOf])
      · have hs := attr_off (39 : Int) A k x1 ⟨x2, x3⟩
        have HS := Lib.hid hs
        clear hs
        rcases hk6 with rfl | rfl | rfl | rfl | rfl | rfl
        all_goals
          simp only [codeP] at x1 x2 x3
          first
          | (exfalso; omega)
          | (try subst x2
             go_wp2
             go_region
             go_wp2
             go_roundw
             case rel =>
               refine ⟨k', by have := HK.out; omega, by rw [HK.out]; rfl, ?_, (HR.out.far (p := ⟨w.heap.size, 3, none⟩) (by simp) _).drew, (Fr.setCell (p := ⟨w.heap.size, 3, none⟩) HF.out (.inr (Nat.le_refl _)) _).drew⟩
               rw [HN.out, HS.out]
               exact (HB.out.set_ 3 _).drew
             case measure => simp [intOf])
      · have hs := attr_same (39 : Int) A k x1 (fun h => x3 h.2)
        have HS := Lib.hid hs
        clear hs
        rcases hk6 with rfl | rfl | rfl | rfl | rfl | rfl
        all_goals
          simp only [codeP] at x1 x2 x3
          first
          | (exfalso; omega)
          | (try subst x2
             go_wp2
             go_roundw
             case rel => exact ⟨k', by have := HK.out; omega, by rw [HK.out]; rfl, by rw [HN.out, HS.out]; exact HB.out, HR.out, HF.out⟩
             case measure => simp [intOf])
      · have hs := attr_same (39 : Int) A k x1 (fun h => x2 h.1)
        have HS := Lib.hid hs
        clear hs
        rcases hk6 with rfl | rfl | rfl | rfl | rfl | rfl
        all_goals
          simp only [codeP] at x1 x2
          go_wp2
          go_roundw
          case rel => exact ⟨k', by have := HK.out; omega, by rw [HK.out]; rfl, by rw [HN.out, HS.out]; exact HB.out, HR.out, HF.out⟩
          case measure => simp [intOf]
    · have hkk : k = 6 := by omega
      subst hkk
      obtain ⟨zr, zf, zb, za, hzz⟩ : ∃ zr zf zb za, tensP ⟨r, f, b, A⟩ (39 : Int) = ⟨zr, zf, zb, za⟩ := ⟨_, _, _, _, rfl⟩
      have ht : ∀ w, Calls Try.prog 16 #[penV ⟨r, f, b, A⟩, .int .i64 (39 : Int)] w fun e w' => e = .returned (.agg #[.int .i32 zr, .int .u8 zf, .int .u8 zb, .int .u8 za]) ∧ Fr noneOf w w' := fun w => by
        have := tens_any ⟨r, f, b, A⟩ (39 : Int) w h0 h1
        rw [hzz] at this
        exact this
      have HT := Lib.hid ht
      have HZZ := Lib.hid hzz
      clear ht hzz
      go_wp2_with (go_at_call 16; refine (HT.out _).mono ?_; rintro e w2 ⟨rfl, hf2⟩; have d := HR.out.fr0 hf2; have f0 := d.frozen 0; have f1 := d.frozen 1; have f2 := d.frozen 2; have f3 := d.frozen 3; have d0 : w2.cell? ⟨w.heap.size + 1, 0, none⟩ = some (.int .i32 0) := d.cell 0; have d1 : w2.cell? ⟨w.heap.size + 1, 1, none⟩ = some (.int .u8 0) := d.cell 1; have d2 : w2.cell? ⟨w.heap.size + 1, 2, none⟩ = some (.int .u8 0) := d.cell 2; have d3 : w2.cell? ⟨w.heap.size + 1, 3, none⟩ = some (.int .u8 0) := d.cell 3)
      have E := (((d.set_ 0 (.int .i32 zr)).set_ 1 (.int .u8 zf)).set_ 2 (.int .u8 zb)).set_ 3 (.int .u8 za)
      have E0 := E.cell 0
      have E1 := E.cell 1
      have E2 := E.cell 2
      have E3 := E.cell 3
      have hz := HZ.out
      rw [← HA.out, HZZ.out] at hz
      refine bodyPost_ret (v := .agg #[.int .i32 zr, .int .u8 zf, .int .u8 zb, .int .u8 za]) (by simp [results, Try.results10, go_sem, E0, E1, E2, E3, penC]) rfl ⟨by rw [hz]; rfl, ?_⟩
      exact (((Fr.setCell (p := ⟨w.heap.size + 1, 0, none⟩) (HF.out.trans hf2) (.inr (by simp)) _).setCell (p := ⟨w.heap.size + 1, 1, none⟩) (.inr (by simp)) _).setCell (p := ⟨w.heap.size + 1, 2, none⟩) (.inr (by simp)) _).setCell (p := ⟨w.heap.size + 1, 3, none⟩) (.inr (by simp)) _


theorem one_z49 (r f0 b0 a0 f b a : Int) (w : World)  (e1 : f = f0) (e2 : b = 0) (e3 : a = a0) :
    Calls Try.prog 10 #[penV ⟨r, f0, b0, a0⟩, .int .i64 (49 : Int)] w fun e w' => e = .returned (penV (tensP ⟨r, f, b, attrF (49 : Int) a 6⟩ (49 : Int))) ∧ Fr noneOf w w' := by
  have h0 : (-1000000 : Int) ≤ (49 : Int) := by omega
  have h1 : (49 : Int) ≤ (1000000 : Int) := by omega
  obtain ⟨z, hz⟩ : ∃ z, z = penV (tensP ⟨r, f, b, attrF (49 : Int) a 6⟩ (49 : Int)) := ⟨_, rfl⟩
  rw [← hz]
  have HZ := Lib.hid hz
  clear hz
  have HE1 := Lib.hid e1
  have HE2 := Lib.hid e2
  have HE3 := Lib.hid e3
  clear e1 e2 e3
  unfold penV
  go_enter Try.func10, Try.ntmps10
  go_wp2_with (go_at_call 15; refine (codes_any _).mono ?_; rintro e w1 ⟨rfl, hf1⟩)
  have hfw : Fr noneOf w w1 := (((Fr.refl _ _).alloc _).alloc _).trans hf1
  have hb1 : Blk w1 w.heap.size 23 (penC ⟨r, f, b, a⟩) := by
    rw [HE1.out, HE2.out, HE3.out]
    exact ((Blk.new w _ _).alloc _).fr0 hf1
  have hr1 : Blk w1 (w.heap.size + 1) 23 (penC ⟨0, 0, 0, 0⟩) := by
    have := (Blk.new (w.alloc _) 23 (penC ⟨0, 0, 0, 0⟩)).fr0 hf1
    simpa using this
  have HFW := Lib.hid hfw
  have HB1 := Lib.hid hb1
  have HR1 := Lib.hid hr1
  clear hfw hb1 hf1 hr1
  go_loopw [26] (fun i wr => ∃ k : Nat, k ≤ 6 ∧ i = .int .i64 k ∧ Blk wr w.heap.size 23 (penC ⟨r, f, b, attrF (49 : Int) a k⟩) ∧ Blk wr (w.heap.size + 1) 23 (penC ⟨0, 0, 0, 0⟩) ∧ Fr noneOf w wr) (fun i _ => 6 - (intOf i).toNat)
  case atStart => exact ⟨0, by omega, rfl, HB1.out, HR1.out, HFW.out⟩
  case round =>
    obtain ⟨k, hk, rfl, hb, hr, hf⟩ := hrel
    obtain ⟨A, hA⟩ : ∃ A, A = attrF (49 : Int) a k := ⟨_, rfl⟩
    rw [← hA] at hb
    obtain ⟨k', hk'⟩ : ∃ k', k' = k + 1 := ⟨_, rfl⟩
    have hn : attrF (49 : Int) a k' = attrStep (49 : Int) A k := by rw [hk', attrF, ← hA]
    have HN := Lib.hid hn
    have HK := Lib.hid hk'
    clear hn hk'
    have q0 : wr.cell? ⟨w.heap.size, 0, none⟩ = some (.int .i32 r) := hb.cell 0
    have q1 : wr.cell? ⟨w.heap.size, 1, none⟩ = some (.int .u8 f) := hb.cell 1
    have q2 : wr.cell? ⟨w.heap.size, 2, none⟩ = some (.int .u8 b) := hb.cell 2
    have q3 : wr.cell? ⟨w.heap.size, 3, none⟩ = some (.int .u8 A) := hb.cell 3
    have hfz := hb.frozen 3
    have j0 := idx0 wr
    have j1 := idx1 wr
    have j2 := idx2 wr
    have j3 := idx3 wr
    have j4 := idx4 wr
    have j5 := idx5 wr
    have HB := Lib.hid hb
    have HR := Lib.hid hr
    have HF := Lib.hid hf
    have HA := Lib.hid hA
    clear hb hr hf hA
    by_cases hlt : k < 6
    · have hk6 : k = 0 ∨ k = 1 ∨ k = 2 ∨ k = 3 ∨ k = 4 ∨ k = 5 := by omega
      have hcase : (49 : Int) = codeP k ∨ ((49 : Int) ≠ codeP k ∧ (49 : Int) = codeP k + 20 ∧ 2 < codeP k) ∨ ((49 : Int) ≠ codeP k ∧ (49 : Int) = codeP k + 20 ∧ ¬ 2 < codeP k) ∨ ((49 : Int) ≠ codeP k ∧ (49 : Int) ≠ codeP k + 20) := by
        by_cases x1 : (49 : Int) = codeP k
        · exact .inl x1
        · by_cases x2 : (49 : Int) = codeP k + 20
          · by_cases x3 : 2 < codeP k
            · exact .inr (.inl ⟨x1, x2, x3⟩)
            · exact .inr (.inr (.inl ⟨x1, x2, x3⟩))
          · exact .inr (.inr (.inr ⟨x1, x2⟩))
      rcases hcase with x1 | ⟨x1, x2, x3⟩ | ⟨x1, x2, x3⟩ | ⟨x1, x2⟩
      · have hs := attr_on (49 : Int) A k x1
        have HS := Lib.hid hs
        clear hs
        rcases hk6 with rfl | rfl | rfl | rfl | rfl | rfl
        all_goals
          simp only [codeP] at x1
          first
          | (exfalso; omega)
          | (try subst x1
             go_wp2
             go_region
             go_wp2
             go_roundw
             case rel =>
               refine ⟨k', by have := HK.out; omega, by rw [HK.out]; rfl, ?_, (HR.out.far (p := ⟨w.heap.size, 3, none⟩) (by simp) _).drew, (Fr.setCell (p := ⟨w.heap.size, 3, none⟩) HF.out (.inr (Nat.le_refl _)) _).drew⟩
               rw [HN.out, HS.out]
               exact (HB.out.set_ 3 _).drew
             case measure => simp [intOf])
      · have hs := attr_off (49 : Int) A k x1 ⟨x2, x3⟩
        have HS := Lib.hid hs
        clear hs
        rcases hk6 with rfl | rfl | rfl | rfl | rfl | rfl
        all_goals
          simp only [codeP] at x1 x2 x3
          first
          | (exfalso; omega)
          | (try subst x2
             go_wp2
             go_region
             go_wp2
             go_roundw
             case rel =>
               refine ⟨k', by have := HK.out; omega, by rw [HK.out]; rfl, ?_, (HR.out.far (p := ⟨w.heap.size, 3, none⟩) (by simp) _).drew, (Fr.setCell (p := ⟨w.heap.size, 3, none⟩) HF.out (.inr (Nat.le_refl _)) _).drew⟩
               rw [HN.out, HS.out]
               exact (HB.out.set_ 3 _).drew
             case measure => simp [intOf])
      · have hs := attr_same (49 : Int) A k x1 (fun h => x3 h.2)
        have HS := Lib.hid hs
        clear hs
        rcases hk6 with rfl | rfl | rfl | rfl | rfl | rfl
        all_goals
          simp only [codeP] at x1 x2 x3
          first
          | (exfalso; omega)
          | (try subst x2
             go_wp2
             go_roundw
             case rel => exact ⟨k', by have := HK.out; omega, by rw [HK.out]; rfl, by rw [HN.out, HS.out]; exact HB.out, HR.out, HF.out⟩
             case measure => simp [intOf])
      · have hs := attr_same (49 : Int) A k x1 (fun h => x2 h.1)
        have HS := Lib.hid hs
        clear hs
        rcases hk6 with rfl | rfl | rfl | rfl | rfl | rfl
        all_goals
          simp only [codeP] at x1 x2
          go_wp2
          go_roundw
          case rel => exact ⟨k', by have := HK.out; omega, by rw [HK.out]; rfl, by rw [HN.out, HS.out]; exact HB.out, HR.out, HF.out⟩
          case measure => simp [intOf]
    · have hkk : k = 6 := by omega
      subst hkk
      obtain ⟨zr, zf, zb, za, hzz⟩ : ∃ zr zf zb za, tensP ⟨r, f, b, A⟩ (49 : Int) = ⟨zr, zf, zb, za⟩ := ⟨_, _, _, _, rfl⟩
      have ht : ∀ w, Calls Try.prog 16 #[penV ⟨r, f, b, A⟩, .int .i64 (49 : Int)] w fun e w' => e = .returned (.agg #[.int .i32 zr, .int .u8 zf, .int .u8 zb, .int .u8 za]) ∧ Fr noneOf w w' := fun w => by
        have := tens_any ⟨r, f, b, A⟩ (49 : Int) w h0 h1
        rw [hzz] at this
        exact this
      have HT := Lib.hid ht
      have HZZ := Lib.hid hzz
      clear ht hzz
      go_wp2_with (go_at_call 16; refine (HT.out _).mono ?_; rintro e w2 ⟨rfl, hf2⟩; have d := HR.out.fr0 hf2; have f0 := d.frozen 0; have f1 := d.frozen 1; have f2 := d.frozen 2; have f3 := d.frozen 3; have d0 : w2.cell? ⟨w.heap.size + 1, 0, none⟩ = some (.int .i32 0) := d.cell 0; have d1 : w2.cell? ⟨w.heap.size + 1, 1, none⟩ = some (.int .u8 0) := d.cell 1; have d2 : w2.cell? ⟨w.heap.size + 1, 2, none⟩ = some (.int .u8 0) := d.cell 2; have d3 : w2.cell? ⟨w.heap.size + 1, 3, none⟩ = some (.int .u8 0) := d.cell 3)
      have E := (((d.set_ 0 (.int .i32 zr)).set_ 1 (.int .u8 zf)).set_ 2 (.int .u8 zb)).set_ 3 (.int .u8 za)
      have E0 := E.cell 0
      have E1 := E.cell 1
      have E2 := E.cell 2
      have E3 := E.cell 3
      have hz := HZ.out
      rw [← HA.out, HZZ.out] at hz
      refine bodyPost_ret (v := .agg #[.int .i32 zr, .int .u8 zf, .int .u8 zb, .int .u8 za]) (by simp [results, Try.results10, go_sem, E0, E1, E2, E3, penC]) rfl ⟨by rw [hz]; rfl, ?_⟩
      exact (((Fr.setCell (p := ⟨w.heap.size + 1, 0, none⟩) (HF.out.trans hf2) (.inr (by simp)) _).setCell (p := ⟨w.heap.size + 1, 1, none⟩) (.inr (by simp)) _).setCell (p := ⟨w.heap.size + 1, 2, none⟩) (.inr (by simp)) _).setCell (p := ⟨w.heap.size + 1, 3, none⟩) (.inr (by simp)) _


theorem one_gen (r f0 b0 a0 f b a : Int) (n : Int) (w : World) (h0 : -1000000 ≤ n) (h1 : n ≤ 1000000) (n0 : n ≠ 0) (n1 : n ≠ 22) (n2 : n ≠ 39) (n3 : n ≠ 49) (e1 : f = f0) (e2 : b = b0) (e3 : a = a0) :
    Calls Try.prog 10 #[penV ⟨r, f0, b0, a0⟩, .int .i64 n] w fun e w' => e = .returned (penV (tensP ⟨r, f, b, attrF n a 6⟩ n)) ∧ Fr noneOf w w' := by
  obtain ⟨z, hz⟩ : ∃ z, z = penV (tensP ⟨r, f, b, attrF n a 6⟩ n) := ⟨_, rfl⟩
  rw [← hz]
  have HZ := Lib.hid hz
  clear hz
  have HE1 := Lib.hid e1
  have HE2 := Lib.hid e2
  have HE3 := Lib.hid e3
  clear e1 e2 e3
  unfold penV
  go_enter Try.func10, Try.ntmps10
  go_wp2_with (go_at_call 15; refine (codes_any _).mono ?_; rintro e w1 ⟨rfl, hf1⟩)
  have hfw : Fr noneOf w w1 := (((Fr.refl _ _).alloc _).alloc _).trans hf1
  have hb1 : Blk w1 w.heap.size 23 (penC ⟨r, f, b, a⟩) := by
    rw [HE1.out, HE2.out, HE3.out]
    exact ((Blk.new w _ _).alloc _).fr0 hf1
  have hr1 : Blk w1 (w.heap.size + 1) 23 (penC ⟨0, 0, 0, 0⟩) := by
    have := (Blk.new (w.alloc _) 23 (penC ⟨0, 0, 0, 0⟩)).fr0 hf1
    simpa using this
  have HFW := Lib.hid hfw
  have HB1 := Lib.hid hb1
  have HR1 := Lib.hid hr1
  clear hfw hb1 hf1 hr1
  go_loopw [26] (fun i wr => ∃ k : Nat, k ≤ 6 ∧ i = .int .i64 k ∧ Blk wr w.heap.size 23 (penC ⟨r, f, b, attrF n a k⟩) ∧ Blk wr (w.heap.size + 1) 23 (penC ⟨0, 0, 0, 0⟩) ∧ Fr noneOf w wr) (fun i _ => 6 - (intOf i).toNat)
  case atStart => exact ⟨0, by omega, rfl, HB1.out, HR1.out, HFW.out⟩
  case round =>
    obtain ⟨k, hk, rfl, hb, hr, hf⟩ := hrel
    obtain ⟨A, hA⟩ : ∃ A, A = attrF n a k := ⟨_, rfl⟩
    rw [← hA] at hb
    obtain ⟨k', hk'⟩ : ∃ k', k' = k + 1 := ⟨_, rfl⟩
    have hn : attrF n a k' = attrStep n A k := by rw [hk', attrF, ← hA]
    have HN := Lib.hid hn
    have HK := Lib.hid hk'
    clear hn hk'
    have q0 : wr.cell? ⟨w.heap.size, 0, none⟩ = some (.int .i32 r) := hb.cell 0
    have q1 : wr.cell? ⟨w.heap.size, 1, none⟩ = some (.int .u8 f) := hb.cell 1
    have q2 : wr.cell? ⟨w.heap.size, 2, none⟩ = some (.int .u8 b) := hb.cell 2
    have q3 : wr.cell? ⟨w.heap.size, 3, none⟩ = some (.int .u8 A) := hb.cell 3
    have hfz := hb.frozen 3
    have j0 := idx0 wr
    have j1 := idx1 wr
    have j2 := idx2 wr
    have j3 := idx3 wr
    have j4 := idx4 wr
    have j5 := idx5 wr
    have HB := Lib.hid hb
    have HR := Lib.hid hr
    have HF := Lib.hid hf
    have HA := Lib.hid hA
    clear hb hr hf hA
    by_cases hlt : k < 6
    · have hk6 : k = 0 ∨ k = 1 ∨ k = 2 ∨ k = 3 ∨ k = 4 ∨ k = 5 := by omega
      have hcase : n = codeP k ∨ (n ≠ codeP k ∧ n = codeP k + 20 ∧ 2 < codeP k) ∨ (n ≠ codeP k ∧ n = codeP k + 20 ∧ ¬ 2 < codeP k) ∨ (n ≠ codeP k ∧ n ≠ codeP k + 20) := by
        by_cases x1 : n = codeP k
        · exact .inl x1
        · by_cases x2 : n = codeP k + 20
          · by_cases x3 : 2 < codeP k
            · exact .inr (.inl ⟨x1, x2, x3⟩)
            · exact .inr (.inr (.inl ⟨x1, x2, x3⟩))
          · exact .inr (.inr (.inr ⟨x1, x2⟩))
      rcases hcase with x1 | ⟨x1, x2, x3⟩ | ⟨x1, x2, x3⟩ | ⟨x1, x2⟩
      · have hs := attr_on n A k x1
        have HS := Lib.hid hs
        clear hs
        rcases hk6 with rfl | rfl | rfl | rfl | rfl | rfl
        all_goals
          simp only [codeP] at x1
          first
          | (exfalso; omega)
          | (try subst x1
             go_wp2
             go_region
             go_wp2
             go_roundw
             case rel =>
               refine ⟨k', by have := HK.out; omega, by rw [HK.out]; rfl, ?_, (HR.out.far (p := ⟨w.heap.size, 3, none⟩) (by simp) _).drew, (Fr.setCell (p := ⟨w.heap.size, 3, none⟩) HF.out (.inr (Nat.le_refl _)) _).drew⟩
               rw [HN.out, HS.out]
               exact (HB.out.set_ 3 _).drew
             case measure => simp [intOf])
      · have hs := attr_off n A k x1 ⟨x2, x3⟩
        have HS := Lib.hid hs
        clear hs
        rcases hk6 with rfl | rfl | rfl | rfl | rfl | rfl
        all_goals
          simp only [codeP] at x1 x2 x3
          first
          | (exfalso; omega)
          | (try subst x2
             go_wp2
             go_region
             go_wp2
             go_roundw
             case rel =>
               refine ⟨k', by have := HK.out; omega, by rw [HK.out]; rfl, ?_, (HR.out.far (p := ⟨w.heap.size, 3, none⟩) (by simp) _).drew, (Fr.setCell (p := ⟨w.heap.size, 3, none⟩) HF.out (.inr (Nat.le_refl _)) _).drew⟩
               rw [HN.out, HS.out]
               exact (HB.out.set_ 3 _).drew
             case measure => simp [intOf])
      · have hs := attr_same n A k x1 (fun h => x3 h.2)
        have HS := Lib.hid hs
        clear hs
        rcases hk6 with rfl | rfl | rfl | rfl | rfl | rfl
        all_goals
          simp only [codeP] at x1 x2 x3
          first
          | (exfalso; omega)
          | (try subst x2
             go_wp2
             go_roundw
             case rel => exact ⟨k', by have := HK.out; omega, by rw [HK.out]; rfl, by rw [HN.out, HS.out]; exact HB.out, HR.out, HF.out⟩
             case measure => simp [intOf])
      · have hs := attr_same n A k x1 (fun h => x2 h.1)
        have HS := Lib.hid hs
        clear hs
        rcases hk6 with rfl | rfl | rfl | rfl | rfl | rfl
        all_goals
          simp only [codeP] at x1 x2
          go_wp2
          go_roundw
          case rel => exact ⟨k', by have := HK.out; omega, by rw [HK.out]; rfl, by rw [HN.out, HS.out]; exact HB.out, HR.out, HF.out⟩
          case measure => simp [intOf]
    · have hkk : k = 6 := by omega
      subst hkk
      obtain ⟨zr, zf, zb, za, hzz⟩ : ∃ zr zf zb za, tensP ⟨r, f, b, A⟩ n = ⟨zr, zf, zb, za⟩ := ⟨_, _, _, _, rfl⟩
      have ht : ∀ w, Calls Try.prog 16 #[penV ⟨r, f, b, A⟩, .int .i64 n] w fun e w' => e = .returned (.agg #[.int .i32 zr, .int .u8 zf, .int .u8 zb, .int .u8 za]) ∧ Fr noneOf w w' := fun w => by
        have := tens_any ⟨r, f, b, A⟩ n w h0 h1
        rw [hzz] at this
        exact this
      have HT := Lib.hid ht
      have HZZ := Lib.hid hzz
      clear ht hzz
      go_wp2_with (go_at_call 16; refine (HT.out _).mono ?_; rintro e w2 ⟨rfl, hf2⟩; have d := HR.out.fr0 hf2; have f0 := d.frozen 0; have f1 := d.frozen 1; have f2 := d.frozen 2; have f3 := d.frozen 3; have d0 : w2.cell? ⟨w.heap.size + 1, 0, none⟩ = some (.int .i32 0) := d.cell 0; have d1 : w2.cell? ⟨w.heap.size + 1, 1, none⟩ = some (.int .u8 0) := d.cell 1; have d2 : w2.cell? ⟨w.heap.size + 1, 2, none⟩ = some (.int .u8 0) := d.cell 2; have d3 : w2.cell? ⟨w.heap.size + 1, 3, none⟩ = some (.int .u8 0) := d.cell 3)
      have E := (((d.set_ 0 (.int .i32 zr)).set_ 1 (.int .u8 zf)).set_ 2 (.int .u8 zb)).set_ 3 (.int .u8 za)
      have E0 := E.cell 0
      have E1 := E.cell 1
      have E2 := E.cell 2
      have E3 := E.cell 3
      have hz := HZ.out
      rw [← HA.out, HZZ.out] at hz
      refine bodyPost_ret (v := .agg #[.int .i32 zr, .int .u8 zf, .int .u8 zb, .int .u8 za]) (by simp [results, Try.results10, go_sem, E0, E1, E2, E3, penC]) rfl ⟨by rw [hz]; rfl, ?_⟩
      exact (((Fr.setCell (p := ⟨w.heap.size + 1, 0, none⟩) (HF.out.trans hf2) (.inr (by simp)) _).setCell (p := ⟨w.heap.size + 1, 1, none⟩) (.inr (by simp)) _).setCell (p := ⟨w.heap.size + 1, 2, none⟩) (.inr (by simp)) _).setCell (p := ⟨w.heap.size + 1, 3, none⟩) (.inr (by simp)) _


theorem one_walk (r f0 b0 a0 f b a : Int) (n : Int) (w : World) (h0 : -1000000 ≤ n) (h1 : n ≤ 1000000)
    (hsw : (n = 0 ∧ f = 0 ∧ b = 0 ∧ a = 0) ∨ (n = 22 ∧ f = f0 ∧ b = b0 ∧ a = bits .andNot .u8 a0 3) ∨ (n = 39 ∧ f = 0 ∧ b = b0 ∧ a = a0) ∨ (n = 49 ∧ f = f0 ∧ b = 0 ∧ a = a0) ∨ (n ≠ 0 ∧ n ≠ 22 ∧ n ≠ 39 ∧ n ≠ 49 ∧ f = f0 ∧ b = b0 ∧ a = a0)) :
    Calls Try.prog 10 #[penV ⟨r, f0, b0, a0⟩, .int .i64 n] w fun e w' => e = .returned (penV (tensP ⟨r, f, b, attrF n a 6⟩ n)) ∧ Fr noneOf w w' := by
  rcases hsw with ⟨rfl, e1, e2, e3⟩ | ⟨rfl, e1, e2, e3⟩ | ⟨rfl, e1, e2, e3⟩ | ⟨rfl, e1, e2, e3⟩ | ⟨n0, n1, n2, n3, e1, e2, e3⟩
  · exact one_z0 r f0 b0 a0 f b a w e1 e2 e3
  · exact one_z22 r f0 b0 a0 f b a w e1 e2 e3
  · exact one_z39 r f0 b0 a0 f b a w e1 e2 e3
  · exact one_z49 r f0 b0 a0 f b a w e1 e2 e3
  · exact one_gen r f0 b0 a0 f b a n w h0 h1 n0 n1 n2 n3 e1 e2 e3

theorem one_any (c : Pn) (n : Int) (w : World) (h0 : -1000000 ≤ n) (h1 : n ≤ 1000000) : Calls Try.prog 10 #[penV c, .int .i64 n] w fun e w' => e = .returned (penV (oneP c n)) ∧ Fr noneOf w w' := by
  obtain ⟨r, f, b, a⟩ := c
  obtain ⟨c0, hc0⟩ : ∃ c0, c0 = oneA ⟨r, f, b, a⟩ n := ⟨_, rfl⟩
  obtain ⟨r1, f1, b1, a1⟩ := c0
  have hsw : r1 = r ∧ ((n = 0 ∧ f1 = 0 ∧ b1 = 0 ∧ a1 = 0) ∨ (n = 22 ∧ f1 = f ∧ b1 = b ∧ a1 = bits .andNot .u8 a 3) ∨ (n = 39 ∧ f1 = 0 ∧ b1 = b ∧ a1 = a) ∨ (n = 49 ∧ f1 = f ∧ b1 = 0 ∧ a1 = a) ∨ (n ≠ 0 ∧ n ≠ 22 ∧ n ≠ 39 ∧ n ≠ 49 ∧ f1 = f ∧ b1 = b ∧ a1 = a)) := by
    have hc := hc0
    unfold oneA at hc
    split at hc
    · simp at hc; simp [*]
    · split at hc
      · simp at hc; simp [*]
      · split at hc
        · simp at hc; simp [*]
        · split at hc
          · simp at hc; simp [*]
          · simp at hc; simp [*]
  have h := one_walk r f b a f1 b1 a1 n w h0 h1 hsw.2
  unfold oneP withA
  rw [← hc0, hsw.1]
  exact h
end Go.Proofs.Ytndjgcpaiplakaa
