/-
  NumsOnce: the walk.
-/
import Derived.Test.YtijcochanobpgaaDoorNumRow
namespace Go.Proofs.YtijcochanobpgaaDoor
open Go.RowKit Nums
set_option linter.unusedVariables false

theorem Rw.box {s : ByteArray} {p : Nat} {c : Int} {b g : Nat} {t : TypeId} {cs : Array Value} {w w' : World} (h : Blk w g t cs) (hf : Fr (justOf b) w w') (hb : g ≠ b) : Blk w' g t cs := Blk.fr h hf hb
set_option maxRecDepth 100000 in
set_option maxHeartbeats 4000000 in
theorem numsOnce_any (s : List UInt8) (q0 q1 code : Int) (w : World) (hs : s.length ≤ 9223372036854775807) (_hq0 : -9223372036854775808 ≤ q0 ∧ q0 ≤ 9223372036854775807) (_hq1 : -9223372036854775808 ≤ q1 ∧ q1 ≤ 9223372036854775807) (_hc0 : -9223372036854775808 ≤ code) (_hc1 : code ≤ 9223372036854775807) (hg : errT w) :
    Calls Tryd.prog 3 #[.string ⟨s.toArray⟩, .agg #[.int .i64 q0, .int .i64 q1], .int .i64 code] w fun e w' => e = .returned (.bool true) ∧ Fr noneOf w w' := by
  obtain ⟨l, hl, hll⟩ : ∃ l, l = s.take 20 ∧ l.length ≤ 20 := ⟨_, rfl, by simp; omega⟩
  have q1x : ∀ w, Calls Tryd.prog 7 #[.string ⟨s.toArray⟩, .int .i64 20] w fun e w' => e = .returned (.string ⟨l.toArray⟩) ∧ w = w' := fun w => by rw [hl]; exact short_any s 20 w hs (by omega)
  obtain ⟨S, hS⟩ : ∃ S : ByteArray, S = ⟨l.toArray⟩ := ⟨_, rfl⟩
  rw [← hS] at q1x
  have hSz : S.size = l.length := by rw [hS, str_size]
  have Q1 := Lib.hid q1x
  have HS := Lib.hid hS
  have HLL := Lib.hid hll
  have HSZ := Lib.hid hSz
  have HG := Lib.hid (hg.fr ((Fr.refl noneOf w).alloc (.cells #[.int .i64 q0, .int .i64 q1] 22)))
  have HB0 := Lib.hid (Blk.new w 22 #[.int .i64 q0, .int .i64 q1])
  clear q1x hl hS hs hg hll hSz _hq0 _hq1 _hc0 _hc1
  go_enter Tryd.func3, Tryd.ntmps3
  go_upto_region 6 with (first
    | (go_at_call 6; (with_reducible refine (awake_any _).mono ?_); rintro e w1 ⟨rfl, hf1⟩)
    | (go_at_call 7; (with_reducible refine (Q1.out _).mono ?_); rintro e w' ⟨rfl, rfl⟩)
    | (go_at_call 8; (with_reducible refine (of_any S _).mono ?_); rintro e w2 ⟨b, rfl, hR, hf2, hb2⟩; have HR0 := Lib.hid hR; clear hR))
  obtain ⟨W0, hW0⟩ : ∃ W0, W0 = w.alloc (.cells #[.int .i64 q0, .int .i64 q1] 22) := ⟨_, rfl⟩
  have HFW := Lib.hid ((Fr.refl noneOf w).alloc (.cells #[.int .i64 q0, .int .i64 q1] 22))
  have hff := hf1.trans hf2
  have hW0b : W0.heap.size ≤ b := by rw [hW0]; have := hf1.size; omega
  rw [← hW0] at HG HB0 HFW hff
  obtain ⟨g0, hg0⟩ : ∃ g0, g0 = w.heap.size := ⟨_, rfl⟩
  rw [← hg0] at HB0
  have HF := Lib.hid hff
  have hnew : ∀ y, y < W0.heap.size → justOf b y → noneOf y := fun y hy e => by have : y = b := e; omega
  have HN := Lib.hid hnew
  have hcl : ∀ wx, Fr noneOf W0 wx → wx.cell? ⟨g0, 0, none⟩ = some (.int .i64 q0) ∧ wx.cell? ⟨g0, 1, none⟩ = some (.int .i64 q1) := fun wx hf => ⟨(HB0.out.fr0 hf).cell 0, (HB0.out.fr0 hf).cell 1⟩
  have HCL := Lib.hid hcl
  have HNUM := Lib.hid (fun wx hr => num_any l q0 q1 S b wx HS.out (by have := HLL.out; omega) hr)
  clear hff hf1 hf2 hb2 hW0b hnew hcl hW0
  obtain ⟨c0, c1⟩ := HCL.out _ HF.out
  rw [hg0] at c0 c1
  go_wp2_with (go_at_call 9; (with_reducible refine (HNUM.out _ HR0.out).mono ?_); rintro e w3 ⟨hf3, hres⟩; have hk : Fr noneOf W0 w3 := Fr.trans' (T := justOf b) HF.out hf3 HN.out; rcases hres with ⟨n, k, rfl, hR3, hlo, hhi, hn0, hn1, hkl, he⟩ | ⟨c, rfl, hR3, hc⟩)
  · have HR3 := Lib.hid hR3
    have HK := Lib.hid hk
    have hbytes : ((⟨(put [n]).toArray⟩ : ByteArray)) = S.extract 0 k := by
      apply WideShapes.bytes_inj
      rw [ByteArray.data_extract, HS.out, put_one, he]
      simp [List.extract_eq_take_drop]
    have HPUT : Hid (∀ (A : Option Addr) wx, NumsAt wx A [n] → Calls Tryd.prog 13 #[.slice A 1 1] wx fun e w' => e = .returned (.string (S.extract 0 k)) ∧ Fr noneOf wx w') := Lib.hid (fun A wx h => by
      rw [← hbytes]
      exact put_any A 1 [n] wx h (by simp))
    have hNA : ∀ (g : Nat) wx, g < wx.heap.size → wx.cell? ⟨g, 0, none⟩ = some (.int .i64 n) → NumsAt wx (some ⟨g, 0, none⟩) [n] := fun g wx hl hc => ⟨fun m hm => by simp at hm; omega, fun _ => ⟨g, 0, rfl, hl, fun j m hj => by
      match j, hj with
      | 0, hj => simp at hj; subst hj; exact hc⟩⟩
    have HNA := Lib.hid hNA
    have hkS : (k : Int) ≤ (S.size : Int) := by have := HSZ.out; omega
    have hk0 : (0 : Int) ≤ (k : Int) := by omega
    have hte : ((S.extract 0 k).toList == (S.extract 0 k).toList) = true := by simp
    clear hR3 hk hbytes hNA hn0 hn1 hkl he c0 c1 hf3
    go_upto_region 9 with (first
      | (go_at_call 11; refine (err_ok S k b _ HR3.out).mono ?_; rintro e w4 ⟨rfl, hf4⟩)
      | (go_at_call 10; refine (code_nil _).mono ?_; rintro e w5 ⟨rfl, hf5⟩))
    have HR5 := Lib.hid (HR3.out.fr0 (hf4.trans hf5))
    have HF5 := Lib.hid ((HK.out.trans hf4).trans hf5)
    obtain ⟨c0, c1⟩ := HCL.out _ HF5.out
    rw [hg0] at c0 c1
    clear hf4 hf5
    go_wp2_with (first
      | (go_at_call 12; (with_reducible refine (at_row S k b 0 _ HR6.out).mono ?_); rintro e w' ⟨rfl, rfl⟩)
      | (go_at_call 12; (with_reducible refine (at_row S k b 0 _ HR5.out).mono ?_); rintro e w' ⟨rfl, rfl⟩)
      | (go_at_call 13; (with_reducible refine (HPUT.out _ _ (HNA.out _ _ (by simp) (by simp))).mono ?_); rintro e w6 ⟨rfl, hf6⟩; have hf7 := ((Fr.refl noneOf w5).alloc (.cells #[.int .i64 n] 3)).trans hf6; have HR6 := Lib.hid (HR5.out.fr0 hf7)))
    go_ret
    exact ⟨rfl, (HFW.out.trans HF5.out).trans hf7⟩
  · have HK := Lib.hid hk
    have HR3 := Lib.hid hR3
    have hc0 : (c == 0) = false := by rcases hc with rfl | rfl | rfl <;> rfl
    have HG3 := Lib.hid (HG.out.fr hk)
    have hc3 : (c == 10) = true ∨ ((c == 10) = false ∧ (c == 11) = true) ∨ ((c == 10) = false ∧ (c == 11) = false ∧ (c == 16) = true) := by rcases hc with rfl | rfl | rfl <;> decide
    have HC3 := Lib.hid hc3
    have HC0 := Lib.hid hc0
    clear hk hR3 hc hc3 c0 c1 hf3
    go_wp2_with (first
      | (go_at_call 10; refine (code_around g3 c _ _ HG8.out HB8.out).mono ?_; rintro e w9 ⟨rfl, hf9⟩)
      | (go_at_call 16; refine (end_no S 0 b c _ HC0.out HR7.out).mono ?_; rintro e w8 ⟨g3, rfl, hB, hf8⟩; have HB8 := Lib.hid hB; have HG8 := Lib.hid (HG7.out.fr hf8); clear hB)
      | (go_at_call 10; refine (code_around g2 c _ _ HG6.out HB6.out).mono ?_; rintro e w7 ⟨rfl, hf7⟩; have HR7 := Lib.hid (HR5.out.fr0 (hf6.trans hf7)); have HG7 := Lib.hid (HG6.out.fr hf7))
      | (go_at_call 11; refine (err_no S 0 b c _ HC0.out HR5.out).mono ?_; rintro e w6 ⟨g2, rfl, hB, hf6⟩; have HB6 := Lib.hid hB; have HG6 := Lib.hid (HG5.out.fr hf6); clear hB)
      | (go_at_call 11; refine (err_no S 0 b c _ HC0.out HR3.out).mono ?_; rintro e w4 ⟨g, rfl, hB, hf4⟩; have HB4 := Lib.hid hB; have HG4 := Lib.hid (HG3.out.fr hf4); clear hB)
      | (go_at_call 10; refine (code_around g c _ _ HG4.out HB4.out).mono ?_; rintro e w5 ⟨rfl, hf5⟩; have HR5 := Lib.hid (HR3.out.fr0 (hf4.trans hf5)); have HG5 := Lib.hid (HG4.out.fr hf5))
      | (go_at_call 14; refine (fail_again S 0 b c _ _ HC0.out HR5.out).mono ?_; rintro e w' ⟨rfl, rfl⟩)
      | (go_at_call 9; refine (num_no S 0 b c _ _ _ HC0.out HR5.out).mono ?_; rintro e w' ⟨rfl, rfl⟩; rcases HC3.out with k1 | ⟨k1, k2⟩ | ⟨k1, k2, k3⟩)
      | (go_at_call 15; refine (text_no S 0 b c _ _ HC0.out HR5.out).mono ?_; rintro e w' ⟨rfl, rfl⟩)
      | (go_at_call 12; refine (at_row S 0 b c _ HR5.out).mono ?_; rintro e w' ⟨rfl, rfl⟩))
    all_goals
      go_ret
      exact ⟨rfl, (((((HFW.out.trans HK.out).trans hf4).trans hf5).trans hf6).trans hf7 |>.trans hf8).trans hf9⟩
end Go.Proofs.YtijcochanobpgaaDoor
