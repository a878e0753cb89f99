/-
  CheckTells: the law's own walk.
-/
import Derived.Test.YtnbabfggndgfiaaDoorTells
namespace Go.Proofs.YtnbabfggndgfiaaDoor
open Go.RowKit Crc
set_option linter.unusedVariables false

theorem and_le (n : Int) (m : Nat) (hm : m ≤ 1000) : ∃ q : Nat, bits .and .i64 n (m : Int) = (q : Int) ∧ q ≤ m := by
  have h1 : bits .and .i64 n (m : Int) = IntKind.i64.wrap ((BitVec.ofInt 64 n &&& BitVec.ofInt 64 (m : Int)).toNat : Int) := rfl
  have h2 : (BitVec.ofInt 64 n &&& BitVec.ofInt 64 (m : Int)).toNat ≤ m := by
    rw [BitVec.toNat_and]
    refine Nat.le_trans Nat.and_le_right ?_
    simp
    omega
  refine ⟨_, ?_, h2⟩
  rw [h1, IntKind.wrap_i64]
  omega
theorem byte_info : (Tryd.prog.info? 5).map (fun i => (i.zero, i.size, i.bytes)) = some (some (.int .u8 0), 1, 1) := by kernel_rfl
def fillL (c : UInt8) (n k : Nat) : List UInt8 := List.replicate k c ++ List.replicate (n - k) 0
theorem fillL_len (c : UInt8) (n k : Nat) (h : k ≤ n) : (fillL c n k).length = n := by simp [fillL]; omega
theorem fillL_set (c : UInt8) (n k : Nat) (h : k < n) : (bytesV (fillL c n k)).set k (V8 c) = bytesV (fillL c n (k + 1)) := by
  unfold bytesV
  rw [← List.map_set]
  congr 1
  unfold fillL
  rw [show n - k = (n - (k + 1)) + 1 by omega, List.replicate_succ, List.set_append_right _ _ (by simp)]
  simp [List.replicate_succ']
set_option maxRecDepth 100000 in
set_option maxHeartbeats 2000000 in
theorem checkTells_any (s : ByteArray) (long : Int) (c : UInt8) (w : World) (hs : s.size ≤ 9223372036854775807) (_h0 : -9223372036854775808 ≤ long) (_h1 : long ≤ 9223372036854775807) (hg : errT w) :
    Calls Tryd.prog 3 #[.string s, .int .i64 long, .int .u8 (c.toNat : Int)] w fun e w' => e = .returned (.bool true) ∧ Fr noneOf w w' := by
  obtain ⟨t, ht⟩ : ∃ t, t = cut s 300 := ⟨_, rfl⟩
  have htz : t.size ≤ 300 := by rw [ht, cut_size]; omega
  have hq1 : ∀ w, Calls Tryd.prog 7 #[.string s, .int .i64 300] w fun e w' => e = .returned (.string t) ∧ w = w' := fun w => by rw [ht]; exact short_any s 300 w hs (by omega)
  have Q1 := Lib.hid hq1
  have Q2 := Lib.hid (fun w => sumint_any t w (by omega))
  have Q3 := Lib.hid (fun w => refsum_any t w (by omega))
  have Q4 := Lib.hid (fun w hg => tells_any t w (by omega) hg)
  have HG := Lib.hid hg
  obtain ⟨q, hq, hq15⟩ := and_le long 15 (by omega)
  have hq' : bits .and .i64 long 15 = (q : Int) := hq
  obtain ⟨n, hn⟩ : ∃ n, n = 4090 + q := ⟨_, rfl⟩
  have hnI : 4090 + (q : Int) = (n : Int) := by omega
  have hn0 : 0 < n := by omega
  have hnz : n ≤ 4105 := by omega
  obtain ⟨i0, hi, hz0, hz1, hz2⟩ := info_parts byte_info
  clear ht hq1 hs _h0 _h1 hg hq hn
  go_enter Tryd.func3, Tryd.ntmps3
  go_wp2_with (first
    | (go_at_call 6; refine (awake_any _).mono ?_; rintro e w1 ⟨rfl, hf1⟩)
    | (go_at_call 7; (with_reducible refine (Q1.out _).mono ?_); rintro e w' ⟨rfl, rfl⟩)
    | (refine wpList_make_row _ rfl _ _ 24 rfl 5 i0 (.int .u8 0) Tryd.underlying24 hi hz0 hz1 rfl .i64 .i64 n rfl rfl (by rw [hz2]; omega) (by omega) ?_))
  have hsz1 := hf1.size
  obtain ⟨g, hgg⟩ : ∃ g, g = w1.heap.size := ⟨_, rfl⟩
  have hrow : Row (w1.alloc (.cells (madeCells #[.int .u8 0] n) 5)) g (bytesV (fillL c n 0)) := by
    have := Row.of_blk (Blk.new w1 5 (madeCells #[.int .u8 0] n))
    rw [toList_madeCells_one, ← hgg] at this
    simpa [bytesV, fillL, V8] using this
  have hgw : w.heap.size ≤ g := by omega
  have HF0 := Lib.hid (hf1.alloc (.cells (madeCells #[.int .u8 0] n) 5))
  have HR0 := Lib.hid hrow
  rw [← hgg]
  clear hrow hgg hf1 hsz1
  go_loopw [9] (fun v9 wr => ∃ k : Nat, k ≤ n ∧ v9 = .int .i64 k ∧ Row wr g (bytesV (fillL c n k)) ∧ Fr noneOf w wr) (fun v9 _ => n - (intOf v9).toNat)
  case atStart => exact ⟨0, by omega, rfl, HR0.out, HF0.out⟩
  case round =>
    obtain ⟨k, hk, rfl, hr, hf⟩ := hrel
    have hln := fillL_len c n k hk
    by_cases hlt : k < n
    · have f1 := hr.free k (by simp [bytesV, hln]; omega)
      obtain ⟨y, hy⟩ : ∃ y, (fillL c n k)[k]? = some y := ⟨(fillL c n k)[k]'(by omega), List.getElem?_eq_getElem _⟩
      have c1 : wr.cell? ⟨g, k, none⟩ = some (.int .u8 (y.toNat : Int)) := hr.cell k (V8 y) (by simp [bytesV, hy])
      have hr2 := hr.set_ k (by simp [bytesV, hln]; omega) (V8 c)
      rw [fillL_set c n k hlt] at hr2
      have HR2 := Lib.hid hr2
      have HF2 := Lib.hid (Fr.setCell (p := ⟨g, k, none⟩) hf (.inr hgw) (V8 c))
      have hkI : (k : Int) < (n : Int) := by omega
      have hk0 : (0 : Int) ≤ (k : Int) := by omega
      clear hr hf hr2 hy hln
      go_wp2
      go_roundw
      case rel => exact ⟨k + 1, by omega, by go_num, HR2.out, HF2.out⟩
      case measure => simp [intOf]; omega
    · have hkk : k = n := by omega
      obtain ⟨l, hl⟩ : ∃ l, l = fillL c n k := ⟨_, rfl⟩
      rw [← hl] at hr hln
      have HR := Lib.hid hr
      have HF := Lib.hid hf
      have HLN := Lib.hid hln
      have Q5 := Lib.hid (fun w hg => tells_any ⟨l.toArray⟩ w (by rw [size_mk]; omega) hg)
      have HCV := Lib.hid (fun (w2 : World) (hr : Row w2 g (bytesV l)) => (show (convert 24 9 (.slice (some ⟨g, 0, none⟩) k k)).run Tryd.prog w2 = .ok (.string ⟨l.toArray⟩) w2 from by
        have := run_bytes_back hr (P := Tryd.prog) 24 9 5 Tryd.underlying24 Tryd.underlying5 Tryd.underlying9 k
        rw [hln, ← hkk] at this
        exact this))
      clear hr hf hl hln
      subst hkk
      go_wp2_with (first
        | (go_at_call 8; (with_reducible refine (Q4.out _ (HG.out.fr HF.out)).mono ?_); rintro e w2 ⟨rfl, hf2⟩; have HF2 := Lib.hid (HF.out.trans hf2); have hcv := HCV.out w2 (HR.out.fr hf2 (fun x => x)))
        | (go_at_call 8; (with_reducible refine (Q5.out _ (HG.out.fr HF2.out)).mono ?_); rintro e w3 ⟨rfl, hf3⟩)
        | (go_at_call 9; (with_reducible refine (Q2.out _).mono ?_); rintro e w4 ⟨rfl, hf4⟩)
        | (go_at_call 10; (with_reducible refine (Q3.out _).mono ?_); rintro e w' ⟨rfl, rfl⟩))
      go_ret
      exact ⟨rfl, (HF2.out.trans hf3).trans hf4⟩
end Go.Proofs.YtnbabfggndgfiaaDoor
