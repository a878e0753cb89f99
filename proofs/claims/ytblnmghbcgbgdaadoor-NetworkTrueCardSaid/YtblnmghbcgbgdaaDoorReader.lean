/-
  Contracts of package nums's Row, where what was put is read.
-/
import Derived.Test.YtblnmghbcgbgdaaDoorNumber
import Derived.Deep.RegionHeld3
namespace Go.Proofs.YtblnmghbcgbgdaaDoor
open Go.RowKit Nums
set_option linter.unusedVariables false

theorem xor_i64_zero (n : Int) (h0 : -9223372036854775808 ≤ n) (h1 : n ≤ 9223372036854775807) : bits .xor .i64 n 0 = n := by
  show IntKind.i64.wrap ((BitVec.ofInt 64 n ^^^ BitVec.ofInt 64 0).toNat : Int) = n
  rw [show BitVec.ofInt 64 0 = 0#64 from rfl, BitVec.xor_zero, IntKind.wrap_i64, BitVec.toNat_ofInt]
  omega
theorem xor_i64_ones (n : Int) (h0 : -9223372036854775808 ≤ n) (h1 : n ≤ 9223372036854775807) : bits .xor .i64 n (-1) = -n - 1 := by
  show IntKind.i64.wrap ((BitVec.ofInt 64 n ^^^ BitVec.ofInt 64 (-1)).toNat : Int) = -n - 1
  have e : BitVec.ofInt 64 (-1) = BitVec.allOnes 64 := by decide
  rw [e, BitVec.xor_allOnes, BitVec.toNat_not, BitVec.toNat_ofInt, IntKind.wrap_i64]
  omega
theorem and1_u64 (u : Nat) (hu : u < 18446744073709551616) : bits .and .u64 (u : Int) 1 = ((u % 2 : Nat) : Int) := by
  show IntKind.u64.wrap ((BitVec.ofInt 64 (u : Int) &&& BitVec.ofInt 64 1).toNat : Int) = _
  have e : (BitVec.ofInt 64 (u : Int)).toNat = u := by rw [BitVec.ofInt_natCast, BitVec.toNat_ofNat]; exact Nat.mod_eq_of_lt hu
  rw [BitVec.toNat_and, e, show (BitVec.ofInt 64 1).toNat = 1 from by decide, Nat.and_one_is_mod]
  exact wrap_u64_nat _ (by omega)
theorem fold_half (n : Int) : (0 ≤ n ∧ (fold n) / 2 = n.toNat ∧ fold n % 2 = 0) ∨ (n < 0 ∧ (fold n) / 2 = (-n - 1).toNat ∧ fold n % 2 = 1) := by
  unfold fold
  split
  · exact .inl (by omega)
  · exact .inr (by omega)
theorem unfold_fold (n : Int) (w : World) (h0 : -9223372036854775808 ≤ n) (h1 : n ≤ 9223372036854775807) :
    Calls Tryd.prog 87 #[.int .u64 (fold n : Int)] w fun e w' => e = .returned (.int .i64 n) ∧ w = w' := by
  obtain ⟨u, hu⟩ : ∃ u, u = fold n := ⟨_, rfl⟩
  have hlt := fold_lt h0 h1
  have hh := fold_half n
  rw [← hu] at hlt hh ⊢
  have ha := and1_u64 u hlt
  rcases hh with ⟨a, b, c⟩ | ⟨a, b, c⟩
  · have hd : (u : Int) / 2 = n := by omega
    rw [c] at ha
    have ha' : bits .and .u64 (u : Int) 1 = 0 := ha
    have hx := xor_i64_zero n h0 h1
    have HB0 := Lib.hid h0
    clear hu hlt b c ha
    go_enter Tryd.func87, Tryd.ntmps87
    go_wp2
    go_ret
    exact ⟨rfl, rfl⟩
  · obtain ⟨m, hm⟩ : ∃ m : Int, m = -n - 1 := ⟨_, rfl⟩
    have hd : (u : Int) / 2 = m := by omega
    rw [c] at ha
    have ha' : bits .and .u64 (u : Int) 1 = 1 := ha
    have hx := xor_i64_ones m (by omega) (by omega)
    rw [show -m - 1 = n by omega] at hx
    have hm0 : 0 ≤ m := by omega
    have hm1 : m ≤ 9223372036854775807 := by omega
    clear hu hlt b c ha hm h0 h1
    go_enter Tryd.func87, Tryd.ntmps87
    go_wp2
    go_ret
    exact ⟨rfl, rfl⟩

/-- BLOCK b IS A ROW: its text, where it stands, its code. -/
def Rw (s : ByteArray) (p : Nat) (c : Int) (b : Nat) (w : World) : Prop := Blk w b 118 #[.string s, .int .i64 (p : Int), .int .i64 c]
theorem works_yes (s : ByteArray) (p b : Nat) (w : World) (h : Rw s p 0 b w) : Calls Tryd.prog 69 #[.pointer (some ⟨b, 0, none⟩)] w fun e w' => e = .returned (.bool true) ∧ w = w' := by
  have c2 : w.cell? ⟨b, 2, none⟩ = some (.int .i64 0) := h.cell 2
  clear h
  go_enter Tryd.func69, Tryd.ntmps69
  go_wp2
  go_ret
  exact ⟨rfl, rfl⟩
theorem fail_ok (s : ByteArray) (p b : Nat) (w : World) (h : Rw s p 0 b w) : Calls Tryd.prog 66 #[.pointer (some ⟨b, 0, none⟩), .int .i64 0] w fun e w' => e = .returned (.tuple #[]) ∧ Rw s p 0 b w' ∧ Fr (justOf b) w w' := by
  have c2 : w.cell? ⟨b, 2, none⟩ = some (.int .i64 0) := h.cell 2
  have f2 := h.frozen 2
  have H := Lib.hid h
  clear h
  go_enter Tryd.func66, Tryd.ntmps66
  go_wp2_with (go_at_call 69; refine (works_yes s p b _ H.out).mono ?_; rintro e w' ⟨rfl, rfl⟩)
  go_end0
  exact ⟨rfl, H.out.set_ 2 (.int .i64 0), Fr.put b 2 _ (Fr.refl _ _)⟩
theorem drop_str (pre l : List UInt8) (s : ByteArray) (hs : s.data.toList = pre ++ l) : s.extract pre.length s.size = ⟨l.toArray⟩ := by
  have hsz : s.size = pre.length + l.length := by
    have := congrArg List.length hs
    simpa using this
  apply WideShapes.bytes_inj
  rw [ByteArray.data_extract]
  simp [hs, hsz]
set_option maxHeartbeats 1000000 in
theorem num_good (pre rest : List UInt8) (n : Int) (lo hi : Int) (s : ByteArray) (b : Nat) (w : World) (hs : s.data.toList = pre ++ (enc (fold n) ++ rest)) (hsz : s.size ≤ 100000) (h0 : -9223372036854775808 ≤ n) (h1 : n ≤ 9223372036854775807) (hlo : lo ≤ n) (hhi : n ≤ hi) (h : Rw s pre.length 0 b w) :
    Calls Tryd.prog 67 #[.pointer (some ⟨b, 0, none⟩), .int .i64 lo, .int .i64 hi] w fun e w' => e = .returned (.int .i64 n) ∧ Rw s (pre.length + (enc (fold n)).length) 0 b w' ∧ Fr (justOf b) w w' := by
  have hlen : s.size = pre.length + ((enc (fold n)).length + rest.length) := by
    have := congrArg List.length hs
    simpa using this
  have hx := drop_str pre _ s hs
  have HN := Lib.hid (fun w => number_enc (fold n) (fold_lt h0 h1) rest w (by rw [List.length_append]; omega))
  have HU := Lib.hid (fun w => unfold_fold n w h0 h1)
  obtain ⟨p, hp⟩ : ∃ p, p = pre.length := ⟨_, rfl⟩
  obtain ⟨q, hq⟩ : ∃ q, q = (enc (fold n)).length := ⟨_, rfl⟩
  obtain ⟨t, ht⟩ : ∃ t : ByteArray, t = ⟨(enc (fold n) ++ rest).toArray⟩ := ⟨_, rfl⟩
  rw [← ht] at hx HN
  rw [← hq] at HN
  rw [← hp] at h hx hlen
  rw [← hp, ← hq]
  have c0 : w.cell? ⟨b, 0, none⟩ = some (.string s) := h.cell 0
  have c1 : w.cell? ⟨b, 1, none⟩ = some (.int .i64 (p : Int)) := h.cell 1
  have H := Lib.hid h
  obtain ⟨u, hu⟩ : ∃ u : Int, u = (fold n : Int) := ⟨_, rfl⟩
  rw [← hu] at HN HU
  have hps : p ≤ s.size := by omega
  have hp0 : (0 : Int) ≤ (p : Int) := by omega
  have hpI : (p : Int) ≤ (s.size : Int) := by omega
  have hpq : (p : Int) + (q : Int) ≤ 100000 := by rw [hq]; omega
  have hnl : ¬ n < lo := by omega
  have hnh : ¬ hi < n := by omega
  clear hs hsz h0 h1 h hp hq ht hu hlen hlo hhi
  go_enter Tryd.func67, Tryd.ntmps67
  go_wp2_with (go_at_call 69; refine (works_yes s p b _ H.out).mono ?_; rintro e w' ⟨rfl, rfl⟩)
  go_quiet ((go_at_call 86; exact Calls.quiet_of_same ((HN.out _).mono fun _ _ ⟨h1, h2⟩ => ⟨h1, h2.symm⟩)))
  have HD := Lib.hid (H.out.fr0 ((Fr.refl noneOf w).drewN nq))
  go_wp2_with (first
    | (go_at_call 87; refine (HU.out _).mono ?_; rintro e w' ⟨rfl, rfl⟩)
    | (go_at_call 66; refine (fail_ok s p b _ HD.out).mono ?_; rintro e w2 ⟨rfl, hR, hf2⟩; have d1 : w2.cell? ⟨b, 1, none⟩ = some (.int .i64 (p : Int)) := hR.cell 1; have e1 := hR.frozen 1; have HR := Lib.hid hR; clear hR))
  go_ret
  refine ⟨rfl, ?_, Fr.put b 1 _ (Fr.trans (Fr.of0 _ ((Fr.refl noneOf w).drewN nq)) hf2)⟩
  have := HR.out.set_ 1 (.int .i64 ((p : Int) + (q : Int)))
  show Blk _ b 118 #[.string s, .int .i64 ((p + q : Nat) : Int), .int .i64 0]
  rw [Int.natCast_add]
  exact this
/-- Count and Num from 0. -/
theorem count_good (pre rest : List UInt8) (n : Nat) (hi : Int) (s : ByteArray) (b : Nat) (w : World) (hs : s.data.toList = pre ++ (enc (fold (n : Int)) ++ rest)) (hsz : s.size ≤ 100000) (hn : n ≤ 2000000000) (hhi : (n : Int) ≤ hi) (h : Rw s pre.length 0 b w) :
    Calls Tryd.prog 64 #[.pointer (some ⟨b, 0, none⟩), .int .i64 hi] w fun e w' => e = .returned (.int .i64 (n : Int)) ∧ Rw s (pre.length + (enc (fold (n : Int))).length) 0 b w' ∧ Fr (justOf b) w w' := by
  have HC := Lib.hid (num_good pre rest (n : Int) 0 hi s b w hs hsz (by omega) (by omega) (by omega) hhi h)
  clear hs hsz hn hhi h
  go_enter Tryd.func64, Tryd.ntmps64
  go_wp2_with (go_at_call 67; refine HC.out.mono ?_; rintro e w2 ⟨rfl, hR, hf2⟩)
  go_ret
  exact ⟨rfl, hR, hf2⟩
theorem mid_str (pre t rest : List UInt8) (s : ByteArray) (hs : s.data.toList = pre ++ (t ++ rest)) : s.extract pre.length (pre.length + t.length) = ⟨t.toArray⟩ := by
  apply WideShapes.bytes_inj
  rw [ByteArray.data_extract]
  simp [hs]
set_option maxHeartbeats 1000000 in
theorem text_good (pre t rest : List UInt8) (hi : Int) (s : ByteArray) (b : Nat) (w : World) (hs : s.data.toList = pre ++ (putText t ++ rest)) (hsz : s.size ≤ 100000) (hhi : (t.length : Int) ≤ hi) (h : Rw s pre.length 0 b w) :
    Calls Tryd.prog 68 #[.pointer (some ⟨b, 0, none⟩), .int .i64 hi] w fun e w' => e = .returned (.string ⟨t.toArray⟩) ∧ Rw s (pre.length + (putText t).length) 0 b w' ∧ Fr (justOf b) w w' := by
  have hs2 : s.data.toList = pre ++ (enc (fold (t.length : Int)) ++ (t ++ rest)) := by rw [hs, putText, List.append_assoc]
  have hlen : s.size = pre.length + ((enc (fold (t.length : Int))).length + (t.length + rest.length)) := by
    have := congrArg List.length hs2
    simpa using this
  have hx := mid_str (pre ++ enc (fold (t.length : Int))) t rest s (by rw [hs2, List.append_assoc])
  have hpt : (putText t).length = (enc (fold (t.length : Int))).length + t.length := by rw [putText, List.length_append]
  have HC := Lib.hid (count_good pre (t ++ rest) t.length hi s b w hs2 hsz (by omega) hhi h)
  rw [List.length_append] at hx
  obtain ⟨p, hp⟩ : ∃ p, p = pre.length := ⟨_, rfl⟩
  obtain ⟨q, hq⟩ : ∃ q, q = (enc (fold (t.length : Int))).length := ⟨_, rfl⟩
  obtain ⟨n, hn⟩ : ∃ n, n = t.length := ⟨_, rfl⟩
  obtain ⟨x, hxx⟩ : ∃ x : ByteArray, x = ⟨t.toArray⟩ := ⟨_, rfl⟩
  rw [← hq, ← hp, ← hn] at HC
  rw [← hq, ← hp, ← hn, ← hxx] at hx
  rw [← hp] at h
  rw [hpt, ← hq, ← hp, ← hn, ← hxx]
  rw [← hq, ← hp, ← hn] at hlen
  have H := Lib.hid h
  have c1 : w.cell? ⟨b, 1, none⟩ = some (.int .i64 (p : Int)) := h.cell 1
  have hle : (p : Int) + (q : Int) + (n : Int) ≤ (s.size : Int) := by omega
  have hszI : (s.size : Int) ≤ 100000 := by omega
  have hp0 : (0 : Int) ≤ (p : Int) := by omega
  have hq0 : (0 : Int) ≤ (q : Int) := by omega
  have hn0 : (0 : Int) ≤ (n : Int) := by omega
  have HLE := Lib.hid hlen
  clear hs hsz hhi h hs2 hlen hpt hp hq hn hxx
  go_enter Tryd.func68, Tryd.ntmps68
  go_wp2_with (first
    | (go_at_call 69; refine (works_yes s p b _ H.out).mono ?_; rintro e w' ⟨rfl, rfl⟩)
    | (go_at_call 64; refine HC.out.mono ?_; rintro e w2 ⟨rfl, hR, hf2⟩; have d0 : w2.cell? ⟨b, 0, none⟩ = some (.string s) := hR.cell 0; have d1 : w2.cell? ⟨b, 1, none⟩ = some (.int .i64 ((p + q : Nat) : Int)) := hR.cell 1; have HR := Lib.hid hR; have HF := Lib.hid hf2; clear hR hf2))
  have hdif : (0 : Int) ≤ (s.size : Int) - ((p : Int) + (q : Int)) := by omega
  have hwr : IntKind.i64.wrap ((s.size : Int) - ((p : Int) + (q : Int))) = (s.size : Int) - ((p : Int) + (q : Int)) := by rw [IntKind.wrap_i64]; omega
  have hnle : ¬ (s.size : Int) - ((p : Int) + (q : Int)) < (n : Int) := by omega
  go_quiet (fail)
  clear hwr hdif
  have HR2 := Lib.hid (HR.out.fr0 ((Fr.refl noneOf w2).drewN nq))
  have e1 := HR2.out.frozen 1
  have HS3 := Lib.hid (HR2.out.set_ 1 (.int .i64 ((p : Int) + (q : Int) + (n : Int))))
  have k0 : ((w2.drewN nq).setCell ⟨b, 1, none⟩ (.int .i64 ((p : Int) + (q : Int) + (n : Int)))).cell? ⟨b, 0, none⟩ = some (.string s) := HS3.out.cell 0
  have k1 : ((w2.drewN nq).setCell ⟨b, 1, none⟩ (.int .i64 ((p : Int) + (q : Int) + (n : Int)))).cell? ⟨b, 1, none⟩ = some (.int .i64 ((p : Int) + (q : Int) + (n : Int))) := HS3.out.cell 1
  go_wp2_with (go_at_call 69; refine (works_yes s (p + q) b _ HR2.out).mono ?_; rintro e w' ⟨rfl, rfl⟩)
  have g1 : IntKind.i64.wrap ((p : Int) + (q : Int) + (n : Int) - (n : Int)) = (p : Int) + (q : Int) := by rw [IntKind.wrap_i64]; omega
  have g2 : IntKind.i64.wrap ((p : Int) + (q : Int)) = (p : Int) + (q : Int) := by rw [IntKind.wrap_i64]; omega
  have g3 : ((p : Int) + (q : Int)).toNat = p + q := by omega
  have g4 : ((p : Int) + (q : Int) + (n : Int)).toNat = p + q + n := by omega
  have g5 : (0 : Int) ≤ (p : Int) + (q : Int) := by omega
  have g6 : (0 : Int) ≤ (p : Int) + (q : Int) + (n : Int) := by omega
  have g7 : (p : Int) + (q : Int) ≤ (p : Int) + (q : Int) + (n : Int) := by omega
  clear hszI hnle
  go_quiet (fail)
  clear g1 g2 g3 g4 g5 g6 g7
  go_wp2
  go_ret
  refine ⟨rfl, ?_, ?_⟩
  · have := HS3.out
    show Blk _ b 118 #[.string s, .int .i64 ((p + (q + n) : Nat) : Int), .int .i64 0]
    rw [show ((p + (q + n) : Nat) : Int) = (p : Int) + (q : Int) + (n : Int) by omega]
    exact this.fr0 ((Fr.refl _ _).drewN _)
  · exact (Fr.put b 1 _ ((HF.out).drewN _)).drewN _
end Go.Proofs.YtblnmghbcgbgdaaDoor
