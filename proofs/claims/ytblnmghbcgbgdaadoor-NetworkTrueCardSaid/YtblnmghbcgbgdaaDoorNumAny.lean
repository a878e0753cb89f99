/-
  Contract of package nums's number: any text.
-/
import Derived.Test.YtblnmghbcgbgdaaDoorReader
namespace Go.Proofs.YtblnmghbcgbgdaaDoor
open Go.RowKit Nums
set_option linter.unusedVariables false

/-- THE FIRST k BYTES, all of them with more to come, make a. -/
def Dg (l : List UInt8) (k a : Nat) : Prop := a < 128 ^ k ∧ ∀ d, (0 < d ∨ k = 0) → enc (a + d * 128 ^ k) = l.take k ++ enc d
theorem dg_zero (l : List UInt8) : Dg l 0 0 := ⟨by simp, fun d _ => by simp⟩
theorem dg_step {l : List UInt8} {k a : Nat} {b : UInt8} (h : Dg l k a) (hb : l[k]? = some b) (hm : 128 ≤ b.toNat) : Dg l (k + 1) (a + (b.toNat - 128) * 128 ^ k) := by
  obtain ⟨hl, hbe⟩ := List.getElem?_eq_some_iff.1 hb
  have hb2 := b.toNat_lt
  obtain ⟨d, hd⟩ : ∃ d, b.toNat = d + 128 := ⟨b.toNat - 128, by omega⟩
  have hd2 : d < 128 := by omega
  rw [show b.toNat - 128 = d by omega]
  have hp : 0 < 128 ^ k := Nat.pow_pos (by omega)
  refine ⟨?_, fun x hx => ?_⟩
  · have := h.1
    rw [Nat.pow_succ]
    have : d * 128 ^ k ≤ 127 * 128 ^ k := Nat.mul_le_mul_right _ (by omega)
    omega
  · have hx0 : 0 < x := by omega
    have e : a + d * 128 ^ k + x * 128 ^ (k + 1) = a + (d + 128 * x) * 128 ^ k := by
      rw [Nat.pow_succ, Nat.add_mul, Nat.mul_comm 128 x, Nat.mul_assoc x 128, Nat.mul_comm 128 (128 ^ k), Nat.add_assoc]
    rw [e, h.2 _ (.inl (by omega)), enc_ge (by omega), List.take_succ_eq_append_getElem hl, hbe, List.append_assoc]
    have e1 : (d + 128 * x) % 128 = d := by omega
    have e2 : (d + 128 * x) / 128 = x := by omega
    rw [e1, e2]
    have e3 : UInt8.ofNat (d + 128) = b := by rw [← hd]; exact UInt8.ofNat_toNat
    rw [e3]
    rfl
theorem dg_end {l : List UInt8} {k a : Nat} {b : UInt8} (h : Dg l k a) (hb : l[k]? = some b) (hm : b.toNat < 128) (hz : 0 < b.toNat ∨ k = 0) : enc (a + b.toNat * 128 ^ k) = l.take (k + 1) := by
  obtain ⟨hl, hbe⟩ := List.getElem?_eq_some_iff.1 hb
  rw [h.2 _ hz, enc_lt hm, List.take_succ_eq_append_getElem hl, hbe]
  rw [UInt8.ofNat_toNat]
theorem u64_range (x : Int) : 0 ≤ IntKind.u64.wrap x ∧ IntKind.u64.wrap x < 18446744073709551616 := by rw [IntKind.wrap_u64]; omega
theorem or_range (a x : Int) : 0 ≤ bits .or .u64 a x ∧ bits .or .u64 a x < 18446744073709551616 := by
  show 0 ≤ IntKind.u64.wrap ((BitVec.ofInt 64 a ||| BitVec.ofInt 64 x).toNat : Int) ∧ IntKind.u64.wrap ((BitVec.ofInt 64 a ||| BitVec.ofInt 64 x).toNat : Int) < _
  exact u64_range _
theorem pow_bound {a k d : Nat} (hk : k ≤ 9) (ha : a < 128 ^ k) (hd : d < 128) (h9 : k = 9 → d ≤ 1) : a + d * 128 ^ k < 18446744073709551616 := by
  by_cases h : k = 9
  · have := h9 h
    subst h
    have : d * 128 ^ 9 ≤ 1 * 128 ^ 9 := Nat.mul_le_mul_right _ this
    omega
  · have h1 : d * 128 ^ k ≤ 127 * 128 ^ k := Nat.mul_le_mul_right _ (by omega)
    have h2 : 128 ^ k ≤ 128 ^ 8 := Nat.pow_le_pow_right (by omega) (by omega)
    omega
/-- What the bits make: x is what is put there, y what comes out. -/
theorem put_any_bits (a d k : Nat) : ∃ X Y : Int, IntKind.u64.wrap ((d : Int) * 2 ^ (7 * k)) = X ∧ bits .or .u64 (a : Int) X = Y ∧ 0 ≤ Y ∧ Y < 18446744073709551616 ∧ (a < 128 ^ k → a + d * 128 ^ k < 18446744073709551616 → Y = ((a + d * 128 ^ k : Nat) : Int)) := by
  refine ⟨_, _, rfl, rfl, (or_range _ _).1, (or_range _ _).2, fun ha hs => ?_⟩
  obtain ⟨e1, e2⟩ := put_bits a d k ha hs
  rw [e1, e2]
theorem ok_end {l : List UInt8} {k a v d : Nat} {b : UInt8} {Y : Int} (hD : Dg l k a) (hb : l[k]? = some b) (hbv : b.toNat = v) (hd : d = v % 128) (hk : k ≤ 9) (h9 : k = 9 → d ≤ 1) (hv : v < 128) (hz : 0 < v ∨ k = 0)
    (hY : a < 128 ^ k → a + d * 128 ^ k < 18446744073709551616 → Y = ((a + d * 128 ^ k : Nat) : Int)) : enc Y.toNat = l.take (k + 1) := by
  have h1 := pow_bound hk hD.1 (show d < 128 by omega) h9
  rw [hY hD.1 h1, Int.toNat_natCast]
  have : d = b.toNat := by omega
  rw [this]
  exact dg_end hD hb (by omega) (by omega)
theorem go_on {l : List UInt8} {k a v d : Nat} {b : UInt8} {Y : Int} (hD : Dg l k a) (hb : l[k]? = some b) (hbv : b.toNat = v) (hd : d = v % 128) (hk : k ≤ 9) (h9 : k = 9 → d ≤ 1) (hv : 128 ≤ v)
    (hY : a < 128 ^ k → a + d * 128 ^ k < 18446744073709551616 → Y = ((a + d * 128 ^ k : Nat) : Int)) : ∃ x : Nat, Y = (x : Int) ∧ Dg l (k + 1) x := by
  have hb2 := b.toNat_lt
  have h1 := pow_bound hk hD.1 (show d < 128 by omega) h9
  refine ⟨_, hY hD.1 h1, ?_⟩
  have : d = b.toNat - 128 := by omega
  rw [this]
  exact dg_step hD hb (by omega)
set_option maxHeartbeats 2000000 in
set_option maxRecDepth 100000 in
theorem number_any (l : List UInt8) (w : World) (hl : l.length ≤ 100000) :
    Calls Tryd.prog 86 #[.string ⟨l.toArray⟩] w fun e w' => ∃ u sz c : Int, e = .returned (.tuple #[.int .u64 u, .int .i64 sz, .int .i64 c]) ∧ w = w' ∧ 0 ≤ u ∧ u < 18446744073709551616 ∧ ((c = 0 ∧ ∃ k : Nat, sz = (k : Int) ∧ k ≤ l.length ∧ enc u.toNat = l.take k) ∨ (c = 10 ∧ sz = 0) ∨ (c = 11 ∧ sz = 0)) := by
  obtain ⟨s, hs⟩ : ∃ s : ByteArray, s = ⟨l.toArray⟩ := ⟨_, rfl⟩
  have hsz : s.size = l.length := by rw [hs, str_size]
  have hat : ∀ k, (h : k < s.size) → l[k]? = some s[k] := fun k h => by
    subst hs
    have hk : k < l.length := by omega
    rw [List.getElem?_eq_getElem hk]
    rfl
  rw [← hs]
  have HAT := Lib.hid hat
  have HSZ := Lib.hid hsz
  have hszM : s.size ≤ 100000 := by omega
  clear hs hsz hat hl
  obtain ⟨m, hm, hm1, hm2⟩ : ∃ m : Nat, min (s.size : Int) 10 = (m : Int) ∧ m ≤ s.size ∧ m ≤ 10 := ⟨(min (s.size : Int) 10).toNat, by omega, by omega, by omega⟩
  go_enter Tryd.func86, Tryd.ntmps86
  go_wp2
  go_step3
  go_wp2
  go_step3
  go_wp2
  go_loop [2, 3, 4, 11] (fun v2 v3 v4 v11 => ∃ k a : Nat, (k ≤ m ∧ k ≤ 9) ∧ v11 = .int .i64 k ∧ v3 = .int .i64 0 ∧ v4 = .int .i64 11 ∧ v2 = .int .u64 (a : Int) ∧ Dg l k a) (fun _ _ _ v11 => m - (intOf v11).toNat)
  case atStart => exact ⟨0, 0, ⟨by omega, by omega⟩, rfl, rfl, rfl, rfl, dg_zero l⟩
  case round =>
    obtain ⟨k, a, ⟨hk, hk9⟩, rfl, rfl, rfl, rfl, hD⟩ := hrel
    have HD := Lib.hid hD
    have hk0 : (0 : Int) ≤ (k : Int) := by omega
    by_cases hkm : k < m
    · have hks : k < s.size := by omega
      obtain ⟨b, hsk⟩ : ∃ b, s[k] = b := ⟨_, rfl⟩
      have hb := HAT.out k hks
      rw [hsk] at hb
      have HB := Lib.hid hb
      obtain ⟨v, hbv⟩ : ∃ v, b.toNat = v := ⟨_, rfl⟩
      have hv : v < 256 := by have := b.toNat_lt; omega
      have hbI : (b.toNat : Int) = (v : Int) := by rw [hbv]
      obtain ⟨d, hd⟩ : ∃ d, d = v % 128 := ⟨_, rfl⟩
      have e0 : bits .and .u8 (v : Int) 127 = (d : Int) := by rw [and127 v hv, hd]
      have ew := wrap_u64_nat d (by omega)
      obtain ⟨X, Y, e1, e2, hY0, hY1, hY⟩ := put_any_bits a d k
      have hkI : (k : Int) < (m : Int) := by omega
      have HV := Lib.hid hbv
      have HDD := Lib.hid hd
      have HKM := Lib.hid hkm
      have HY := Lib.hid (And.intro hY0 (And.intro hY1 hY))
      have c8 : (((k : Int) == 9) = true ∧ (1 : Int) < (d : Int)) ∨ (((k : Int) == 9) = true ∧ ¬ (1 : Int) < (d : Int) ∧ ¬ (v : Int) < 128) ∨ (((k : Int) == 9) = true ∧ ¬ (1 : Int) < (d : Int) ∧ (v : Int) < 128 ∧ ((v : Int) == 0) = true ∧ (0 : Int) < (k : Int)) ∨ (((k : Int) == 9) = false ∧ ((v : Int) == 0) = true ∧ (0 : Int) < (k : Int)) ∨ (((k : Int) == 9) = true ∧ ¬ (1 : Int) < (d : Int) ∧ (v : Int) < 128 ∧ ((v : Int) == 0) = false) ∨ (((k : Int) == 9) = false ∧ (v : Int) < 128 ∧ ((v : Int) == 0) = true ∧ ¬ (0 : Int) < (k : Int)) ∨ (((k : Int) == 9) = false ∧ (v : Int) < 128 ∧ ((v : Int) == 0) = false) ∨ (((k : Int) == 9) = false ∧ ¬ (v : Int) < 128 ∧ ((v : Int) == 0) = false) := by
        simp only [beq_eq_false_iff_ne, beq_iff_eq, ne_eq]
        omega
      have H8 := Lib.hid c8
      clear c8 hbv hd hb hY hY0 hY1 hD hkm
      rcases H8.out with ⟨q1, q2⟩ | ⟨q1, q2, q3⟩ | ⟨q1, q2, q3, q4, q5⟩ | ⟨q1, q4, q5⟩ | ⟨q1, q2, q3, q4⟩ | ⟨q1, q3, q4, q5⟩ | ⟨q1, q3, q4⟩ | ⟨q1, q3, q4⟩
      · go_wp2
        try rw [Exit.noGoto_ret]
        exact bodyPost_ret (v := .tuple #[.int .u64 Y, .int .i64 0, .int .i64 10]) (by simp [results, Tryd.results86, go_sem]) rfl ⟨Y, 0, 10, rfl, rfl, HY.out.1, HY.out.2.1, .inr (.inl ⟨rfl, rfl⟩)⟩
      · go_wp2
        try rw [Exit.noGoto_ret]
        exact bodyPost_ret (v := .tuple #[.int .u64 Y, .int .i64 0, .int .i64 10]) (by simp [results, Tryd.results86, go_sem]) rfl ⟨Y, 0, 10, rfl, rfl, HY.out.1, HY.out.2.1, .inr (.inl ⟨rfl, rfl⟩)⟩
      · go_wp2
        try rw [Exit.noGoto_ret]
        exact bodyPost_ret (v := .tuple #[.int .u64 Y, .int .i64 0, .int .i64 10]) (by simp [results, Tryd.results86, go_sem]) rfl ⟨Y, 0, 10, rfl, rfl, HY.out.1, HY.out.2.1, .inr (.inl ⟨rfl, rfl⟩)⟩
      · go_wp2
        try rw [Exit.noGoto_ret]
        exact bodyPost_ret (v := .tuple #[.int .u64 Y, .int .i64 0, .int .i64 10]) (by simp [results, Tryd.results86, go_sem]) rfl ⟨Y, 0, 10, rfl, rfl, HY.out.1, HY.out.2.1, .inr (.inl ⟨rfl, rfl⟩)⟩
      · have HO : Hid (enc Y.toNat = l.take (k + 1)) := Lib.hid (ok_end HD.out HB.out HV.out HDD.out (by have := HKM.out; omega) (by intro h9; first | omega | (exfalso; subst h9; simp at q1)) (by omega) (by first | (right; omega) | (left; simp at q4; omega)) HY.out.2.2)
        go_wp2
        try rw [Exit.noGoto_ret]
        exact bodyPost_ret (v := .tuple #[.int .u64 Y, .int .i64 ((k : Int) + 1), .int .i64 0]) (by simp [results, Tryd.results86, go_sem]) rfl ⟨Y, (k : Int) + 1, 0, rfl, rfl, HY.out.1, HY.out.2.1, .inl ⟨rfl, k + 1, rfl, by have := HSZ.out; omega, HO.out⟩⟩
      · have HO : Hid (enc Y.toNat = l.take (k + 1)) := Lib.hid (ok_end HD.out HB.out HV.out HDD.out (by have := HKM.out; omega) (by intro h9; first | omega | (exfalso; subst h9; simp at q1)) (by omega) (by first | (right; omega) | (left; simp at q4; omega)) HY.out.2.2)
        go_wp2
        try rw [Exit.noGoto_ret]
        exact bodyPost_ret (v := .tuple #[.int .u64 Y, .int .i64 ((k : Int) + 1), .int .i64 0]) (by simp [results, Tryd.results86, go_sem]) rfl ⟨Y, (k : Int) + 1, 0, rfl, rfl, HY.out.1, HY.out.2.1, .inl ⟨rfl, k + 1, rfl, by have := HSZ.out; omega, HO.out⟩⟩
      · have HO : Hid (enc Y.toNat = l.take (k + 1)) := Lib.hid (ok_end HD.out HB.out HV.out HDD.out (by have := HKM.out; omega) (by intro h9; first | omega | (exfalso; subst h9; simp at q1)) (by omega) (by first | (right; omega) | (left; simp at q4; omega)) HY.out.2.2)
        go_wp2
        try rw [Exit.noGoto_ret]
        exact bodyPost_ret (v := .tuple #[.int .u64 Y, .int .i64 ((k : Int) + 1), .int .i64 0]) (by simp [results, Tryd.results86, go_sem]) rfl ⟨Y, (k : Int) + 1, 0, rfl, rfl, HY.out.1, HY.out.2.1, .inl ⟨rfl, k + 1, rfl, by have := HSZ.out; omega, HO.out⟩⟩
      · obtain ⟨x, rfl, hDx⟩ := go_on HD.out HB.out HV.out HDD.out (by have := HKM.out; omega) (by intro h9; exfalso; subst h9; simp at q1) (by omega) HY.out.2.2
        have HDX := Lib.hid hDx
        clear hDx HY
        go_wp2
        go_round
        case rel => exact ⟨k + 1, x, ⟨by have := HKM.out; omega, by have := HKM.out; simp at q1; omega⟩, by go_num, rfl, rfl, rfl, HDX.out⟩
        case measure => have := HKM.out; simp [intOf]; omega
    · have hkI : ¬ (k : Int) < (m : Int) := by omega
      have HA : Hid (a < 18446744073709551616) := Lib.hid (by
        have h1 := hD.1
        have h2 : 128 ^ k ≤ 128 ^ 9 := Nat.pow_le_pow_right (by omega) hk9
        omega)
      clear hD
      go_wp2
      try rw [Exit.noGoto_ret]
      exact bodyPost_ret (v := .tuple #[.int .u64 (a : Int), .int .i64 0, .int .i64 11]) (by simp [results, Tryd.results86, go_sem]) rfl ⟨(a : Int), 0, 11, rfl, rfl, Int.natCast_nonneg _, by have := HA.out; omega, .inr (.inr ⟨rfl, rfl⟩)⟩
theorem fold_back (u : Nat) (hu : u < 18446744073709551616) : ∃ n : Int, fold n = u ∧ -9223372036854775808 ≤ n ∧ n ≤ 9223372036854775807 := by
  by_cases h : u % 2 = 0
  · exact ⟨(u / 2 : Nat), by unfold fold; split <;> omega, by omega, by omega⟩
  · exact ⟨-((u / 2 : Nat) : Int) - 1, by unfold fold; split <;> omega, by omega, by omega⟩
theorem unfold_any (u : Int) (w : World) (h0 : 0 ≤ u) (h1 : u < 18446744073709551616) : Calls Tryd.prog 87 #[.int .u64 u] w fun e w' => ∃ n : Int, e = .returned (.int .i64 n) ∧ w = w' ∧ fold n = u.toNat ∧ -9223372036854775808 ≤ n ∧ n ≤ 9223372036854775807 := by
  obtain ⟨n, hn, hn0, hn1⟩ := fold_back u.toNat (by omega)
  have := unfold_fold n w hn0 hn1
  rw [hn, Int.toNat_of_nonneg h0] at this
  exact this.mono fun e w' ⟨a, b⟩ => ⟨n, a, b, hn, hn0, hn1⟩
end Go.Proofs.YtblnmghbcgbgdaaDoor
