/-
  Contract of package nums's number: what was put is read.
-/
import Derived.Test.YtblnmghbcgbgdaaDoorRowNil
namespace Go.Proofs.YtblnmghbcgbgdaaDoor
open Go.RowKit Nums
set_option linter.unusedVariables false

theorem enc_drop : ∀ (k u : Nat), k < (enc u).length → ((enc u).drop k = enc (u / 128 ^ k) ∧ (0 < k → 0 < u / 128 ^ k))
  | 0, u, _ => by simp
  | k + 1, u, h => by
    by_cases hu : u < 128
    · rw [enc_lt hu] at h
      simp at h
    · rw [enc_ge (by omega)] at h ⊢
      rw [List.length_cons] at h
      obtain ⟨h1, h2⟩ := enc_drop k (u / 128) (by omega)
      rw [List.drop_succ_cons, h1, Nat.div_div_eq_div_mul, Nat.mul_comm, ← Nat.pow_succ]
      refine ⟨rfl, fun _ => ?_⟩
      have e : u / 128 ^ (k + 1) = u / 128 / 128 ^ k := by rw [Nat.div_div_eq_div_mul, Nat.mul_comm, ← Nat.pow_succ]
      rw [e]
      rcases Nat.eq_zero_or_pos k with h0 | h0
      · subst h0
        simp
        omega
      · exact h2 h0
/-- The byte at place k, and whether it is the last. -/
theorem enc_at (u k : Nat) (h : k < (enc u).length) : (u / 128 ^ k < 128 ∧ (enc u)[k]? = some (UInt8.ofNat (u / 128 ^ k)) ∧ k + 1 = (enc u).length) ∨ (128 ≤ u / 128 ^ k ∧ (enc u)[k]? = some (UInt8.ofNat (u / 128 ^ k % 128 + 128)) ∧ k + 1 < (enc u).length) := by
  obtain ⟨h1, _⟩ := enc_drop k u h
  have e0 : (enc u)[k]? = ((enc u).drop k)[0]? := by simp
  have e1 : ((enc u).drop k).length = (enc u).length - k := by simp
  by_cases hv : u / 128 ^ k < 128
  · refine .inl ⟨hv, ?_, ?_⟩
    · rw [e0, h1, enc_lt hv]; rfl
    · rw [h1, enc_lt hv] at e1
      simp at e1
      omega
  · refine .inr ⟨by omega, ?_, ?_⟩
    · rw [e0, h1, enc_ge (by omega)]; rfl
    · rw [h1, enc_ge (by omega), List.length_cons] at e1
      have := enc_pos (u / 128 ^ k / 128)
      omega
theorem or_add (a d k : Nat) (h : a < 2 ^ k) : a ||| (d * 2 ^ k) = a + d * 2 ^ k := by
  rw [Nat.or_comm, ← Nat.shiftLeft_eq, ← Nat.shiftLeft_add_eq_or_of_lt h, Nat.add_comm]
theorem pow128 (k : Nat) : 128 ^ k = 2 ^ (7 * k) := by rw [Nat.pow_mul]
theorem acc_next (u k : Nat) : u % 128 ^ k + (u / 128 ^ k % 128) * 128 ^ k = u % 128 ^ (k + 1) := by
  rw [Nat.pow_succ, Nat.mod_mul, Nat.mul_comm (u / 128 ^ k % 128)]
theorem acc_last (u k : Nat) : u % 128 ^ k + (u / 128 ^ k) * 128 ^ k = u := by
  rw [Nat.mul_comm]; exact Nat.mod_add_div u (128 ^ k)
theorem and127 (b : Nat) (hb : b < 256) : bits .and .u8 (b : Int) 127 = ((b % 128 : Nat) : Int) := by
  have key : ∀ i : Fin 256, bits .and .u8 (i.val : Int) 127 = ((i.val % 128 : Nat) : Int) := by decide +kernel
  exact key ⟨b, hb⟩
theorem wrap_u64_nat (n : Nat) (h : n < 18446744073709551616) : IntKind.u64.wrap (n : Int) = (n : Int) := by
  rw [IntKind.wrap_u64]; omega
theorem or_u64 (a x : Nat) (ha : a < 18446744073709551616) (hx : x < 18446744073709551616) : bits .or .u64 (a : Int) (x : Int) = ((a ||| x : Nat) : Int) := by
  show IntKind.u64.wrap ((BitVec.ofInt 64 (a : Int) ||| BitVec.ofInt 64 (x : Int)).toNat : Int) = _
  have e (z : Nat) (hz : z < 18446744073709551616) : (BitVec.ofInt 64 (z : Int)).toNat = z := by
    rw [BitVec.ofInt_natCast, BitVec.toNat_ofNat]; exact Nat.mod_eq_of_lt hz
  rw [BitVec.toNat_or, e a ha, e x hx]
  have := Nat.or_lt_two_pow (n := 64) ha hx
  exact wrap_u64_nat _ this
/-- What a byte's seven bits, put at their place, make. -/
theorem put_bits (a d k : Nat) (ha : a < 128 ^ k) (hs : a + d * 128 ^ k < 18446744073709551616) :
    IntKind.u64.wrap ((d : Int) * 2 ^ (7 * k)) = ((d * 128 ^ k : Nat) : Int) ∧ bits .or .u64 (a : Int) ((d * 128 ^ k : Nat) : Int) = ((a + d * 128 ^ k : Nat) : Int) := by
  have e : (d : Int) * 2 ^ (7 * k) = ((d * 128 ^ k : Nat) : Int) := by
    rw [pow128]
    simp [Int.natCast_mul, Int.natCast_pow]
  refine ⟨by rw [e]; exact wrap_u64_nat _ (by omega), ?_⟩
  rw [or_u64 _ _ (by omega) (by omega), pow128, or_add]
  rw [← pow128]
  exact ha
set_option maxHeartbeats 1000000 in
set_option maxRecDepth 100000 in
theorem number_enc (u : Nat) (hu : u < 18446744073709551616) (rest : List UInt8) (w : World) (hl : (enc u ++ rest).length ≤ 100000) :
    Calls Tryd.prog 86 #[.string ⟨(enc u ++ rest).toArray⟩] w fun e w' => e = .returned (.tuple #[.int .u64 (u : Int), .int .i64 ((enc u).length : Int), .int .i64 0]) ∧ w = w' := by
  have h10 := enc_len10 u hu
  have hp := enc_pos u
  obtain ⟨s, hs⟩ : ∃ s : ByteArray, s = ⟨(enc u ++ rest).toArray⟩ := ⟨_, rfl⟩
  have hsz : s.size = (enc u).length + rest.length := by rw [hs, str_size]; simp
  have hat : ∀ k b, (enc u)[k]? = some b → ∃ h : k < s.size, s[k] = b := fun k b hb => by
    have hk : k < (enc u).length := (List.getElem?_eq_some_iff.1 hb).1
    refine ⟨by omega, ?_⟩
    subst hs
    have : (enc u ++ rest)[k]? = some b := by rw [List.getElem?_append_left hk]; exact hb
    obtain ⟨hlt, he⟩ := List.getElem?_eq_some_iff.1 this
    exact he
  rw [← hs]
  have HAT := Lib.hid hat
  have hszI : (enc u).length ≤ s.size := by omega
  have hszM : s.size ≤ 100000 := by rw [hsz]; simpa using hl
  obtain ⟨n, hn⟩ : ∃ n, n = (enc u).length := ⟨_, rfl⟩
  have HN := Lib.hid hn
  rw [← hn] at h10 hp hszI ⊢
  have HU := Lib.hid hu
  clear hs hsz hat hn hu hl
  obtain ⟨m, hm⟩ : ∃ m : Nat, min (s.size : Int) 10 = (m : Int) ∧ n ≤ m := ⟨(min (s.size : Int) 10).toNat, by omega, by omega⟩
  go_enter Tryd.func86, Tryd.ntmps86
  go_wp2
  go_step3
  go_wp2
  go_step3
  go_wp2
  go_outline
  go_loop [2, 3, 4, 11] (fun v2 v3 v4 v11 => ∃ k : Nat, k < n ∧ v11 = .int .i64 k ∧ v3 = .int .i64 0 ∧ v4 = .int .i64 11 ∧ v2 = .int .u64 ((u % 128 ^ k : Nat) : Int)) (fun _ _ _ v11 => n - (intOf v11).toNat)
  case atStart => exact ⟨0, hp, rfl, rfl, rfl, by simp [Nat.mod_one]⟩
  case round =>
    obtain ⟨k, hk, rfl, rfl, rfl, rfl⟩ := hrel
    obtain ⟨a, ha⟩ : ∃ a, a = u % 128 ^ k := ⟨_, rfl⟩
    rw [← ha]
    have hk9 : k ≤ 9 := by omega
    rcases enc_at u k (by rw [← HN.out]; exact hk) with ⟨hv, hb, hlast⟩ | ⟨hv, hb, hlast⟩
    · obtain ⟨v, hvv⟩ : ∃ v, v = u / 128 ^ k := ⟨_, rfl⟩
      rw [← hvv] at hv hb
      obtain ⟨b, hbb⟩ : ∃ b, b = UInt8.ofNat v := ⟨_, rfl⟩
      rw [← hbb] at hb
      obtain ⟨hks, hsk⟩ := HAT.out k b hb
      have hbv : (b.toNat : Int) = (v : Int) := by rw [hbb, UInt8.toNat_ofNat']; omega
      have hpw : 0 < 128 ^ k := Nat.pow_pos (by omega)
      have hal : a < 128 ^ k := by rw [ha]; exact Nat.mod_lt _ hpw
      have hsum : a + v * 128 ^ k = u := by rw [ha, hvv]; exact acc_last u k
      obtain ⟨e1, e2⟩ := put_bits a v k hal (by rw [hsum]; exact HU.out)
      rw [hsum] at e2
      have e0 : bits .and .u8 (v : Int) 127 = (v : Int) := by rw [and127 v (by omega), Nat.mod_eq_of_lt hv]
      have ew := wrap_u64_nat v (by omega)
      obtain ⟨X, hX⟩ : ∃ X, X = v * 128 ^ k := ⟨_, rfl⟩
      rw [← hX] at e1 e2
      have hkv : (k = 0 ∧ v = 0) ∨ (k = 0 ∧ 0 < v) ∨ (0 < k ∧ k < 9 ∧ 0 < v) ∨ (k = 9 ∧ 0 < v ∧ v ≤ 1) := by
        rcases Nat.eq_zero_or_pos k with h0 | h0
        · omega
        · have := (enc_drop k u (by rw [← HN.out]; exact hk)).2 h0
          rw [← hvv] at this
          by_cases h9 : k = 9
          · subst h9
            have := HU.out
            omega
          · omega
      have HL := Lib.hid (show k + 1 = n from by rw [HN.out]; exact hlast)
      have hvI : (v : Int) < 128 := by omega
      have hkm : (k : Int) < (m : Int) := by omega
      have hk0 : (0 : Int) ≤ (k : Int) := by omega
      have HKV := Lib.hid hkv
      clear hlast hbb hb ha hvv hX hkv hsum hal hpw
      have cases4 : (((k : Int) == 9) = false ∧ ((v : Int) == 0) = true ∧ ¬ (0 : Int) < (k : Int)) ∨ (((k : Int) == 9) = false ∧ ((v : Int) == 0) = false) ∨ (((k : Int) == 9) = true ∧ ((v : Int) == 0) = false ∧ ¬ (1 : Int) < (v : Int)) := by
        rcases HKV.out with h | h | h | h
        · exact .inl ⟨by simp; omega, by simp; omega, by omega⟩
        · exact .inr (.inl ⟨by simp; omega, by simp; omega⟩)
        · exact .inr (.inl ⟨by simp; omega, by simp; omega⟩)
        · exact .inr (.inr ⟨by simp; omega, by simp; omega, by omega⟩)
      have H4 := Lib.hid cases4
      clear cases4
      rcases H4.out with ⟨q1, q2, q3⟩ | ⟨q1, q2⟩ | ⟨q1, q2, q3⟩
      all_goals
        go_wp2
        try rw [Exit.noGoto_ret]
        exact bodyPost_ret (v := .tuple #[.int .u64 (u : Int), .int .i64 ((k : Int) + 1), .int .i64 0]) (by simp [results, Tryd.results86, go_sem]) rfl ⟨by rw [← HL.out]; rfl, rfl⟩
    · obtain ⟨v, hvv⟩ : ∃ v, v = u / 128 ^ k := ⟨_, rfl⟩
      rw [← hvv] at hv hb
      obtain ⟨d, hd⟩ : ∃ d, d = v % 128 := ⟨_, rfl⟩
      rw [← hd] at hb
      have hd128 : d < 128 := by omega
      obtain ⟨b, hbb⟩ : ∃ b, b = UInt8.ofNat (d + 128) := ⟨_, rfl⟩
      rw [← hbb] at hb
      obtain ⟨hks, hsk⟩ := HAT.out k b hb
      have hbv : (b.toNat : Int) = ((d + 128 : Nat) : Int) := by rw [hbb, UInt8.toNat_ofNat']; omega
      obtain ⟨y, hy⟩ : ∃ y, y = d + 128 := ⟨_, rfl⟩
      rw [← hy] at hbv
      have hpw : 0 < 128 ^ k := Nat.pow_pos (by omega)
      have hal : a < 128 ^ k := by rw [ha]; exact Nat.mod_lt _ hpw
      have hsum : a + d * 128 ^ k = u % 128 ^ (k + 1) := by rw [ha, hd, hvv]; exact acc_next u k
      have hle : u % 128 ^ (k + 1) ≤ u := Nat.mod_le _ _
      obtain ⟨e1, e2⟩ := put_bits a d k hal (by have := HU.out; omega)
      rw [hsum] at e2
      have e0 : bits .and .u8 (y : Int) 127 = (d : Int) := by rw [and127 y (by omega)]; congr 1; omega
      have ew := wrap_u64_nat d (by omega)
      obtain ⟨X, hX⟩ : ∃ X, X = d * 128 ^ k := ⟨_, rfl⟩
      obtain ⟨Y, hY⟩ : ∃ Y, Y = u % 128 ^ (k + 1) := ⟨_, rfl⟩
      rw [← hX, ← hY] at e2
      rw [← hX] at e1
      have hk1 : k + 1 < n := by rw [HN.out]; exact hlast
      have q1 : ((k : Int) == 9) = false := by simp; omega
      have q2 : ((y : Int) == 0) = false := by simp; omega
      have q4 : ¬ (y : Int) < 128 := by omega
      have hkm : (k : Int) < (m : Int) := by omega
      have hk0 : (0 : Int) ≤ (k : Int) := by omega
      have HY := Lib.hid hY
      clear hlast hbb hb ha hvv hX hY hsum hal hpw hy hd hle hv hd128
      go_wp2
      go_round
      case rel => exact ⟨k + 1, hk1, by go_num, rfl, rfl, by rw [← HY.out]⟩
      case measure => simp [intOf]; omega
end Go.Proofs.YtblnmghbcgbgdaaDoor
