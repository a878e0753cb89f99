/-
  Contracts of package lyceumref02: Sum, Wrap (for a seat with errors.As).
-/
import Derived.Test.YtblnmghbcgbgdaaDoorBackW
namespace Go.Proofs.YtblnmghbcgbgdaaDoor
open Go.RowKit Crc
set_option linter.unusedVariables false

theorem half_bits (x : BitVec 32) : (x.toNat : Int) / (2 : Int) = ((x >>> 1).toNat : Int) := by
  rw [BitVec.toNat_ushiftRight, Nat.shiftRight_eq_div_pow]; omega
theorem bstep_odd (x : BitVec 32) (h : (x &&& 1#32) = 1#32) : bstep x = (x >>> 1) ^^^ 2197175160#32 := by
  unfold bstep
  rw [h]
  rfl
theorem bstep_ev (x : BitVec 32) (h : (x &&& 1#32) = 0#32) : bstep x = x >>> 1 := by
  unfold bstep
  rw [h]
  simp
theorem low_cases (x : BitVec 32) : x &&& 1#32 = 1#32 ∨ x &&& 1#32 = 0#32 := by
  rw [and_one]
  split
  · exact .inl rfl
  · exact .inr rfl
theorem iter_succ (n : Nat) (x : BitVec 32) : iter (n + 1) x = bstep (iter n x) := rfl
set_option maxRecDepth 100000 in
theorem refsum_any (s : ByteArray) (w : World) (hs : s.size ≤ 9223372036854775807) : Calls Tryd.prog 43 #[.string s] w fun e w' => e = .returned (.int .u32 ((crc s.data.toList).toNat : Int)) ∧ w = w' := by
  go_enter Tryd.func43, Tryd.ntmps43
  go_wp2
  go_loop [3, 4] (fun r i => ∃ k : Nat, k ≤ s.size ∧ i = .int .i64 k ∧ r = .int .u32 ((crcL ones (s.data.toList.take k)).toNat : Int)) (fun _ i => s.size - (intOf i).toNat)
  case atStart => exact ⟨0, by omega, rfl, rfl⟩
  case round =>
    obtain ⟨k, hk, rfl, rfl⟩ := hrel
    obtain ⟨r, hr⟩ : ∃ r, r = crcL ones (s.data.toList.take k) := ⟨_, rfl⟩
    rw [← hr]
    by_cases hlt : k < s.size
    · have hn := crc_next ones [] s k hlt
      simp only [List.nil_append] at hn
      rw [← hr, cstep_eq _ _ s[k].toNat_lt] at hn
      have HN := Lib.hid hn
      have hx := xor32 r (BitVec.ofNat 32 s[k].toNat)
      have hb : ((BitVec.ofNat 32 s[k].toNat).toNat : Int) = (s[k].toNat : Int) := by
        rw [BitVec.toNat_ofNat, Nat.mod_eq_of_lt]
        have := s[k].toNat_lt
        omega
      rw [hb] at hx
      obtain ⟨x, hxx⟩ : ∃ x, x = r ^^^ BitVec.ofNat 32 s[k].toNat := ⟨_, rfl⟩
      rw [← hxx] at hx HN
      have hmod : (s[k].toNat : Int) % 4294967296 = (s[k].toNat : Int) := by have := s[k].toNat_lt; omega
      clear hn hr hb hxx
      go_wp2
      go_loop [3, 5] (fun v i => ∃ m : Nat, m ≤ 8 ∧ i = .int .i64 m ∧ v = .int .u32 ((iter m x).toNat : Int)) (fun _ i => 8 - (intOf i).toNat)
      case atStart => exact ⟨0, by omega, rfl, rfl⟩
      case round =>
        obtain ⟨m, hm, rfl, rfl⟩ := hrel
        by_cases hm8 : m < 8
        · obtain ⟨y, hy⟩ : ∃ y, y = iter m x := ⟨_, rfl⟩
          have HS := iter_succ m x
          rw [← hy] at HS ⊢
          have HSS := Lib.hid HS
          have ha := and32 y 1#32
          have hh := half_bits y
          clear HS hy hx hmod
          rcases low_cases y with hl | hl
          · rw [hl] at ha
            have ha' : bits .and .u32 (y.toNat : Int) 1 = 1 := ha
            have hx2 := xor32 (y >>> 1) 2197175160#32
            have hx3 : bits .xor .u32 ((y >>> 1).toNat : Int) 2197175160 = ((y >>> 1 ^^^ 2197175160#32).toNat : Int) := hx2
            rw [← bstep_odd y hl] at hx3
            obtain ⟨z, hz⟩ : ∃ z, z = y >>> 1 := ⟨_, rfl⟩
            rw [← hz] at hx3 hh
            clear ha hx2 hl hz
            go_wp2
            go_round
            case rel => exact ⟨m + 1, by omega, by go_num, by rw [HSS.out]⟩
            case measure => simp [intOf]; omega
          · rw [hl] at ha
            have ha' : bits .and .u32 (y.toNat : Int) 1 = 0 := ha
            rw [← bstep_ev y hl] at hh
            clear ha hl
            go_wp2
            go_round
            case rel => exact ⟨m + 1, by omega, by go_num, by rw [HSS.out]⟩
            case measure => simp [intOf]; omega
        · have hmm : m = 8 := by omega
          subst hmm
          rw [← HN.out]
          go_wp2
          go_round
          case rel => exact ⟨k + 1, by omega, by go_num, rfl⟩
          case measure => simp [intOf]; omega
    · have hkk : k = s.size := by omega
      have hx := xor32 r ones
      have hx' : bits .xor .u32 (r.toNat : Int) 4294967295 = ((r ^^^ ones).toNat : Int) := hx
      rw [hkk, take_all] at hr
      have HR := Lib.hid hr
      obtain ⟨z, hz⟩ : ∃ z, z = r ^^^ ones := ⟨_, rfl⟩
      rw [← hz] at hx'
      have HZ := Lib.hid hz
      clear hx hr hlt hz
      subst hkk
      go_wp2
      go_ret
      exact ⟨by unfold crc; rw [← HR.out, ← HZ.out]; rfl, rfl⟩

set_option maxRecDepth 100000 in
theorem refwrap_any (s : ByteArray) (w : World) (h : s.size ≤ 4096) : Calls Tryd.prog 14 #[.string s] w fun e w' => e = .returned (.agg #[.string (wrapB s), .int .i64 0]) ∧ Fr noneOf w w' := by
  have hs0 : s.size ≤ 9223372036854775807 := by omega
  obtain ⟨x, hx⟩ : ∃ x, x = crc s.data.toList := ⟨_, rfl⟩
  have HS := Lib.hid (fun w => refsum_any s w hs0)
  rw [← hx] at HS
  clear hs0
  obtain ⟨b0, b1, b2, b3, hl, e0, e1, e2, e3⟩ := tailL_is x
  have htb : tailB x = ⟨[b0, b1, b2, b3].toArray⟩ := by unfold tailB; rw [hl]
  have hwb : wrapB s = s ++ tailB x := by unfold wrapB; rw [hx]
  have HW := Lib.hid hwb
  have HT := Lib.hid htb.symm
  have hsz : ¬ 9223372036854775807 < s.size + (tailB x).size := by rw [tailB_size]; omega
  have hnew := Blk.new w 39 #[.string ⟨#[]⟩, .int .i64 0]
  have hrow : Row ((w.alloc (.cells #[.string ⟨#[]⟩, .int .i64 0] 39)).alloc (.cells #[.int .u8 (b0.toNat : Int), .int .u8 (b1.toNat : Int), .int .u8 (b2.toNat : Int), .int .u8 (b3.toNat : Int)] 5)) (w.heap.size + 1) (bytesV [b0, b1, b2, b3]) := by
    have := Row.of_blk (Blk.new (w.alloc (.cells #[.string ⟨#[]⟩, .int .i64 0] 39)) 5 #[.int .u8 (b0.toNat : Int), .int .u8 (b1.toNat : Int), .int .u8 (b2.toNat : Int), .int .u8 (b3.toNat : Int)])
    rw [World.size_alloc] at this
    exact this
  have HR := Lib.hid hrow
  clear hrow hl htb hwb hx hnew
  go_enter Tryd.func14, Tryd.ntmps14
  go_wp2_with (first
    | (go_at_call 43; refine (HS.out _).mono ?_; rintro e w' ⟨rfl, rfl⟩)
    | (refine wpList_bstring rfl 63 9 5 (.tmp 22) rfl Tryd.underlying63 Tryd.underlying9 Tryd.underlying5 (w.heap.size + 1) 4 4 [b0, b1, b2, b3] rfl rfl HR.out ?_; rw [HT.out]))
  exact bodyPost_ret (v := .agg #[.string (s ++ tailB x), .int .i64 0]) (by simp [results, Tryd.results14, go_sem]) rfl ⟨by rw [HW.out], ((Fr.refl _ _).alloc _).alloc _⟩
end Go.Proofs.YtblnmghbcgbgdaaDoor
