/-
  Contracts of package check's summer: New, Write, Sum, Reset, and Sum of a text.
  Conditions: the parts lie in cells of the caller's; each is at most maxLen bytes long (as every string is).
-/
import Derived.Test.YtblnmghbcgbgdaaDoorBase
import Derived.Test.YtblnmghbcgbgdaaDoorChecked
import Derived.BigQuiet
import Derived.BigRegion
namespace Go.Proofs.YtblnmghbcgbgdaaDoor
open Go.RowKit Crc
set_option linter.unusedVariables false

def summer0 : Array Value := (Array.replicate 256 (.int .u32 0)).push (.int .u32 4294967295)
/-- The table's block behind k rounds. -/
def tb : Nat → Array Value
  | 0 => summer0
  | k+1 => (tb k).setIfInBounds k (V32 (tab k))
theorem built0 : Tryd.prog.built 158 [(1, .int .u32 4294967295)] = some summer0 := by kernel_rfl
theorem size_summer0 : summer0.size = 257 := by simp [summer0]
theorem size_tb (k : Nat) : (tb k).size = 257 := by
  induction k with
  | zero => exact size_summer0
  | succ k ih => simp [tb, ih]
theorem tb_some (k i : Nat) (h : i < 257) : ∃ v, (tb k)[i]? = some v := ⟨(tb k)[i]'(by rw [size_tb]; exact h), Array.getElem?_eq_getElem _⟩
theorem tb_old (k i : Nat) (h : k ≤ i) : (tb k)[i]? = summer0[i]? := by
  induction k with
  | zero => rfl
  | succ k ih => rw [tb, Array.getElem?_setIfInBounds_ne (by omega), ih (by omega)]
theorem tb_at (k i : Nat) (h : i < k) (h2 : i < 257) : (tb k)[i]? = some (V32 (tab i)) := by
  induction k with
  | zero => omega
  | succ k ih =>
    rw [tb]
    by_cases e : i = k
    · subst e
      rw [Array.getElem?_setIfInBounds_self_of_lt (by rw [size_tb]; exact h2)]
    · rw [Array.getElem?_setIfInBounds_ne (by omega), ih (by omega)]
/-- A summer that stands at r. -/
def summer (r : BitVec 32) : Array Value := (tb 256).setIfInBounds 256 (V32 r)
theorem summer_tab (r : BitVec 32) (i : Nat) (h : i < 256) : (summer r)[i]? = some (V32 (tab i)) := by
  unfold summer
  rw [Array.getElem?_setIfInBounds_ne (by omega), tb_at 256 i h (by omega)]
theorem summer_r (r : BitVec 32) : (summer r)[256]? = some (V32 r) := by
  unfold summer
  rw [Array.getElem?_setIfInBounds_self_of_lt (by rw [size_tb]; omega)]
theorem summer_set (r s : BitVec 32) : (summer r).setIfInBounds 256 (V32 s) = summer s := by
  unfold summer
  rw [Array.setIfInBounds_setIfInBounds]
theorem tb256 : tb 256 = summer ones := by
  have h : (tb 256)[256]? = some (V32 ones) := by rw [tb_old 256 256 (by omega)]; unfold summer0; rw [Array.getElem?_push]; simp [V32, ones]
  unfold summer
  apply Array.ext_getElem?
  intro i
  by_cases e : i = 256
  · subst e
    rw [Array.getElem?_setIfInBounds_self_of_lt (by rw [size_tb]; omega), h]
  · rw [Array.getElem?_setIfInBounds_ne (by omega)]
attribute [irreducible] summer0 summer
theorem step_val (x : BitVec 32) : bits .xor .u32 ((x.toNat : Int) / 2) (2197175160 * bits .and .u32 (x.toNat : Int) 1 % 4294967296) = ((bstep x).toNat : Int) := by
  have h1 : bits .and .u32 (x.toNat : Int) 1 = ((x &&& 1#32).toNat : Int) := and32 x 1#32
  have h2 : (x.toNat : Int) / (2 : Int) = ((x >>> 1).toNat : Int) := by
    rw [BitVec.toNat_ushiftRight, Nat.shiftRight_eq_div_pow]; omega
  have h3 : (2197175160 * ((x &&& 1#32).toNat : Int) % 4294967296) = ((2197175160#32 * (x &&& 1#32)).toNat : Int) := by
    rw [BitVec.toNat_mul]
    generalize (x &&& 1#32).toNat = m
    simp
  rw [h1, h2, h3, xor32]
  rfl

set_option maxRecDepth 100000 in
theorem new_any (w : World) :
    Calls Tryd.prog 79 #[] w fun e w' => e = .returned (.pointer (some ⟨w.heap.size, 0, none⟩)) ∧ w.alloc (.cells (summer ones) 158) = w' := by
  go_enter Tryd.func79, Tryd.ntmps79
  go_wp2_with (refine wpList_build_at rfl 158 _ rfl [(1, .int .u32 4294967295)] (by rfl) summer0 built0 ?_)
  go_loopw [6] (fun i wr => ∃ k : Nat, k ≤ 256 ∧ i = .int .i64 k ∧ wr = w.alloc (.cells (tb k) 158)) (fun i _ => 256 - (intOf i).toNat)
  case atStart => exact ⟨0, by omega, rfl, rfl⟩
  case round =>
    obtain ⟨k, hk, rfl, rfl⟩ := hrel
    by_cases hlt : k < 256
    · go_wp2
      go_loop [3, 11] (fun x i => ∃ m : Nat, m ≤ 8 ∧ i = .int .i64 m ∧ x = V32 (iter m (BitVec.ofNat 32 k))) (fun _ i => 8 - (intOf i).toNat)
      case atStart => exact ⟨0, by omega, rfl, by simp [V32, iter]; omega⟩
      case round =>
        obtain ⟨m, hm, rfl, rfl⟩ := hrel
        obtain ⟨x, hx⟩ : ∃ x, x = iter m (BitVec.ofNat 32 k) := ⟨_, rfl⟩
        rw [← hx]
        have HX := Lib.hid hx
        clear hx
        unfold V32
        have hx2 := x.isLt
        by_cases hm2 : m < 8
        · go_wp2
          go_round
          case rel => exact ⟨m + 1, by omega, by go_num, by rw [step_val, HX.out]; rfl⟩
          case measure => simp [intOf]; omega
        · have hmm : m = 8 := by omega
          have hs := tb_some k k (by omega)
          obtain ⟨v, hv⟩ := hs
          have HM := Lib.hid hmm
          clear hmm
          go_wp2
          go_roundw
          case rel => exact ⟨k + 1, by omega, by go_num, by rw [tb, tab, ← HM.out, ← HX.out]; rfl⟩
          case measure => simp [intOf]; omega
    · have hkk : k = 256 := by omega
      have HK := Lib.hid hkk
      clear hkk
      go_wp2
      go_ret
      exact ⟨rfl, by rw [HK.out, tb256]⟩

theorem sum_any (b : Nat) (r : BitVec 32) (w : World) (h : Blk w b 158 (summer r)) :
    Calls Tryd.prog 81 #[.pointer (some ⟨b, 0, none⟩)] w fun e w' => e = .returned (V32 (r ^^^ ones)) ∧ w = w' := by
  have hc : w.cell? ⟨b, 256, none⟩ = some (.int .u32 (r.toNat : Int)) := (h.cell 256).trans (summer_r r)
  have hx : bits .xor .u32 (r.toNat : Int) 4294967295 = ((r ^^^ ones).toNat : Int) := xor32 r ones
  clear h
  go_enter Tryd.func81, Tryd.ntmps81
  go_wp2
  go_ret
  exact ⟨rfl, rfl⟩

theorem byte_row (r : BitVec 32) : (r.toNat : Int) % 256 = ((r.toNat % 256 : Nat) : Int) := by omega
theorem crc_next (r : BitVec 32) (l : List UInt8) (s : ByteArray) (m : Nat) (h : m < s.size) : crcL r (l ++ s.data.toList.take (m + 1)) = cstep (crcL r (l ++ s.data.toList.take m)) s[m].toNat := by
  rw [List.take_succ_eq_append_getElem (by simpa using h), ← List.append_assoc, crcL_append]
  rfl
theorem take_all (s : ByteArray) : s.data.toList.take s.size = s.data.toList := List.take_of_length_le (by simp)
theorem take_part (ps : List ByteArray) (k : Nat) (s : ByteArray) (h : ps[k]? = some s) : (ps.take (k + 1)).flatMap (·.data.toList) = (ps.take k).flatMap (·.data.toList) ++ s.data.toList := by
  rw [List.take_add_one, h]
  simp
set_option maxRecDepth 100000 in
/-- THE SUMMER'S WRITE. -/
theorem write_any (b g o n c : Nat) (r : BitVec 32) (ps : List ByteArray) (w : World) (h : Blk w b 158 (summer r)) (hn : ps.length = n) (hmax : n ≤ 9223372036854775807)
    (hc : ∀ j s, ps[j]? = some s → w.cell? ⟨g, o + j, none⟩ = some (.string s) ∧ s.size ≤ 9223372036854775807) (hgb : g ≠ b) :
    Calls Tryd.prog 80 #[.pointer (some ⟨b, 0, none⟩), .slice (some ⟨g, o, none⟩) n c] w fun e w' => e = .returned (.pointer (some ⟨b, 0, none⟩)) ∧
      Blk w' b 158 (summer (crcL r (ps.flatMap (·.data.toList)))) ∧ Fr (justOf b) w w' := by
  go_enter Tryd.func80, Tryd.ntmps80
  go_wp2
  go_loopw [12] (fun i wr => ∃ k : Nat, k ≤ n ∧ i = .int .i64 k ∧ Blk wr b 158 (summer (crcL r ((ps.take k).flatMap (·.data.toList)))) ∧ Fr (justOf b) w wr) (fun i _ => n - (intOf i).toNat)
  case atStart => exact ⟨0, by omega, rfl, h, Fr.refl _ _⟩
  case round =>
    obtain ⟨k, hk, rfl, hblk, hfr⟩ := hrel
    by_cases hlt : k < n
    · obtain ⟨s, hs⟩ : ∃ s, ps[k]? = some s := ⟨ps[k]'(by omega), List.getElem?_eq_getElem _⟩
      obtain ⟨hcell, hsz⟩ := hc k s hs
      have hgl : g < w.heap.size := World.block_lt_of_cell? _ _ hcell
      have hcell2 := (hfr.cell (p := ⟨g, o + k, none⟩) hgl hgb).trans hcell
      have HB := Lib.hid hblk
      have HF := Lib.hid hfr
      have HS := Lib.hid hs
      clear hblk hfr hs hc h hcell
      go_wp2
      go_loopw [18] (fun i wj => ∃ m : Nat, m ≤ s.size ∧ i = .int .i64 m ∧ Blk wj b 158 (summer (crcL r ((ps.take k).flatMap (·.data.toList) ++ s.data.toList.take m))) ∧ Fr (justOf b) w wj) (fun i _ => s.size - (intOf i).toNat)
      case atStart => exact ⟨0, by omega, rfl, by simpa using HB.out, HF.out⟩
      case round =>
        obtain ⟨m, hm, rfl, hblk, hfr⟩ := hrel
        clear hcell2
        by_cases hlt2 : m < s.size
        · obtain ⟨q, hq⟩ : ∃ q, q = crcL r ((ps.take k).flatMap (·.data.toList) ++ s.data.toList.take m) := ⟨_, rfl⟩
          rw [← hq] at hblk
          have c256 : wr.cell? ⟨b, 256, none⟩ = some (.int .u32 (q.toNat : Int)) := (hblk.cell 256).trans (summer_r q)
          have f256 := hblk.frozen 256
          obtain ⟨idx, hi⟩ : ∃ idx : Nat, idx = (q.toNat % 256) ^^^ s[m].toNat := ⟨_, rfl⟩
          have hsm : s[m].toNat < 256 := s[m].toNat_lt
          have hidx : idx < 256 := by rw [hi]; exact Nat.xor_lt_two_pow (n := 8) (Nat.mod_lt _ (by omega)) hsm
          have hix : bits .xor .u8 ((q.toNat : Int) % 256) (s[m].toNat : Int) = (idx : Int) := by rw [byte_row, xor8 _ _ (Nat.mod_lt _ (by omega)) hsm, hi]
          have cidx : wr.cell? ⟨b, idx, none⟩ = some (.int .u32 ((tab idx).toNat : Int)) := (hblk.cell idx).trans (summer_tab q idx hidx)
          have hx : bits .xor .u32 ((q.toNat : Int) / 256) ((tab idx).toNat : Int) = ((cstep q s[m].toNat).toNat : Int) := by
            have e : (q.toNat : Int) / (256 : Int) = ((q >>> 8).toNat : Int) := by rw [BitVec.toNat_ushiftRight, Nat.shiftRight_eq_div_pow]; omega
            rw [e, xor32, cstep, hi]
          have hi0 : (0 : Int) ≤ (idx : Int) := by omega
          have hi1 : (idx : Int) < 256 := by omega
          have hb2 := hblk.set_ 256 (V32 (cstep q s[m].toNat))
          rw [summer_set] at hb2
          have HQ := Lib.hid hq
          have HI := Lib.hid hi
          have HB2 := Lib.hid hb2
          have HF2 := Lib.hid hfr
          clear hq hi hblk hb2 hfr
          go_wp2
          go_region
          all_goals
            go_wp2
            go_roundw
            case rel => exact ⟨m + 1, by omega, by go_num, by rw [crc_next r _ s m hlt2, ← HQ.out]; exact HB2.out, (Fr.setCell (p := ⟨b, 256, none⟩) HF2.out (.inl rfl) _).drew⟩
            case measure => simp [intOf]; omega
        · have hmm : m = s.size := by omega
          have HM := Lib.hid hmm
          have HB3 := Lib.hid hblk
          have HF3 := Lib.hid hfr
          clear hmm hblk hfr
          go_wp2
          go_roundw
          case rel => exact ⟨k + 1, by omega, by go_num, by rw [take_part ps k s HS.out]; have h := HB3.out; rw [HM.out, take_all] at h; exact h, HF3.out⟩
          case measure => simp [intOf]; omega
    · have hkk : k = n := by omega
      have HK := Lib.hid hkk
      have HB := Lib.hid hblk
      have HF := Lib.hid hfr
      clear hkk hblk hfr hc h
      go_wp2
      go_ret
      exact ⟨rfl, by have h := HB.out; rw [HK.out, ← hn, List.take_length] at h; exact h, HF.out⟩
end Go.Proofs.YtblnmghbcgbgdaaDoor
