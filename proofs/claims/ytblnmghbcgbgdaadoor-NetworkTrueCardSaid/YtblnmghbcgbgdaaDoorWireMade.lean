/-
  The law's helpers of layer 19: short, less, made.
  Conditions: none.
-/
import Derived.Test.YtblnmghbcgbgdaaDoorMsg
import Derived.Deep.RegionHeld3
import Derived.BigQuiet
namespace Go.Proofs.YtblnmghbcgbgdaaDoor
open Go.RowKit Nums
set_option linter.unusedVariables false
set_option linter.unusedSimpArgs false

/-- A text cut. -/
def cutB (s : ByteArray) (n : Nat) : ByteArray := if n < s.size then s.extract 0 n else s
theorem cutB_size (s : ByteArray) (n : Nat) : (cutB s n).size ≤ n := by
  unfold cutB
  split
  · rw [ByteArray.size_extract]; omega
  · omega
theorem short_any (s : ByteArray) (n : Nat) (w : World) (hs : s.size ≤ 9223372036854775807) (hn : n ≤ 1000) : Calls Tryd.prog 15 #[.string s, .int .i64 n] w fun e w' => e = .returned (.string (cutB s n)) ∧ w = w' := by
  by_cases h : n < s.size
  · have hI : (n : Int) < (s.size : Int) := by omega
    have e : cutB s n = s.extract 0 n := by unfold cutB; rw [if_pos h]
    rw [e]
    clear e
    go_enter Tryd.func15, Tryd.ntmps15
    go_wp2
    go_ret
    exact ⟨rfl, rfl⟩
  · have hI : ¬ (n : Int) < (s.size : Int) := by omega
    have e : cutB s n = s := by unfold cutB; rw [if_neg h]
    rw [e]
    clear e
    go_enter Tryd.func15, Tryd.ntmps15
    go_wp2
    go_ret
    exact ⟨rfl, rfl⟩
/-- A message as it stands. -/
structure Raw where
  (kd g s : Int) (key : Bool) (body path : ByteArray) (n c : Int)
def Raw.val (m : Raw) : Array Value := #[.int .i64 m.kd, .int .i64 m.g, .int .i64 m.s, .bool m.key, .string m.body, .string m.path, .int .i64 m.n, .int .i64 m.c]
theorem less_any (m : Raw) (w : World) (h1 : m.body.size ≤ 9223372036854775807) (h2 : m.path.size ≤ 9223372036854775807) : Calls Tryd.prog 9 #[.agg m.val] w fun e w' => e = .returned (.agg ({ m with body := cutB m.body 60, path := cutB m.path 60 } : Raw).val) ∧ Fr noneOf w w' := by
  obtain ⟨kd, g, s, key, body, path, n, c⟩ := m
  dsimp only [Raw.val] at h1 h2 ⊢
  have HP := Lib.hid (fun w => short_any path 60 w h2 (by omega))
  have HB := Lib.hid (fun w => short_any body 60 w h1 (by omega))
  rw [show ((60 : Nat) : Int) = 60 from rfl] at HP HB
  obtain ⟨P, hP⟩ : ∃ P, P = cutB path 60 := ⟨_, rfl⟩
  obtain ⟨B, hB⟩ : ∃ B, B = cutB body 60 := ⟨_, rfl⟩
  rw [← hP] at HP ⊢
  rw [← hB] at HB ⊢
  clear hP hB h1 h2
  go_enter Tryd.func9, Tryd.ntmps9
  go_wp2_with (first
    | (go_at_call 15; (with_reducible refine (HP.out _).mono ?_); rintro e w1 ⟨rfl, rfl⟩)
    | (go_at_call 15; (with_reducible refine (HB.out _).mono ?_); rintro e w1 ⟨rfl, rfl⟩))
  exact bodyPost_ret (v := .agg #[.int .i64 kd, .int .i64 g, .int .i64 s, .bool key, .string B, .string P, .int .i64 n, .int .i64 c]) (by simp [results, Tryd.results9, go_sem]) rfl ⟨rfl, by repeat (first | exact Fr.refl _ _ | apply Fr.drew | apply Fr.alloc)⟩
theorem and15 (b : UInt8) : bits .and .u8 (b.toNat : Int) 15 = ((UInt8.ofNat (b.toNat % 16)).toNat : Int) := by
  rw [UInt8.toNat_ofNat']
  show IntKind.u8.wrap ((BitVec.ofInt 8 (b.toNat : Int) &&& BitVec.ofInt 8 15).toNat : Int) = _
  have hb : b.toNat < 256 := b.toNat_lt
  have e : (BitVec.ofInt 8 (b.toNat : Int) &&& BitVec.ofInt 8 15).toNat = b.toNat % 16 := by
    rw [BitVec.toNat_and, BitVec.ofInt_natCast, BitVec.toNat_ofNat]
    show (b.toNat % 2 ^ 8) &&& 15 = _
    rw [Nat.mod_eq_of_lt hb, show (15 : Nat) = 2 ^ 4 - 1 by rfl, Nat.and_two_pow_sub_one_eq_mod]
  rw [e]
  simp only [IntKind.wrap, IntKind.signed, IntKind.bits]
  simp
def mk15 (b : UInt8) : UInt8 := UInt8.ofNat (b.toNat % 16)
theorem mk15_lt (b : UInt8) : (mk15 b).toNat < 16 := by unfold mk15; rw [UInt8.toNat_ofNat']; omega
def half15 (l : List UInt8) (k : Nat) : List UInt8 := (l.take k).map mk15 ++ l.drop k
theorem half15_len (l : List UInt8) (k : Nat) : (half15 l k).length = l.length := by simp [half15]; omega
theorem half15_at (l : List UInt8) (k : Nat) (h : k < l.length) : (half15 l k)[k]? = some l[k] := by
  unfold half15
  rw [List.getElem?_append_right (by simp; omega)]
  simp [Nat.min_eq_left (Nat.le_of_lt h), h]
theorem half15_next (l : List UInt8) (k : Nat) (h : k < l.length) : (bytesV (half15 l k)).set k (V8 (mk15 l[k])) = bytesV (half15 l (k + 1)) := by
  apply List.ext_getElem?
  intro j
  unfold bytesV half15
  rw [List.getElem?_set]
  simp only [List.length_map, List.length_append, List.length_take, List.length_drop, List.getElem?_map]
  by_cases hj : k = j
  · subst hj
    rw [if_pos rfl, if_pos (by omega)]
    rw [List.getElem?_append_left (by simp; omega)]
    simp [h]
  · rw [if_neg hj]
    by_cases hlt : j < k
    · rw [List.getElem?_append_left (by simp; omega), List.getElem?_append_left (by simp; omega)]
      simp [hlt, show j < k + 1 by omega]
    · rw [List.getElem?_append_right (by simp; omega), List.getElem?_append_right (by simp; omega)]
      simp only [List.length_map, List.length_take, List.getElem?_drop]
      congr 2
      omega
theorem half15_zero (l : List UInt8) : half15 l 0 = l := by simp [half15]
theorem half15_all (l : List UInt8) : half15 l l.length = l.map mk15 := by simp [half15]
end Go.Proofs.YtblnmghbcgbgdaaDoor
