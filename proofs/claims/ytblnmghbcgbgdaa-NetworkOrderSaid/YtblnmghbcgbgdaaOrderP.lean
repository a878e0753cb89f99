/-
  NetworkOrder's plain part: rows of packets; one taken out; the others in order.
-/
import Derived.Test.YtblnmghbcgbgdaaTakeNo
namespace Go.Proofs.Ytblnmghbcgbgdaa
open Go.RowKit
set_option linter.unusedVariables false

def oP (T : ByteArray) (i : Nat) : Pk := ⟨1, 2, T.extract i (i + 1)⟩
def oL (T : ByteArray) (m : Nat) : List Pk := (List.range m).map (oP T)
/-- What is left of m, k taken out, when all below i have been taken. -/
def oR (T : ByteArray) (m k i : Nat) : List Pk := (((List.range m).eraseIdx k).drop (i - if k < i then 1 else 0)).map (oP T)
theorem oL_len (T : ByteArray) (m : Nat) : (oL T m).length = m := by simp [oL]
theorem oL_succ (T : ByteArray) (m : Nat) : oL T (m + 1) = oL T m ++ [oP T m] := by simp [oL, List.range_succ]
theorem oL_at (T : ByteArray) (m k : Nat) (h : k < m) : (oL T m)[k]? = some (oP T k) := by simp [oL, h]
theorem oL_erase (T : ByteArray) (m k : Nat) : (oL T m).eraseIdx k = oR T m k 0 := by
  simp only [oL, oR, Nat.zero_sub, List.drop_zero]
  rw [← eraseIdx_parts, ← eraseIdx_parts, List.map_append, List.map_take, List.map_drop]
theorem oR_len (T : ByteArray) (m k i : Nat) (hk : k < m) : (oR T m k i).length = m - 1 - (i - if k < i then 1 else 0) := by
  simp [oR, List.length_eraseIdx, hk]
theorem oR_at (T : ByteArray) (m k i : Nat) (hk : k < m) (hi : i < m) (hne : i ≠ k) : (oR T m k i)[0]? = some (oP T i) := by
  simp only [oR, List.getElem?_map, List.getElem?_drop, Nat.add_zero, List.getElem?_eraseIdx]
  by_cases h : k < i
  · rw [if_pos h, if_neg (by omega)]
    rw [show i - 1 + 1 = i by omega]
    simp [hi]
  · rw [if_neg h, if_pos (by omega)]
    simp [hi]
theorem oR_next (T : ByteArray) (m k i : Nat) (hne : i ≠ k) : (oR T m k i).eraseIdx 0 = oR T m k (i + 1) := by
  simp only [oR, List.eraseIdx_zero, ← List.map_tail, List.tail_drop]
  congr 2
  by_cases h : k < i
  · rw [if_pos h, if_pos (by omega)]; omega
  · rw [if_neg h, if_neg (by omega)]; rfl
theorem oR_skip (T : ByteArray) (m k : Nat) : oR T m k (k + 1) = oR T m k k := by simp [oR]
theorem oR_end (T : ByteArray) (m k : Nat) (hk : k < m) : oR T m k m = [] := by
  apply List.length_eq_zero_iff.1
  rw [oR_len T m k m hk, if_pos hk]; omega
theorem tmod_lt (a : Int) (m : Nat) (hm : 0 < m) : -(m : Int) < a.tmod m ∧ a.tmod m < m := by
  have h1 := Int.tmod_lt_of_pos a (b := (m : Int)) (by omega)
  have h2 := Int.lt_tmod_of_pos a (b := (m : Int)) (by omega)
  omega
theorem turn (q : Int) (m : Nat) (hm : 0 < m) (h : -(m : Int) < q ∧ q < m) : ∃ k : Nat, k < m ∧ (q + (m : Int)) % (m : Int) = (k : Int) := by
  have h1 := Int.emod_nonneg (q + (m : Int)) (b := (m : Int)) (by omega)
  have h2 := Int.emod_lt_of_pos (q + (m : Int)) (b := (m : Int)) (by omega)
  exact ⟨((q + (m : Int)) % (m : Int)).toNat, by omega, by omega⟩
end Go.Proofs.Ytblnmghbcgbgdaa
