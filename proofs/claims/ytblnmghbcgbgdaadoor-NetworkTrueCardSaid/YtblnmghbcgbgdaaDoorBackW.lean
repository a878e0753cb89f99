/-
  What was wrapped is opened.
  Conditions: a text of at most 4096 bytes.
-/
import Derived.Test.YtblnmghbcgbgdaaDoorWrap
namespace Go.Proofs.YtblnmghbcgbgdaaDoor
open Go.RowKit Crc
set_option linter.unusedVariables false

theorem b_ext {a b : ByteArray} (h : a.data.toList = b.data.toList) : a = b := by
  cases a; cases b
  simp at h
  simp [h]
/-- A text with its sum. -/
def wrapB (t : ByteArray) : ByteArray := t ++ tailB (crc t.data.toList)
theorem wrapB_list (t : ByteArray) : (wrapB t).data.toList = t.data.toList ++ tailL (crc t.data.toList) := by
  unfold wrapB
  simp [ByteArray.data_append, tailB]
theorem wrapB_size (t : ByteArray) : (wrapB t).size = t.size + 4 := by
  unfold wrapB
  rw [ByteArray.size_append, tailB_size]
theorem wrapB_take (t : ByteArray) : List.take t.size (wrapB t).data.toList = t.data.toList := by
  rw [wrapB_list]
  have : t.size = t.data.toList.length := by simp
  rw [this, List.take_left']
  rfl
theorem extract_list (s : ByteArray) (i j : Nat) : (s.extract i j).data.toList = (s.data.toList.take j).drop i := by
  simp [List.drop_take]
theorem wrapB_head (t : ByteArray) : (wrapB t).extract 0 t.size = t := by
  apply b_ext
  rw [extract_list, wrapB_take]
  rfl
theorem wrapB_tail (t : ByteArray) : (wrapB t).extract t.size (wrapB t).size = tailB (crc t.data.toList) := by
  apply b_ext
  rw [extract_list, List.take_of_length_le (by simp), wrapB_list]
  have : t.size = t.data.toList.length := by simp
  rw [this, List.drop_left']
  · rfl
  · rfl
theorem open_wrapped (t : ByteArray) (w : World) (h : t.size ≤ 4096) : Calls Tryd.prog 25 #[.string (wrapB t)] w fun e w' => e = .returned (.tuple #[.string t, .nilIface]) ∧ Fr noneOf w w' := by
  refine (open_good (wrapB t) t.size w (wrapB_size t) h ?_).mono ?_
  · rw [wrapB_take, wrapB_tail]
    simp
  · rintro e w' ⟨rfl, hf⟩
    rw [wrapB_head]
    exact ⟨rfl, hf⟩
theorem wrap_is (t : ByteArray) (w : World) (h : t.size ≤ 4096) : Calls Tryd.prog 32 #[.string t] w fun e w' => e = .returned (.tuple #[.string (wrapB t), .nilIface]) ∧ Fr noneOf w w' := wrap_any t w h
end Go.Proofs.YtblnmghbcgbgdaaDoor
