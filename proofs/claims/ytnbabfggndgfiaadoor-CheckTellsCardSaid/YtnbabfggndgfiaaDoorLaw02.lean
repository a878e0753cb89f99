/-
  Contracts of the law's helpers of layer 2: awake (the chapter's example) and short (a text's beginning).
  Conditions: a text is at most 2^63 - 1 bytes long.
-/
import Derived.Test.YtnbabfggndgfiaaDoorSum
namespace Go.Proofs.YtnbabfggndgfiaaDoor
open Go.RowKit Crc
set_option linter.unusedVariables false

theorem awake_sum : crc [49, 50, 51, 52, 53, 54, 55, 56, 57] = 3808858755#32 := by decide +kernel
theorem awake_any (w : World) : Calls Tryd.prog 6 #[] w fun e w' => e = .returned (.bool true) ∧ Fr noneOf w w' := by
  go_enter Tryd.func6, Tryd.ntmps6
  go_wp2_with fail
  refine (sumtext_any _ _ ?_).mono ?_
  · decide
  rintro e w1 ⟨rfl, hf⟩
  rw [show crc _ = 3808858755#32 from awake_sum]
  unfold V32
  go_wp2
  go_ret
  exact ⟨rfl, hf⟩

/-- A text's first n bytes. -/
def cut (s : ByteArray) (n : Nat) : ByteArray := if n < s.size then s.extract 0 n else s
theorem cut_data (s : ByteArray) (n : Nat) : (cut s n).data.toList = s.data.toList.take n := by
  unfold cut
  split
  · simp
  · rw [List.take_of_length_le]; simp; omega
theorem cut_size (s : ByteArray) (n : Nat) : (cut s n).size = min n s.size := by
  have := congrArg List.length (cut_data s n)
  simpa using this
theorem short_any (s : ByteArray) (n : Nat) (w : World) (hs : s.size ≤ 9223372036854775807) (hn : n ≤ 9223372036854775807) :
    Calls Tryd.prog 7 #[.string s, .int .i64 n] w fun e w' => e = .returned (.string (cut s n)) ∧ w = w' := by
  by_cases h : n < s.size
  · go_enter Tryd.func7, Tryd.ntmps7
    go_wp2
    go_ret
    exact ⟨by unfold cut; rw [if_pos h]; rfl, rfl⟩
  · go_enter Tryd.func7, Tryd.ntmps7
    go_wp2
    go_ret
    exact ⟨by unfold cut; rw [if_neg h]; rfl, rfl⟩
end Go.Proofs.YtnbabfggndgfiaaDoor
