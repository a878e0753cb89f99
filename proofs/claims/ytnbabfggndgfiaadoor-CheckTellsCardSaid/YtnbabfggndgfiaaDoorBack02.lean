/-
  CheckBack: the walk.
-/
import Derived.Test.YtnbabfggndgfiaaDoorWrap
import Derived.Test.YtnbabfggndgfiaaDoorIs
import Derived.Test.YtnbabfggndgfiaaDoorLaw02
namespace Go.Proofs.YtnbabfggndgfiaaDoor
open Go.RowKit Crc
set_option linter.unusedVariables false

theorem b_ext {a b : ByteArray} (h : a.data.toList = b.data.toList) : a = b := by
  cases a; cases b
  simp at h
  simp [h]
/-- A text with its sum. -/
def wrapB (t : ByteArray) : ByteArray := t ++ tailB (crc t.data.toList)
theorem wrapB_list (t : ByteArray) : (wrapB t).data.toList = t.data.toList ++ tailL (crc t.data.toList) := by
  unfold wrapB
  simp [ByteArray.data_append, tailB]
theorem wrapB_size (t : ByteArray) : (wrapB t).size = t.size + 4 := by
  unfold wrapB
  rw [ByteArray.size_append, tailB_size]
theorem wrapB_take (t : ByteArray) : List.take t.size (wrapB t).data.toList = t.data.toList := by
  rw [wrapB_list]
  have : t.size = t.data.toList.length := by simp
  rw [this, List.take_left']
  rfl
theorem extract_list (s : ByteArray) (i j : Nat) : (s.extract i j).data.toList = (s.data.toList.take j).drop i := by
  simp [List.drop_take]
theorem wrapB_head (t : ByteArray) : (wrapB t).extract 0 t.size = t := by
  apply b_ext
  rw [extract_list, wrapB_take]
  rfl
theorem wrapB_tail (t : ByteArray) : (wrapB t).extract t.size (wrapB t).size = tailB (crc t.data.toList) := by
  apply b_ext
  rw [extract_list, List.take_of_length_le (by simp), wrapB_list]
  have : t.size = t.data.toList.length := by simp
  rw [this, List.drop_left']
  · rfl
  · rfl
theorem open_wrapped (t : ByteArray) (w : World) (h : t.size ≤ 4096) : Calls Tryd.prog 13 #[.string (wrapB t)] w fun e w' => e = .returned (.tuple #[.string t, .nilIface]) ∧ Fr noneOf w w' := by
  refine (open_good (wrapB t) t.size w (wrapB_size t) h ?_).mono ?_
  · rw [wrapB_take, wrapB_tail]
    simp
  · rintro e w' ⟨rfl, hf⟩
    rw [wrapB_head]
    exact ⟨rfl, hf⟩
theorem wrap_is (t : ByteArray) (w : World) (h : t.size ≤ 4096) : Calls Tryd.prog 11 #[.string t] w fun e w' => e = .returned (.tuple #[.string (wrapB t), .nilIface]) ∧ Fr noneOf w w' := wrap_any t w h

theorem checkBack_any (s : ByteArray) (w : World) (hs : s.size ≤ 9223372036854775807) (_hg : errT w) :
    Calls Tryd.prog 5 #[.string s] w fun e w' => e = .returned (.bool true) ∧ Fr noneOf w w' := by
  obtain ⟨t, ht⟩ : ∃ t, t = cut s 300 := ⟨_, rfl⟩
  have htz : t.size ≤ 300 := by rw [ht, cut_size]; omega
  have h1 : ∀ w, Calls Tryd.prog 7 #[.string s, .int .i64 300] w fun e w' => e = .returned (.string t) ∧ w = w' := fun w => by rw [ht]; exact short_any s 300 w hs (by omega)
  obtain ⟨u, hu⟩ : ∃ u, u = cut (wrapB t) 3 := ⟨_, rfl⟩
  have huz : u.size < 4 := by rw [hu, cut_size]; omega
  have hws : (wrapB t).size = t.size + 4 := wrapB_size t
  have h2 : ∀ w, Calls Tryd.prog 7 #[.string (wrapB t), .int .i64 3] w fun e w' => e = .returned (.string u) ∧ w = w' := fun w => by rw [hu]; exact short_any (wrapB t) 3 w (by omega) (by omega)
  obtain ⟨x, hx⟩ : ∃ x, x = wrapB t := ⟨_, rfl⟩
  have h3 := wrap_is t
  have h4 := open_wrapped t
  rw [← hx] at h2 h3 h4 hws
  have H1 := Lib.hid h1
  have H2 := Lib.hid h2
  have H3 := Lib.hid h3
  have H4 := Lib.hid h4
  have hws' : ((x.size : Int) == (t.size : Int) + 4) = true := by simp; omega
  have htI : (t.size : Int) ≤ 300 := by omega
  have hte : (t.toList == t.toList) = true := by simp
  have hxz : x.size ≤ 304 := by omega
  clear ht hu h1 h2 h3 h4 hx hws hs _hg
  go_enter Tryd.func5, Tryd.ntmps5
  go_wp2_with (first
    | (go_at_call 6; refine (awake_any _).mono ?_; rintro e w1 ⟨rfl, hf1⟩)
    | (go_at_call 7; (with_reducible refine (H1.out _).mono ?_); rintro e w' ⟨rfl, rfl⟩)
    | (go_at_call 11; (with_reducible refine (H3.out _ (by omega)).mono ?_); rintro e w2 ⟨rfl, hf2⟩)
    | (go_at_call 13; (with_reducible refine (H4.out _ (by omega)).mono ?_); rintro e w3 ⟨rfl, hf3⟩)
    | (go_at_call 7; (with_reducible refine (H2.out _).mono ?_); rintro e w' ⟨rfl, rfl⟩)
    | (go_at_call 13; (with_reducible refine (open_short u _ huz).mono ?_); rintro e w4 ⟨rfl, hf4⟩)
    | (go_at_call 12; (with_reducible refine (code_nil _).mono ?_); rintro e w5 ⟨rfl, hf5⟩; have hf5' := (by first | exact hf5' | exact Fr.refl _ _ : Fr noneOf w4 _).trans hf5)
    | (go_at_call 14; (with_reducible refine (is_same 11 _).mono ?_); rintro e w6 ⟨rfl, hf6⟩))
  go_ret
  exact ⟨rfl, ((((hf1.trans hf2).trans hf3).trans hf4).trans hf5').trans hf6⟩
end Go.Proofs.YtnbabfggndgfiaaDoor
