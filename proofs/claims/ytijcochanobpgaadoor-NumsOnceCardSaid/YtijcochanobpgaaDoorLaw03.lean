/-
  The helpers awake and short of the laws of layer 3.
  Conditions: none beyond what every argument meets.
-/
import Derived.Test.YtijcochanobpgaaDoorNums
namespace Go.Proofs.YtijcochanobpgaaDoor
open Go.RowKit Nums
set_option linter.unusedVariables false

theorem str_size (l : List UInt8) : (⟨l.toArray⟩ : ByteArray).size = l.length := by show l.toArray.size = _; simp
theorem put_is (A : Option Addr) (c n : Nat) (l : List Int) (w : World) (hn : n = l.length) (h : NumsAt w A l) (hl : l.length ≤ 1000) :
    Calls Tryd.prog 13 #[.slice A n c] w fun e w' => e = .returned (.string ⟨(put l).toArray⟩) ∧ Fr noneOf w w' := by
  subst hn
  exact put_any A c l w h hl
theorem awake_put : put [1, -1, 150] = [2, 1, 172, 2] := by
  have e1 : enc (fold 1) = [2] := by rw [show fold 1 = 2 from by decide, enc_lt (by decide)]; rfl
  have e2 : enc (fold (-1)) = [1] := by rw [show fold (-1) = 1 from by decide, enc_lt (by decide)]; rfl
  have e3 : enc (fold 150) = [172, 2] := by rw [show fold 150 = 300 from by decide, enc_ge (by decide), enc_lt (by decide)]; rfl
  simp [put, e1, e2, e3]
theorem awake_any (w : World) : Calls Tryd.prog 6 #[] w fun e w' => e = .returned (.bool true) ∧ Fr noneOf w w' := by
  go_enter Tryd.func6, Tryd.ntmps6
  go_wp2_with fail
  refine (put_is (some ⟨w.heap.size, 0, none⟩) 3 3 [1, -1, 150] _ rfl ⟨fun n hn => by simp at hn; omega, fun _ => ⟨_, _, rfl, by simp, fun j n hj => ?_⟩⟩ (by simp)).mono ?_
  · match j, hj with
    | 0, hj => simp at hj; subst hj; simp
    | 1, hj => simp at hj; subst hj; simp
    | 2, hj => simp at hj; subst hj; simp
  rintro e w1 ⟨rfl, hf⟩
  rw [awake_put]
  go_wp2
  go_ret
  exact ⟨rfl, ((Fr.refl noneOf w).alloc _).trans hf⟩

/-- A text's first n bytes. -/
def cutL (l : List UInt8) (n : Nat) : List UInt8 := l.take n
theorem extract_list (l : List UInt8) (n : Nat) : (⟨l.toArray⟩ : ByteArray).extract 0 n = ⟨(l.take n).toArray⟩ := by
  apply ByteArray.ext
  simp
theorem short_any (l : List UInt8) (n : Nat) (w : World) (hs : l.length ≤ 9223372036854775807) (hn : n ≤ 9223372036854775807) :
    Calls Tryd.prog 7 #[.string ⟨l.toArray⟩, .int .i64 n] w fun e w' => e = .returned (.string ⟨(l.take n).toArray⟩) ∧ w = w' := by
  have hsz := str_size l
  have hx := Lib.hid (extract_list l n)
  by_cases h : n < l.length
  · go_enter Tryd.func7, Tryd.ntmps7
    go_wp2
    go_ret
    exact ⟨by rw [← hx.out]; rfl, rfl⟩
  · go_enter Tryd.func7, Tryd.ntmps7
    go_wp2
    go_ret
    exact ⟨by rw [List.take_of_length_le (by omega)]; rfl, rfl⟩

theorem NumsAt.cut {w : World} {A : Option Addr} {l : List Int} (h : NumsAt w A l) (k : Nat) : NumsAt w A (l.take k) :=
  ⟨fun n hn => h.1 n (List.mem_of_mem_take hn), fun hne => by
    obtain ⟨g, o, e, hg, hc⟩ := h.2 (fun e => hne (by rw [e]; simp))
    refine ⟨g, o, e, hg, fun j n hj => hc j n ?_⟩
    rw [List.getElem?_take] at hj
    split at hj
    · exact hj
    · cases hj⟩

end Go.Proofs.YtijcochanobpgaaDoor
