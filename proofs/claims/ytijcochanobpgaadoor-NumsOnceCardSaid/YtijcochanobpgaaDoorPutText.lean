/-
  Contract of package nums's PutText.
-/
import Derived.Test.YtijcochanobpgaaDoorLaw03
namespace Go.Proofs.YtijcochanobpgaaDoor
open Go.RowKit Nums
set_option linter.unusedVariables false

theorem str_add (x y : List UInt8) : (⟨x.toArray⟩ ++ ⟨y.toArray⟩ : ByteArray) = ⟨(x ++ y).toArray⟩ := ByteArray.mk_append_mk x y
theorem str_is (s : ByteArray) : s = ⟨s.data.toList.toArray⟩ := by simp

theorem putText_any (l : List UInt8) (w : World) (hl : l.length ≤ 100000) :
    Calls Tryd.prog 19 #[.string ⟨l.toArray⟩] w fun e w' => e = .returned (.string ⟨(putText l).toArray⟩) ∧ Fr noneOf w w' := by
  have hsz := str_size l
  have hlb := put_len [(l.length : Int)] (fun n hn => by simp at hn; omega)
  rw [List.length_singleton] at hlb
  have hadd := str_add (put [(l.length : Int)]) l
  have HADD := Lib.hid hadd
  have hps := str_size (put [(l.length : Int)])
  have hps2 : (⟨(put [(l.length : Int)]).toArray⟩ : ByteArray).size ≤ 10 := by rw [hps]; omega
  have hl2 : (⟨l.toArray⟩ : ByteArray).size ≤ 100000 := by rw [hsz]; omega
  clear hadd hps
  go_enter Tryd.func19, Tryd.ntmps19
  go_wp2_with fail
  refine (put_any (some ⟨w.heap.size, 0, none⟩) 1 [(l.length : Int)] _ ⟨fun n hn => by simp at hn; omega, fun _ => ⟨_, _, rfl, by simp, fun j n hj => ?_⟩⟩ (by simp)).mono ?_
  · match j, hj with
    | 0, hj => simp at hj; subst hj; simp
  rintro e w1 ⟨rfl, hf⟩
  clear hsz
  go_wp2
  go_ret
  refine ⟨?_, ((Fr.refl noneOf w).alloc _).trans hf⟩
  show Ending.returned (.string _) = _
  rw [putText, ← put_one, ← HADD.out]
end Go.Proofs.YtijcochanobpgaaDoor
