/-
  The walk of the law NumsPut, and its helpers awake and short.
  Conditions: none beyond what every argument meets.
-/
import Derived.Test.YtijcochanobpgaaNumsR
namespace Go.Proofs.Ytijcochanobpgaa
open Go.RowKit Nums
set_option linter.unusedVariables false

theorem awake_put : put [1, -1, 150] = [2, 1, 172, 2] := by
  have e1 : enc (fold 1) = [2] := by rw [show fold 1 = 2 from by decide, enc_lt (by decide)]; rfl
  have e2 : enc (fold (-1)) = [1] := by rw [show fold (-1) = 1 from by decide, enc_lt (by decide)]; rfl
  have e3 : enc (fold 150) = [172, 2] := by rw [show fold 150 = 300 from by decide, enc_ge (by decide), enc_lt (by decide)]; rfl
  simp [put, e1, e2, e3]
theorem awake_any (w : World) : Calls Try.prog 5 #[] w fun e w' => e = .returned (.bool true) ∧ Fr noneOf w w' := by
  go_enter Try.func5, Try.ntmps5
  go_wp2_with fail
  refine (put_is (some ⟨w.heap.size, 0, none⟩) 3 3 [1, -1, 150] _ rfl ⟨fun n hn => by simp at hn; omega, fun _ => ⟨_, _, rfl, by simp, fun j n hj => ?_⟩⟩ (by simp)).mono ?_
  · match j, hj with
    | 0, hj => simp at hj; subst hj; simp
    | 1, hj => simp at hj; subst hj; simp
    | 2, hj => simp at hj; subst hj; simp
  rintro e w1 ⟨rfl, hf⟩
  rw [awake_put]
  go_wp2
  go_ret
  exact ⟨rfl, ((Fr.refl noneOf w).alloc _).trans hf⟩

/-- A text's first n bytes. -/
def cutL (l : List UInt8) (n : Nat) : List UInt8 := l.take n
theorem extract_list (l : List UInt8) (n : Nat) : (⟨l.toArray⟩ : ByteArray).extract 0 n = ⟨(l.take n).toArray⟩ := by
  apply ByteArray.ext
  simp
theorem short_any (l : List UInt8) (n : Nat) (w : World) (hs : l.length ≤ 9223372036854775807) (hn : n ≤ 9223372036854775807) :
    Calls Try.prog 6 #[.string ⟨l.toArray⟩, .int .i64 n] w fun e w' => e = .returned (.string ⟨(l.take n).toArray⟩) ∧ w = w' := by
  have hsz := str_size l
  have hx := Lib.hid (extract_list l n)
  by_cases h : n < l.length
  · go_enter Try.func6, Try.ntmps6
    go_wp2
    go_ret
    exact ⟨by rw [← hx.out]; rfl, rfl⟩
  · go_enter Try.func6, Try.ntmps6
    go_wp2
    go_ret
    exact ⟨by rw [List.take_of_length_le (by omega)]; rfl, rfl⟩

theorem NumsAt.cut {w : World} {A : Option Addr} {l : List Int} (h : NumsAt w A l) (k : Nat) : NumsAt w A (l.take k) :=
  ⟨fun n hn => h.1 n (List.mem_of_mem_take hn), fun hne => by
    obtain ⟨g, o, e, hg, hc⟩ := h.2 (fun e => hne (by rw [e]; simp))
    refine ⟨g, o, e, hg, fun j n hj => hc j n ?_⟩
    rw [List.getElem?_take] at hj
    split at hj
    · exact hj
    · cases hj⟩

set_option maxRecDepth 100000 in
theorem numsPut_walk (A : Option Addr) (c : Nat) (l : List Int) (s : List UInt8) (w : World) (h : NumsAt w A l) (hc : l.length ≤ c) (hcm : c ≤ 9223372036854775807) (_hz : A = none → c = 0) (hs : s.length ≤ 9223372036854775807) :
    Calls Try.prog 3 #[.slice A l.length c, .string ⟨s.toArray⟩] w fun e w' => e = .returned (.bool true) ∧ Fr noneOf w w' := by
  obtain ⟨m, hm, hml⟩ : ∃ m, m = l.take 12 ∧ m.length ≤ 12 := ⟨_, rfl, by simp; omega⟩
  have hmn : NumsAt w A m := by rw [hm]; exact h.cut 12
  obtain ⟨t, ht, htl⟩ : ∃ t, t = s.take 200 ∧ t.length ≤ 200 := ⟨_, rfl, by simp; omega⟩
  by_cases hl : 12 < l.length
  all_goals
    have hme : (if 12 < l.length then 12 else l.length) = m.length := by rw [hm, List.length_take]; split <;> omega
    first | rw [if_pos hl] at hme | rw [if_neg hl] at hme
    have HM := Lib.hid hme
    have HT := Lib.hid ht
    clear hm hme ht
    go_enter Try.func3, Try.ntmps3
    go_wp2_with fail
    refine (awake_any _).mono ?_
    rintro e w1 ⟨rfl, hf1⟩
    go_wp2_with fail
    refine (short_any s 200 _ hs (by omega)).mono ?_
    rintro e w2 ⟨rfl, rfl⟩
    rw [← HT.out]
    have hm1 := Lib.hid (hmn.fr hf1)
    have HF1 := Lib.hid hf1
    clear hf1
    go_wp2_with fail
    refine (put_is A c _ m _ HM.out hm1.out (by omega)).mono ?_
    rintro e w2 ⟨rfl, hf2⟩
    have HF2 := Lib.hid (HF1.out.trans hf2)
    clear hf2 HF1
    go_wp2_with fail
    refine (refPut_is A c _ m _ HM.out (hmn.fr HF2.out) (by omega)).mono ?_
    rintro e w3 ⟨rfl, hf3⟩
    have HF3 := Lib.hid (HF2.out.trans hf3)
    clear hf3 HF2
    go_wp2_with fail
    refine (putText_any t _ (by omega)).mono ?_
    rintro e w4 ⟨rfl, hf4⟩
    have HF4 := Lib.hid (HF3.out.trans hf4)
    clear hf4 HF3
    go_wp2_with fail
    refine (refPutText_any t _ (by omega)).mono ?_
    rintro e w5 ⟨rfl, hf5⟩
    have HF5 := Lib.hid (HF4.out.trans hf5)
    clear hf5 HF4
    go_wp2
    go_ret
    exact ⟨rfl, HF5.out⟩
end Go.Proofs.Ytijcochanobpgaa
