/-
  The walks of the laws CheckParts and CheckNil.
  Conditions: none beyond what every argument meets.
-/
import Derived.Test.YtnbabfggndgfiaaLaw02
namespace Go.Proofs.Ytnbabfggndgfiaa
open Go.RowKit Crc
set_option linter.unusedVariables false

theorem reset_nil (w : World) : Calls Try.prog 12 #[.pointer none] w fun e w' => e = .returned (.tuple #[]) ∧ w = w' := by
  go_enter Try.func12, Try.ntmps12
  go_wp2
  go_end0
  exact ⟨rfl, rfl⟩
theorem sum_nil (w : World) : Calls Try.prog 11 #[.pointer none] w fun e w' => e = .returned (.int .u32 0) ∧ w = w' := by
  go_enter Try.func11, Try.ntmps11
  go_wp2
  go_ret
  exact ⟨rfl, rfl⟩
theorem write_nil (v : Value) (w : World) : Calls Try.prog 10 #[.pointer none, v] w fun e w' => e = .returned (.pointer none) ∧ w = w' := by
  go_enter Try.func10, Try.ntmps10
  go_wp2
  go_ret
  exact ⟨rfl, rfl⟩

theorem nil_walk (s : ByteArray) (w : World) (hs : s.size ≤ 9223372036854775807) :
    Calls Try.prog 5 #[.string s] w fun e w' => e = .returned (.bool true) ∧ Fr noneOf w w' := by
  go_enter Try.func5, Try.ntmps5
  go_wp2_with (first
    | (go_at_call 12; refine (reset_nil _).mono ?_; rintro e w1 ⟨rfl, rfl⟩)
    | (go_at_call 6; refine (awake_any _).mono ?_; rintro e w2 ⟨rfl, hf⟩)
    | (go_at_call 11; refine (sum_nil _).mono ?_; rintro e w3 ⟨rfl, rfl⟩)
    | (go_at_call 7; refine (short_any s 20 _ hs (by omega)).mono ?_; rintro e w4 ⟨rfl, rfl⟩)
    | (go_at_call 10; refine (write_nil _ _).mono ?_; rintro e w5 ⟨rfl, rfl⟩))
  go_ret
  exact ⟨rfl, hf.alloc _⟩
set_option maxRecDepth 100000 in
theorem parts_walk (a b c : ByteArray) (w : World) (ha : a.size ≤ 9223372036854775807) (hb : b.size ≤ 9223372036854775807) (hc : c.size ≤ 9223372036854775807) :
    Calls Try.prog 4 #[.string a, .string b, .string c] w fun e w' => e = .returned (.bool true) ∧ Fr noneOf w w' := by
  go_enter Try.func4, Try.ntmps4
  go_wp2_with fail
  refine (awake_any _).mono ?_
  rintro e w1 ⟨rfl, hf1⟩
  go_wp2_with fail
  refine (short_any a 100 _ ha (by omega)).mono ?_
  rintro e w2 ⟨rfl, rfl⟩
  go_wp2_with fail
  refine (short_any b 100 _ hb (by omega)).mono ?_
  rintro e w2 ⟨rfl, rfl⟩
  go_wp2_with fail
  refine (short_any c 100 _ hc (by omega)).mono ?_
  rintro e w2 ⟨rfl, rfl⟩
  obtain ⟨x, hx, hxs⟩ : ∃ x, x = cut a 100 ∧ x.size ≤ 100 := ⟨_, rfl, by rw [cut_size]; omega⟩
  obtain ⟨y, hy, hys⟩ : ∃ y, y = cut b 100 ∧ y.size ≤ 100 := ⟨_, rfl, by rw [cut_size]; omega⟩
  obtain ⟨z, hz, hzs⟩ : ∃ z, z = cut c 100 ∧ z.size ≤ 100 := ⟨_, rfl, by rw [cut_size]; omega⟩
  rw [← hx, ← hy, ← hz]
  clear hx hy hz ha hb hc
  obtain ⟨r1, hr1⟩ : ∃ r1, r1 = crcL ones (x.data.toList ++ y.data.toList) := ⟨_, rfl⟩
  obtain ⟨r2, hr2⟩ : ∃ r2, r2 = crcL ones (x.data.toList ++ y.data.toList ++ z.data.toList) := ⟨_, rfl⟩
  obtain ⟨r3, hr3⟩ : ∃ r3, r3 = crcL ones z.data.toList := ⟨_, rfl⟩
  have HR1 := Lib.hid hr1
  have HR2 := Lib.hid hr2
  have HR3 := Lib.hid hr3
  clear hr1 hr2 hr3
  go_wp2_with fail
  refine (new_any _).mono ?_
  rintro e w2 ⟨rfl, hw2⟩
  have hb2 : Blk w2 w1.heap.size 37 (summer ones) := by rw [← hw2]; exact Blk.new _ _ _
  have hf2 : Fr noneOf w w2 := hf1.trans (by rw [← hw2]; exact (Fr.refl _ _).alloc _)
  obtain ⟨p, hp⟩ : ∃ p, p = w1.heap.size := ⟨_, rfl⟩
  rw [← hp] at hb2 ⊢
  have hpw : w.heap.size ≤ p := by rw [hp]; exact hf1.size
  clear hw2 hp hf1
  go_wp2_with fail
  refine (write_any p w2.heap.size 0 2 _ ones [x, y] _ (hb2.alloc _) rfl (by omega) ?_ (by have := hb2.lt; omega)).mono ?_
  · intro j t ht
    match j, ht with
    | 0, ht => simp at ht; subst ht; exact ⟨by simp, by omega⟩
    | 1, ht => simp at ht; subst ht; exact ⟨by simp, by omega⟩
  rintro e w3 ⟨rfl, hb3, hf3⟩
  rw [show crcL ones ([x, y].flatMap (·.data.toList)) = r1 from by rw [HR1.out]; simp] at hb3
  have hf4 := (hf2.alloc (.cells #[.string x, .string y] 9)).trans' hf3 (fun i hi h => by unfold justOf at h; omega)
  clear hf2 hf3 hb2
  go_wp2_with fail
  refine (sum_any p r1 _ hb3).mono ?_
  rintro e w4 ⟨rfl, rfl⟩
  go_wp2_with fail
  refine (write_any p w3.heap.size 0 1 _ r1 [z] _ (hb3.alloc _) rfl (by omega) ?_ (by have := hb3.lt; omega)).mono ?_
  · intro j t ht
    match j, ht with
    | 0, ht => simp at ht; subst ht; exact ⟨by simp, by omega⟩
  rintro e w4 ⟨rfl, hb4, hf5⟩
  rw [show crcL r1 ([z].flatMap (·.data.toList)) = r2 from by rw [HR2.out, crcL_append, ← HR1.out]; simp] at hb4
  have hf6 := (hf4.alloc (.cells #[.string z] 9)).trans' hf5 (fun i hi h => by unfold justOf at h; omega)
  clear hf4 hf5 hb3
  go_wp2_with fail
  refine (sum_any p r2 _ hb4).mono ?_
  rintro e w5 ⟨rfl, rfl⟩
  go_wp2_with fail
  refine (reset_any p r2 _ hb4).mono ?_
  rintro e w5 ⟨rfl, hb5, hf7⟩
  have hf8 := hf6.trans' hf7 (fun i hi h => by unfold justOf at h; omega)
  clear hf6 hf7 hb4
  go_wp2_with fail
  refine (sum_any p ones _ hb5).mono ?_
  rintro e w6 ⟨rfl, rfl⟩
  rw [show ones ^^^ ones = 0#32 from BitVec.xor_self]
  go_wp2_with fail
  refine (write_any p w5.heap.size 0 1 _ ones [z] _ (hb5.alloc _) rfl (by omega) ?_ (by have := hb5.lt; omega)).mono ?_
  · intro j t ht
    match j, ht with
    | 0, ht => simp at ht; subst ht; exact ⟨by simp, by omega⟩
  rintro e w6 ⟨rfl, hb6, hf9⟩
  rw [show crcL ones ([z].flatMap (·.data.toList)) = r3 from by rw [HR3.out]; simp] at hb6
  have hfa := (hf8.alloc (.cells #[.string z] 9)).trans' hf9 (fun i hi h => by unfold justOf at h; omega)
  clear hf8 hf9 hb5
  go_wp2_with fail
  refine (sum_any p r3 _ hb6).mono ?_
  rintro e w7 ⟨rfl, rfl⟩
  clear hb6
  unfold V32
  have n0 : ((0#32 : BitVec 32).toNat : Int) = 0 := rfl
  have HFA := Lib.hid hfa
  clear hfa
  go_wp2_with fail
  refine (sumtext_any _ _ (by simp; omega)).mono ?_
  rintro e w7 ⟨he, hfb⟩
  obtain rfl : e = .returned (.int .u32 ((r1 ^^^ ones).toNat : Int)) := he.trans (by unfold V32 crc; rw [HR1.out]; simp)
  have HFB := HFA.out.trans hfb
  have HFC := Lib.hid HFB
  clear HFB hfb he HFA
  go_wp2_with fail
  refine (sumtext_any _ _ (by simp; omega)).mono ?_
  rintro e w8 ⟨he, hfb⟩
  obtain rfl : e = .returned (.int .u32 ((r2 ^^^ ones).toNat : Int)) := he.trans (by unfold V32 crc; rw [HR2.out]; simp)
  have HFB := HFC.out.trans hfb
  have HFD := Lib.hid HFB
  clear HFB hfb he HFC
  go_wp2_with fail
  refine (sumtext_any _ _ (by decide)).mono ?_
  rintro e w9 ⟨he, hfb⟩
  obtain rfl : e = .returned (.int .u32 0) := he
  have HFB := HFD.out.trans hfb
  have HFE := Lib.hid HFB
  clear HFB hfb HFD
  go_wp2_with fail
  refine (sumtext_any _ _ (by omega)).mono ?_
  rintro e wa ⟨he, hfb⟩
  obtain rfl : e = .returned (.int .u32 ((r3 ^^^ ones).toNat : Int)) := he.trans (by unfold V32 crc; rw [HR3.out])
  have HFB := HFE.out.trans hfb
  have HFF := Lib.hid HFB
  clear HFB hfb he HFE
  go_wp2
  go_ret
  exact ⟨rfl, HFF.out⟩
end Go.Proofs.Ytnbabfggndgfiaa
