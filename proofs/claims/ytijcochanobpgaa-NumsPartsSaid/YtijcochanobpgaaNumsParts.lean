/-
  The walk of the law NumsParts.
  Conditions: none beyond what every argument meets.
-/
import Derived.Test.YtijcochanobpgaaNumsPut
import Derived.Test.YtijcochanobpgaaSlice
namespace Go.Proofs.Ytijcochanobpgaa
open Go.RowKit Nums
set_option linter.unusedVariables false

def intsV (l : List Int) : List Value := l.map (Value.int .i64)
theorem NumsAt.sl {w : World} {A : Option Addr} {l : List Int} (h : NumsAt w A l) : Sl w A l.length 1 (intsV l) := by
  refine ⟨by simp [intsV], fun hn => ?_⟩
  obtain ⟨g, o, e, hg, hc⟩ := h.2 (by intro e; rw [e] at hn; simp at hn)
  refine ⟨g, o, e, hg, fun j v hj => ?_⟩
  simp only [intsV, List.getElem?_map, Option.map_eq_some_iff] at hj
  obtain ⟨n, hn, rfl⟩ := hj
  exact hc j n hn
theorem NumsAt.of_sl {w : World} {A : Option Addr} {l : List Int} {n : Nat} (hb : ∀ n ∈ l, -9223372036854775808 ≤ n ∧ n ≤ 9223372036854775807) (h : Sl w A n 1 (intsV l)) : NumsAt w A l := by
  refine ⟨hb, fun hne => ?_⟩
  have hl := h.1
  simp [intsV] at hl
  have hp : 0 < n := by
    rw [← hl]
    exact List.length_pos_iff.2 hne
  obtain ⟨g, o, e, hg, hc⟩ := h.2 hp
  exact ⟨g, o, e, hg, fun j m hj => hc j _ (by simp [intsV, hj])⟩
theorem ints_one (l : List Int) : ∀ u ∈ intsV l, u.oneCell' = true := by
  intro u hu
  simp only [intsV, List.mem_map] at hu
  obtain ⟨n, _, rfl⟩ := hu
  rfl
theorem int_info : (Try.prog.info? 3).map (fun i => (i.zero, i.size, i.bytes)) = some (some (.int .i64 0), 1, 8) := by kernel_rfl

theorem mask62 (n : Int) : ∃ x : Nat, bits .and .i64 n 4611686018427387903 = (x : Int) ∧ x ≤ 4611686018427387903 := by
  refine ⟨((BitVec.ofInt 64 n &&& BitVec.ofInt 64 4611686018427387903).toNat), ?_, ?_⟩
  · show IntKind.i64.wrap ((BitVec.ofInt 64 n &&& BitVec.ofInt 64 4611686018427387903).toNat : Int) = _
    have h : (BitVec.ofInt 64 n &&& BitVec.ofInt 64 4611686018427387903).toNat ≤ 4611686018427387903 := by
      rw [BitVec.toNat_and]
      exact Nat.le_trans Nat.and_le_right (by decide)
    rw [IntKind.wrap_i64]
    omega
  · rw [BitVec.toNat_and]
    exact Nat.le_trans Nat.and_le_right (by decide)

theorem parts_le (x y : Nat) : (put [min (x : Int) (y : Int)]).length ≤ (put [max (x : Int) (y : Int)]).length := by
  rw [show min (x : Int) (y : Int) = ((min x y : Nat) : Int) from by omega, show max (x : Int) (y : Int) = ((max x y : Nat) : Int) from by omega]
  exact put_mono (by omega)
theorem put1_any (n : Int) (w : World) (h0 : -9223372036854775808 ≤ n) (h1 : n ≤ 9223372036854775807) :
    Calls Try.prog 7 #[.slice (some ⟨w.heap.size, 0, none⟩) 1 1] (w.alloc (.cells #[.int .i64 n] 3)) fun e w' => e = .returned (.string ⟨(put [n]).toArray⟩) ∧ Fr noneOf (w.alloc (.cells #[.int .i64 n] 3)) w' := by
  refine put_is _ 1 1 [n] _ rfl ⟨fun k hk => by simp at hk; omega, fun _ => ⟨_, _, rfl, by simp, fun j k hj => ?_⟩⟩ (by simp)
  match j, hj with
  | 0, hj => simp at hj; subst hj; simp
theorem all_nums {w : World} {base na nb c : Nat} {D : Option Addr} {m k : List Int} (ha : na = m.length) (hb : nb = k.length) (hm : ∀ n ∈ m, -9223372036854775808 ≤ n ∧ n ≤ 9223372036854775807) (hk : ∀ n ∈ k, -9223372036854775808 ≤ n ∧ n ≤ 9223372036854775807)
    (h : w.ownsRow base 3 1 (.slice D (na + nb) c) (na + nb) (intsV m ++ intsV k)) : NumsAt w D (m ++ k) ∧ na + nb = (m ++ k).length := by
  have h2 := Sl.of_row h
  refine ⟨NumsAt.of_sl (fun n hn => ?_) (n := na + nb) (by simpa [intsV] using h2), by simp [ha, hb]⟩
  rcases List.mem_append.1 hn with hn | hn
  · exact hm n hn
  · exact hk n hn
set_option maxRecDepth 100000 in
set_option maxHeartbeats 1600000 in
theorem numsParts_walk (A : Option Addr) (ca : Nat) (la : List Int) (B : Option Addr) (cb : Nat) (lb : List Int) (q0 q1 : Int) (w : World) (ha : NumsAt w A la) (hca : la.length ≤ ca) (hcam : ca ≤ 9223372036854775807) (hza : A = none → ca = 0)
    (hb : NumsAt w B lb) (hcb : lb.length ≤ cb) (hcbm : cb ≤ 9223372036854775807) (hzb : B = none → cb = 0) (_hq0 : -9223372036854775808 ≤ q0 ∧ q0 ≤ 9223372036854775807) (_hq1 : -9223372036854775808 ≤ q1 ∧ q1 ≤ 9223372036854775807) :
    Calls Try.prog 4 #[.slice A la.length ca, .slice B lb.length cb, .agg #[.int .i64 q0, .int .i64 q1]] w fun e w' => e = .returned (.bool true) ∧ Fr noneOf w w' := by
  obtain ⟨x, hx, hxm⟩ := mask62 q0
  obtain ⟨y, hy, hym⟩ := mask62 q1
  obtain ⟨i0, hi, hz0, hz1, hz2⟩ := info_parts int_info
  obtain ⟨m, hm, hml⟩ : ∃ m, m = la.take 8 ∧ m.length ≤ 8 := ⟨_, rfl, by simp; omega⟩
  have hmn : NumsAt w A m := by rw [hm]; exact ha.cut 8
  obtain ⟨k, hk, hkl⟩ : ∃ k, k = lb.take 8 ∧ k.length ≤ 8 := ⟨_, rfl, by simp; omega⟩
  have hkn : NumsAt w B k := by rw [hk]; exact hb.cut 8
  have hma : (if 8 < la.length then 8 else la.length) = m.length := by rw [hm, List.length_take]; split <;> omega
  have hkb : (if 8 < lb.length then 8 else lb.length) = k.length := by rw [hk, List.length_take]; split <;> omega
  clear hm hk
  by_cases hla : 8 < la.length <;> by_cases hlb : 8 < lb.length
  all_goals
    first | rw [if_pos hla] at hma | rw [if_neg hla] at hma
    first | rw [if_pos hlb] at hkb | rw [if_neg hlb] at hkb
    have HA := Lib.hid hma
    have HB := Lib.hid hkb
    clear hma hkb
    go_enter Try.func4, Try.ntmps4
    go_wp2_with fail
    refine (awake_any _).mono ?_
    rintro e w1 ⟨rfl, hf1⟩
    have hbx : Blk w1 w.heap.size 29 #[.int .i64 q0, .int .i64 q1] := (Blk.new w _ _).fr0 hf1
    have c0 := hbx.cell 0
    have c1 := hbx.cell 1
    have hfw := ((Fr.refl noneOf w).alloc _).trans hf1
    have hown0 : (w1.alloc (.cells #[] 3)).ownsRow w.heap.size 3 1 (.slice (some ⟨w1.heap.size, 0, none⟩) 0 0) 0 [] := World.ownsRow_lit w1 #[] 0 hfw.size (by decide) rfl
    have hf0 := hfw.alloc (.cells #[] 3)
    have hsl0 := (hmn.fr hf0).sl
    have hbase0 := hf0.size
    have hmb := fun n hn => hmn.1 n hn
    have hkb2 := fun n hn => hkn.1 n hn
    have HF0 := Lib.hid hf0
    have HMN := Lib.hid hmn
    have HKN := Lib.hid hkn
    clear hbx hf1 hf0 hfw ha hb hmn hkn
    go_wp2_with (first
      | (at_builtin; refine wpList_append_sl rfl (.tmp 28) (.tmp 29) 22 rfl w.heap.size 3 i0 (.int .i64 0) 1 8 Try.underlying22 hi hz0 hz1 hz2 rfl (by decide) _ 0 [] rfl hown0 _ _ _ (intsV m) rfl (by rw [HA.out]; exact hsl0) (ints_one m) hza (by unfold maxLen; omega) (by omega) hbase0 ?_; intro v1 w2 hown1 hg1 hat1; simp only [Nat.zero_add, List.nil_append] at hown1; have HF2 := Lib.hid (HF0.out.grown hg1 (fun g hg => (hown0.lt g hg).1)); have hbase2 := HF2.out.size; have hsl2 := (HKN.out.fr HF2.out).sl; clear hown0 hg1 hat1 hsl0 hbase0)
      | (at_builtin; refine wpList_append_sl rfl (.tmp 30) (.tmp 31) 22 rfl w.heap.size 3 i0 (.int .i64 0) 1 8 Try.underlying22 hi hz0 hz1 hz2 rfl (by decide) v1 _ (intsV m) rfl hown1 _ _ _ (intsV k) rfl (by rw [HB.out]; exact hsl2) (ints_one k) hzb (by unfold maxLen; omega) (by omega) hbase2 ?_; intro v2 w3 hown2 hg2 hat2; have HF3 := Lib.hid (HF2.out.grown hg2 (fun g hg => (hown1.lt g hg).1)); obtain ⟨D, cD, rfl, _, _, _⟩ := row_form hown2; have hall := all_nums HA.out HB.out hmb hkb2 hown2; have HALL := Lib.hid hall; clear hall hown1 hown2 hg2 hat2 hsl2 hbase2))
    refine (put_is D cD _ (m ++ k) _ (by have := HALL.out.2; omega) HALL.out.1 (by rw [List.length_append]; omega)).mono ?_
    rintro e w4 ⟨rfl, hf4⟩
    have HF4 := Lib.hid (HF3.out.trans hf4)
    clear hf4
    go_wp2_with fail
    refine (put_is A ca _ m _ HA.out (HMN.out.fr HF4.out) (by omega)).mono ?_
    rintro e w5 ⟨rfl, hf5⟩
    have HF5 := Lib.hid (HF4.out.trans hf5)
    clear hf5
    go_wp2_with fail
    refine (put_is B cb _ k _ HB.out (HKN.out.fr HF5.out) (by omega)).mono ?_
    rintro e w6 ⟨rfl, hf6⟩
    have HF6 := Lib.hid (HF5.out.trans hf6)
    clear hf6
    have hpm : (put m).length ≤ 80 := by have := put_len m HMN.out.1; omega
    have hpk : (put k).length ≤ 80 := by have := put_len k HKN.out.1; omega
    have hadd : ((⟨(put m).toArray⟩ : ByteArray) ++ ⟨(put k).toArray⟩) = ⟨(put (m ++ k)).toArray⟩ := by rw [str_add, put_append]
    have hmn : (-9223372036854775808 : Int) ≤ min (x : Int) (y : Int) ∧ min (x : Int) (y : Int) ≤ 9223372036854775807 := by omega
    have hmx : (-9223372036854775808 : Int) ≤ max (x : Int) (y : Int) ∧ max (x : Int) (y : Int) ≤ 9223372036854775807 := by omega
    have hle := parts_le x y
    have heq := put_mirror x
    have HMI := Lib.hid hmn
    have HMA := Lib.hid hmx
    have HEQ := Lib.hid heq
    have HLE := Lib.hid hle
    clear hmn hmx heq hle
    go_wp2_with fail
    refine (put1_any _ _ HMI.out.1 HMI.out.2).mono ?_
    rintro e w7 ⟨rfl, hf7⟩
    have HF7 := Lib.hid ((HF6.out.alloc _).trans hf7)
    clear hf7
    go_wp2_with fail
    refine (put1_any _ _ HMA.out.1 HMA.out.2).mono ?_
    rintro e w8 ⟨rfl, hf8⟩
    have HF8 := Lib.hid ((HF7.out.alloc _).trans hf8)
    clear hf8
    have hle := HLE.out
    go_wp2_with fail
    refine (put1_any (x : Int) _ (by omega) (by omega)).mono ?_
    rintro e w9 ⟨rfl, hf9⟩
    have HF9 := Lib.hid ((HF8.out.alloc _).trans hf9)
    clear hf9 hle
    go_wp2_with fail
    refine (put1_any (-(x : Int) - 1) _ (by omega) (by omega)).mono ?_
    rintro e wa ⟨rfl, hfa⟩
    have HFA := Lib.hid ((HF9.out.alloc _).trans hfa)
    clear hfa
    have heq := HEQ.out
    go_wp2_with fail
    refine (putText_any [] _ (by simp)).mono ?_
    rintro e wb ⟨rfl, hfb⟩
    have HFB := Lib.hid (HFA.out.trans hfb)
    rw [putText_nil]
    clear hfb heq
    go_wp2_with fail
    refine (put1_any 0 _ (by omega) (by omega)).mono ?_
    rintro e wc ⟨rfl, hfc⟩
    have HFC := Lib.hid ((HFB.out.alloc _).trans hfc)
    clear hfc
    go_wp2
    go_ret
    exact ⟨rfl, HFC.out⟩
end Go.Proofs.Ytijcochanobpgaa
