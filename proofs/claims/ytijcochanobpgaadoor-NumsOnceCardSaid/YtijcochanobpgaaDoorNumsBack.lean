/-
  NumsBack: the walk.
-/
import Derived.Test.YtijcochanobpgaaDoorPutText
import Derived.Test.YtijcochanobpgaaDoorAround
import Derived.Deep.DeepCutAuto
namespace Go.Proofs.YtijcochanobpgaaDoor
open Go.RowKit Nums
set_option linter.unusedVariables false

theorem Rw.fr0 {s : ByteArray} {p : Nat} {c : Int} {b : Nat} {w w' : World} (h : Rw s p c b w) (hf : Fr noneOf w w') : Rw s p c b w' := Blk.fr0 h hf
theorem of_any (s : ByteArray) (w : World) : Calls Tryd.prog 8 #[.string s] w fun e w' => ∃ b, e = .returned (.pointer (some ⟨b, 0, none⟩)) ∧ Rw s 0 0 b w' ∧ Fr noneOf w w' ∧ w.heap.size ≤ b := by
  have HB := Lib.hid (Blk.new w 47 #[.string s, .int .i64 0, .int .i64 0])
  go_enter Tryd.func8, Tryd.ntmps8
  go_wp2
  go_ret
  exact ⟨w.heap.size, rfl, HB.out, (Fr.refl _ _).alloc _, Nat.le_refl _⟩
theorem put_take_succ (m : List Int) (i : Nat) (x : Int) (h : m[i]? = some x) : put m = put (m.take i) ++ (enc (fold x) ++ put (m.drop (i + 1))) := by
  obtain ⟨hi, rfl⟩ := List.getElem?_eq_some_iff.1 h
  have e : m = m.take i ++ (m[i] :: m.drop (i + 1)) := by rw [← List.drop_eq_getElem_cons hi, List.take_append_drop]
  have e2 : put m = put (m.take i ++ (m[i] :: m.drop (i + 1))) := congrArg put e
  rw [e2, put_append]
  rfl
theorem put_take_next (m : List Int) (i : Nat) (x : Int) (h : m[i]? = some x) : (put (m.take (i + 1))).length = (put (m.take i)).length + (enc (fold x)).length := by
  obtain ⟨hi, rfl⟩ := List.getElem?_eq_some_iff.1 h
  rw [List.take_succ_eq_append_getElem hi, put_append, List.length_append, put_one]
set_option maxRecDepth 100000 in
set_option maxHeartbeats 4000000 in
theorem numsBack_any (A : Option Addr) (c : Nat) (l : List Int) (s t : List UInt8) (w : World) (h : NumsAt w A l) (hc : l.length ≤ c) (hcm : c ≤ 9223372036854775807) (_hz : A = none → c = 0) (hs : s.length ≤ 9223372036854775807) (ht : t.length ≤ 9223372036854775807) (_hg : errT w) :
    Calls Tryd.prog 5 #[.slice A l.length c, .string ⟨s.toArray⟩, .string ⟨t.toArray⟩] w fun e w' => e = .returned (.bool true) ∧ Fr noneOf w w' := by
  obtain ⟨m, hm, hml⟩ : ∃ m, m = l.take 12 ∧ m.length ≤ 12 := ⟨_, rfl, by simp; omega⟩
  have hmn : NumsAt w A m := by rw [hm]; exact h.cut 12
  have hmb := hmn.1
  obtain ⟨s1, hs1, hs1l⟩ : ∃ s1, s1 = s.take 100 ∧ s1.length ≤ 100 := ⟨_, rfl, by simp; omega⟩
  obtain ⟨t1, ht1, ht1l⟩ : ∃ t1, t1 = t.take 100 ∧ t1.length ≤ 100 := ⟨_, rfl, by simp; omega⟩
  have q1 : ∀ w, Calls Tryd.prog 7 #[.string ⟨s.toArray⟩, .int .i64 100] w fun e w' => e = .returned (.string ⟨s1.toArray⟩) ∧ w = w' := fun w => by rw [hs1]; exact short_any s 100 w hs (by omega)
  have q2 : ∀ w, Calls Tryd.prog 7 #[.string ⟨t.toArray⟩, .int .i64 100] w fun e w' => e = .returned (.string ⟨t1.toArray⟩) ∧ w = w' := fun w => by rw [ht1]; exact short_any t 100 w ht (by omega)
  have Q1 := Lib.hid q1
  have Q2 := Lib.hid q2
  have hme : ((12 < l.length ∧ m.length = 12) ∨ (¬ 12 < l.length ∧ m.length = l.length)) := by rw [hm, List.length_take]; omega
  have HME := Lib.hid hme
  -- the row's text
  have hpl := put_len m hmb
  have hsl := put_len [(s1.length : Int)] (fun n hn => by simp at hn; omega)
  have htl := put_len [(t1.length : Int)] (fun n hn => by simp at hn; omega)
  rw [put_one] at hsl htl
  simp only [List.length_singleton] at hsl htl
  have hps : (putText s1).length ≤ 110 := by rw [putText, List.length_append]; omega
  have hpt : (putText t1).length ≤ 110 := by rw [putText, List.length_append]; omega
  have hpt0 : 0 < (putText t1).length := by have := enc_pos (fold (t1.length : Int)); rw [putText, List.length_append]; omega
  have Q3 := Lib.hid (fun w => putText_any s1 w (by omega))
  have Q4 := Lib.hid (fun w => putText_any t1 w (by omega))
  have Q5 := Lib.hid (fun w h => put_any A c m w h (by omega))
  obtain ⟨x1, hx1⟩ : ∃ x1 : ByteArray, x1 = ⟨(putText s1).toArray⟩ := ⟨_, rfl⟩
  obtain ⟨x2, hx2⟩ : ∃ x2 : ByteArray, x2 = ⟨(put m).toArray⟩ := ⟨_, rfl⟩
  obtain ⟨x3, hx3⟩ : ∃ x3 : ByteArray, x3 = ⟨(putText t1).toArray⟩ := ⟨_, rfl⟩
  rw [← hx1] at Q3
  rw [← hx3] at Q4
  rw [← hx2] at Q5
  have z1 : x1.size ≤ 110 := by rw [hx1, str_size]; exact hps
  have z2 : x2.size ≤ 120 := by rw [hx2, str_size]; omega
  have z3 : x3.size ≤ 110 := by rw [hx3, str_size]; exact hpt
  have y1 : ¬ 9223372036854775807 < x1.size + x2.size := by omega
  have y2 : ¬ 9223372036854775807 < (x1 ++ x2).size + x3.size := by rw [ByteArray.size_append]; omega
  obtain ⟨S, hS⟩ : ∃ S, S = x1 ++ x2 ++ x3 := ⟨_, rfl⟩
  have hSl : S.data.toList = putText s1 ++ (put m ++ putText t1) := by
    rw [hS, hx1, hx2, hx3, str_add, str_add, List.append_assoc]
  have hSz : S.size = (putText s1).length + ((put m).length + (putText t1).length) := by
    have := congrArg List.length hSl
    simpa using this
  have Q6 := Lib.hid (fun w => of_any S w)
  rw [hS] at Q6
  have HSL := Lib.hid hSl
  have HSZ := Lib.hid hSz
  have HMN := Lib.hid hmn
  have HMB := Lib.hid hmb
  have hSz2 : Hid (S.size ≤ 100000) := Lib.hid (by omega)
  have HP0 := Lib.hid hpt0
  have HST := Lib.hid hS.symm
  have HLC := Lib.hid hc
  clear q1 q2 hm hs1 ht1 hs ht h hc hcm _hz _hg hme hpl hsl htl hps hpt hpt0 hx1 hx2 hx3 hSl hSz hmn hmb z1 z2 z3 hS
  go_enter Tryd.func5, Tryd.ntmps5
  go_wp2_with fail
  refine (awake_any _).mono ?_
  rintro e w1 ⟨rfl, hf1⟩
  go_upto_if 13 with fail
  go_cut [0] (fun s0 wx => s0 = .slice A m.length c ∧ wx = w1)
  case first =>
    rcases HME.out with ⟨a, b⟩ | ⟨a, b⟩
    · have hlc := HLC.out
      have hc12 : 12 ≤ c := by omega
      have hc12' : (12 : Int) ≤ (c : Int) := by omega
      clear hlc
      go_wp2
      go_meet
      exact ⟨by rw [b], rfl⟩
    · go_wp2
      go_meet
      exact ⟨by rw [b], rfl⟩
  case rest =>
  obtain ⟨rfl, rfl⟩ := hcut
  go_wp2_with (first
    | (go_at_call 7; (with_reducible refine (Q1.out _).mono ?_); rintro e w' ⟨rfl, rfl⟩)
    | (go_at_call 7; (with_reducible refine (Q2.out _).mono ?_); rintro e w' ⟨rfl, rfl⟩)
    | (go_at_call 19; (with_reducible refine (Q3.out _).mono ?_); rintro e w2 ⟨rfl, hf2⟩)
    | (go_at_call 13; (with_reducible refine (Q5.out _ (HMN.out.fr (hf1.trans hf2))).mono ?_); rintro e w3 ⟨rfl, hf3⟩)
    | (go_at_call 19; (with_reducible refine (Q4.out _).mono ?_); rintro e w4 ⟨rfl, hf4⟩)
    | (go_at_call 8; (with_reducible refine (Q6.out _).mono ?_); rintro e w5 ⟨b, rfl, hR, hf5, hb5⟩; rw [HST.out] at hR; have HR0 := Lib.hid hR; clear hR)
    | (go_at_call 15; refine (text_good [] s1 (put m ++ putText t1) 100 S b _ HSL.out hSz2.out (by omega) HR0.out).mono ?_; rintro e w6 ⟨rfl, hR6, hf6⟩; have HR6 := Lib.hid hR6; clear hR6))
  have hfr5 := (((hf1.trans hf2).trans hf3).trans hf4).trans hf5
  have hbw : w.heap.size ≤ b := by
    have a1 := hf1.size
    have a2 := hf2.size
    have a3 := hf3.size
    have a4 := hf4.size
    omega
  have hfr6 : Fr noneOf w w6 := hfr5.trans' hf6 (fun x hx e => by have : x = b := e; omega)
  obtain ⟨P, hP⟩ : ∃ P, P = (putText s1).length := ⟨_, rfl⟩
  have hR6 := HR6.out
  rw [List.length_nil, Nat.zero_add, ← hP] at hR6
  have HR7 := Lib.hid hR6
  have HF6 := Lib.hid hfr6
  have HP := Lib.hid hP
  clear hR6 HR6 HR0 hfr5 hfr6 hf1 hf2 hf3 hf4 hf5 hf6 hP hb5 y1 y2
  go_loopw [9] (fun v9 wr => ∃ i : Nat, i ≤ m.length ∧ v9 = .int .i64 i ∧ Rw S (P + (put (m.take i)).length) 0 b wr ∧ Fr noneOf w wr) (fun v9 _ => m.length - (intOf v9).toNat)
  case atStart => exact ⟨0, by omega, rfl, by simpa [put] using HR7.out, HF6.out⟩
  case round =>
    obtain ⟨i, hi, rfl, hR, hF⟩ := hrel
    have HR := Lib.hid hR
    have HF := Lib.hid hF
    clear hR hF
    by_cases hlt : i < m.length
    · obtain ⟨ga, oa, rfl, hga, hca⟩ := HMN.out.2 (fun e => by rw [e] at hlt; simp at hlt)
      obtain ⟨x, hx⟩ : ∃ x, m[i]? = some x := ⟨_, List.getElem?_eq_getElem hlt⟩
      have hxb := HMB.out x (List.mem_of_getElem? hx)
      have hcx : ∀ wx, Fr noneOf w wx → wx.cell? ⟨ga, oa + i, none⟩ = some (.int .i64 x) := fun wx hf => (hf.cell (p := ⟨ga, oa + i, none⟩) hga (fun x => x)).trans (hca i x hx)
      have HCX := Lib.hid hcx
      have hnext := put_take_next m i x hx
      have hsplit : S.data.toList = (putText s1 ++ put (m.take i)) ++ (enc (fold x) ++ (put (m.drop (i + 1)) ++ putText t1)) := by
        rw [HSL.out, put_take_succ m i x hx]
        simp only [List.append_assoc]
      have hplen : (putText s1 ++ put (m.take i)).length = P + (put (m.take i)).length := by rw [List.length_append, HP.out]
      have HNUM := Lib.hid (fun wx (hr : Rw S (P + (put (m.take i)).length) 0 b wx) => num_good (putText s1 ++ put (m.take i)) _ x x x S b wx hsplit hSz2.out hxb.1 hxb.2 (Int.le_refl _) (Int.le_refl _) (by rw [hplen]; exact hr))
      rw [hplen] at HNUM
      have HNX := Lib.hid hnext
      have hiI : (i : Int) < (m.length : Int) := by omega
      have hi0 : (0 : Int) ≤ (i : Int) := by omega
      have hbg : ga ≠ b := by omega
      clear hca hx hcx hnext hsplit hplen hxb
      go_wp2
      (go_region_held3 (fun w' => w'.cell? ⟨ga, oa + i, none⟩ = some (.int .i64 x) ∧ Fr noneOf w w')
        (first | exact ⟨HCX.out _ hk, hk⟩ | exact ⟨HCX.out _ HF.out, HF.out⟩ | exact ⟨HCX.out _ HF.out.drew, HF.out.drew⟩ | go_keep)
        (first
          | (go_at_call 9; (with_reducible refine (HNUM.out _ (HR.out.fr0 (by first | exact Fr.refl _ _ | exact (Fr.refl _ _).drew))).mono ?_); rintro e w2 ⟨rfl, hR2, hf2⟩; have hk : Fr noneOf w w2 := Fr.trans' (T := justOf b) (by first | exact HF.out | exact HF.out.drew) hf2 (fun y hy e => by have : y = b := e; omega))
          | (go_at_call 9; (with_reducible refine (HNUM.out _ (HR.out.fr0 (by first | exact Fr.refl _ _ | exact (Fr.refl _ _).drew))).mono ?_); rintro e w2 ⟨rfl, hR2, hf2⟩; have hk : Fr noneOf w w2 := Fr.trans' (T := justOf b) (by first | exact HF.out | exact HF.out.drew) hf2 (fun y hy e => by have : y = b := e; omega))))
      all_goals
        go_wp2
        go_roundw
        case rel => exact ⟨i + 1, by omega, by go_num, by rw [HNX.out, ← Nat.add_assoc]; exact hR2, hk⟩
        case measure => simp [intOf]; omega
    · have hii : i = m.length := by omega
      subst hii
      have hR := HR.out
      rw [List.take_of_length_le (Nat.le_refl _)] at hR
      obtain ⟨Q, hQ⟩ : ∃ Q, Q = P + (put m).length := ⟨_, rfl⟩
      rw [← hQ] at hR
      have HRQ := Lib.hid hR
      have hQS : Q < S.size := by rw [HSZ.out, hQ, HP.out]; have := HP0.out; omega
      have hpre : S.data.toList = (putText s1 ++ put m) ++ (putText t1 ++ []) := by rw [HSL.out]; simp
      have hprel : (putText s1 ++ put m).length = Q := by rw [List.length_append, hQ, HP.out]
      have hend : Q + (putText t1).length = S.size := by rw [HSZ.out, hQ, HP.out, Nat.add_assoc]
      have HTX := Lib.hid (fun wx (hr : Rw S Q 0 b wx) => text_good (putText s1 ++ put m) t1 [] (t1.length : Int) S b wx hpre hSz2.out (Int.le_refl _) (by rw [hprel]; exact hr))
      rw [hprel, hend] at HTX
      have hsz1 := str_size t1
      have hte : ((⟨t1.toArray⟩ : ByteArray).toList == (⟨t1.toArray⟩ : ByteArray).toList) = true := by simp
      clear hR HR hQ hpre hprel hend
      go_wp2_with (first
        | (go_at_call 16; refine (end_more S Q b _ hQS HRQ.out).mono ?_; rintro e w2 ⟨g, rfl, hB, hf2⟩; have HB := Lib.hid hB; have HR2 := Lib.hid (HRQ.out.fr0 hf2); clear hB)
        | (go_at_call 20; refine (is_around g 10 _ _ HB.out).mono ?_; rintro e w3 ⟨rfl, hf3⟩; have HR3 := Lib.hid (HR2.out.fr0 hf3))
        | (go_at_call 15; (with_reducible refine (HTX.out _ HR3.out).mono ?_); rintro e w4 ⟨rfl, hR4, hf4⟩; have HR4 := Lib.hid hR4; clear hR4)
        | (go_at_call 16; refine (end_done S b _ HR4.out).mono ?_; rintro e w5 ⟨rfl, hf5⟩; have HR5 := Lib.hid (HR4.out.fr0 hf5))
        | (go_at_call 10; have hh := hf9; refine (code_nil _).mono ?_; rintro e w10 ⟨rfl, hf10⟩; have hl := hh.trans hf10)
        | (go_at_call 10; refine (code_nil _).mono ?_; rintro e w8 ⟨rfl, hf8⟩; have HR8 := Lib.hid (HR5.out.fr0 hf8))
        | (go_at_call 11; refine (err_ok S S.size b _ HR8.out).mono ?_; rintro e w9 ⟨rfl, hf9⟩))
      go_ret
      have hA : Fr noneOf w w3 := (HF.out.trans hf2).trans hf3
      have hB4 : Fr noneOf w w4 := Fr.trans' (T := justOf b) hA hf4 (fun y hy e => by have : y = b := e; omega)
      exact ⟨rfl, ((hB4.trans hf5).trans hf8).trans hl⟩
end Go.Proofs.YtijcochanobpgaaDoor
