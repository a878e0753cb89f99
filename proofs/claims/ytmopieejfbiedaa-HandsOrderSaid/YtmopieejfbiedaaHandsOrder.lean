/-
  HandsOrder: the walk.
-/
import Derived.Test.YtmopieejfbiedaaLaw21
namespace Go.Proofs.Ytmopieejfbiedaa
open Go.RowKit
set_option linter.unusedVariables false
attribute [local go_sem ↓] Go.wp_at_zero Go.wp_at_succ

def seqH (a k : Nat) : List (Int × Int) := (List.range' a k).map (fun (i : Nat) => ((i : Int), (5 : Int)))
theorem seqH_len (a k : Nat) : (seqH a k).length = k := by simp [seqH]
theorem seqH_snoc (a k : Nat) : seqH a k ++ [(((a + k : Nat) : Int), 5)] = seqH a (k + 1) := by simp [seqH, List.range'_concat]
theorem seqH_cons (a k : Nat) : seqH a (k + 1) = ((a : Int), 5) :: seqH (a + 1) k := by simp [seqH, List.range'_succ]
/-- The greatest numbers of the viewers behind the first j are 0. -/
def fresh (j : Nat) (most : List Int) : Prop := ∀ v, j ≤ v → v < 16 → most[v]? = some 0
theorem fresh0 : fresh 0 zeros16 := by
  intro v _ hv
  rw [zeros16, List.getElem?_replicate, if_pos hv]
theorem fresh_set {j : Nat} {most : List Int} (h : fresh j most) (k : Int) : fresh (j + 1) (most.set j k) := by
  intro v h1 h2
  rw [List.getElem?_set_ne (by omega)]
  exact h v (by omega) h2
theorem fresh_mono {j k : Nat} {most : List Int} (h : fresh j most) (hk : j ≤ k) : fresh k most := fun v h1 h2 => h v (by omega) h2

theorem mod_bd (r k : Int) (hk : 0 < k) : -k < r.tmod k ∧ r.tmod k < k := ⟨Int.lt_tmod_of_pos r hk, Int.tmod_lt_of_pos r hk⟩

theorem handsOrder_any (room many : Int) (w : World) (hr0 : -9223372036854775808 ≤ room) (hr1 : room ≤ 9223372036854775807) (hm0 : -9223372036854775808 ≤ many) (hm1 : many ≤ 9223372036854775807) :
    Calls Try.prog 3 #[.int .i64 room, .int .i64 many] w fun e w' => e = .returned (.bool true) ∧ Fr noneOf w w' := by
  obtain ⟨b1, b2⟩ := mod_bd room 12 (by omega)
  obtain ⟨c1, c2⟩ := mod_bd many 15 (by omega)
  go_enter Try.func3, Try.ntmps3
  go_wp2_with fail
  refine (awake_any _).mono ?_
  rintro e w1 ⟨rfl, hf1⟩
  go_wp2_with fail
  obtain ⟨n, hn, n1, n2⟩ : ∃ n : Nat, 1 + room.tmod 12 % 12 = (n : Int) ∧ 1 ≤ n ∧ n ≤ 12 := ⟨(1 + room.tmod 12 % 12).toNat, by omega, by omega, by omega⟩
  obtain ⟨m, hm, m1, m2⟩ : ∃ m : Nat, 1 + many.tmod 15 % 15 = (m : Int) ∧ 1 ≤ m ∧ m ≤ 15 := ⟨(1 + many.tmod 15 % 15).toNat, by omega, by omega, by omega⟩
  rw [hn, hm]
  clear hn hm b1 b2 c1 c2
  refine (new_any n _).mono ?_
  rintro e wB ⟨rfl, hT, hfB⟩
  have hrn : roomOf (n : Int) = n := by unfold roomOf; omega
  rw [hrn] at hT
  have hsz := hf1.size
  have hbB := hT.lt
  have hfw := hf1.trans hfB
  clear hf1 hfB hrn
  obtain ⟨b, hb⟩ : ∃ b, b = w1.heap.size := ⟨_, rfl⟩
  rw [← hb] at hsz hT hbB ⊢
  clear hb
  have HT := Lib.hid hT
  have HFW := Lib.hid hfw
  clear hT hfw
  go_wp2
  go_loopw [9] (fun x wr => ∃ (i : Nat) (most : List Int), i ≤ m ∧ x = .int .i64 i ∧ Tab n (seqH 0 (min i n)) most b wr ∧ fresh (min i n) most ∧ Fr (justOf b) wB wr) (fun x _ => m - (intOf x).toNat)
  case atStart => exact ⟨0, zeros16, by omega, rfl, by simpa [seqH] using HT.out, by simpa using fresh0, Fr.refl _ _⟩
  case round =>
    obtain ⟨i, most, hi, rfl, hT, hF, hfr⟩ := hrel
    by_cases hlt : i < m
    · by_cases hin : i < n
      · rw [Nat.min_eq_left (by omega)] at hT hF
        have HT1 := Lib.hid hT
        have HF := Lib.hid hF
        have HFR := Lib.hid hfr
        clear hT hF hfr
        go_wp2_with (go_at_call 9; refine (raise_new b n (seqH 0 i) most i 5 0 _ HT1.out (by omega) (HF.out i (Nat.le_refl _) (by omega)) (by omega) (by omega) (by omega) (by rw [seqH_len]; exact hin)).mono ?_; rintro e w2 ⟨rfl, hT2, hf2⟩)
        go_roundw
        case rel =>
          refine ⟨i + 1, most.set i 5, by omega, by go_num, ?_, ?_, HFR.out.trans hf2⟩
          · rw [Nat.min_eq_left (by omega), ← seqH_snoc, Nat.zero_add]; exact hT2
          · rw [Nat.min_eq_left (by omega)]; exact fresh_set HF.out 5
        case measure => simp [intOf]; omega
      · rw [Nat.min_eq_right (by omega)] at hT hF
        have HT1 := Lib.hid hT
        have HF := Lib.hid hF
        have HFR := Lib.hid hfr
        clear hT hF hfr
        go_wp2_with (go_at_call 9; refine (raise_full b n (seqH 0 n) most i 5 0 _ HT1.out (by omega) (HF.out i (by omega) (by omega)) (by omega) (by omega) (by omega) (by rw [seqH_len]; omega)).mono ?_; rintro e w2 ⟨rfl, hf2⟩)
        go_roundw
        case rel =>
          refine ⟨i + 1, most, by omega, by go_num, ?_, ?_, HFR.out.trans (Fr.of0 _ hf2)⟩
          · rw [Nat.min_eq_right (by omega)]; exact HT1.out.fr hf2
          · rw [Nat.min_eq_right (by omega)]; exact HF.out
        case measure => simp [intOf]; omega
    · have hii : i = m := by omega
      subst hii
      have HT1 := Lib.hid hT
      have HF := Lib.hid hF
      have HFR := Lib.hid hfr
      clear hT hF hfr hlt hi
      go_wp2
      go_loopw [10] (fun x wr => ∃ (j : Nat) (most : List Int), j ≤ i ∧ x = .int .i64 j ∧ Tab n (seqH j (min (n + j) i - j)) most b wr ∧ fresh (min (n + j) i) most ∧ Fr (justOf b) wB wr) (fun x _ => i - (intOf x).toNat)
      case atStart => exact ⟨0, most, by omega, rfl, by rw [show min (n + 0) i - 0 = min i n by omega]; exact HT1.out, by rw [show min (n + 0) i = min i n by omega]; exact HF.out, HFR.out⟩
      case round =>
        obtain ⟨j, most, hj, rfl, hT, hF, hfr⟩ := hrel
        by_cases hlt : j < i
        · rw [show min (n + j) i - j = (min (n + j) i - j - 1) + 1 by omega, seqH_cons] at hT
          have HT1 := Lib.hid hT
          have HF := Lib.hid hF
          have HFR := Lib.hid hfr
          clear hT hF hfr
          by_cases hk : n + j < i
          · go_wp2_with (first
              | (go_at_call 9; refine (raise_new b n (seqH (j + 1) (min (n + j) i - j - 1)) most (n + j) 5 0 _ (Tab.fr hT2 (by repeat (first | exact Fr.refl _ _ | assumption | apply Fr.drew | apply Fr.alloc))) (by omega) (HF.out (n + j) (by omega) (by omega)) (by omega) (by omega) (by omega) (by rw [seqH_len]; omega)).mono ?_; rintro e w3 ⟨rfl, hT3, hf3⟩)
              | (go_at_call 10; refine (dismiss_some b n j 5 _ most _ HT1.out).mono ?_; rintro e w2 ⟨rfl, hT2, hf2⟩; have hb2 := hT2.lt))
            all_goals
              go_roundw
              case rel =>
                refine ⟨j + 1, most.set (n + j) 5, by omega, by go_num, ?_, ?_, (((HFR.out.trans hf2).alloc _).trans hf3)⟩
                · have e : seqH (j + 1) (min (n + (j + 1)) i - (j + 1)) = seqH (j + 1) (min (n + j) i - j - 1) ++ [(((n + j : Nat) : Int), 5)] := by
                    rw [show min (n + (j + 1)) i - (j + 1) = (min (n + j) i - j - 1) + 1 by omega, ← seqH_snoc, show j + 1 + (min (n + j) i - j - 1) = n + j by omega]
                  rw [e]
                  exact hT3
                · have hF2 : fresh (n + j) most := fresh_mono HF.out (by omega)
                  exact fresh_mono (fresh_set hF2 5) (by omega)
              case measure => simp [intOf]; omega
          · go_wp2_with (go_at_call 10; refine (dismiss_some b n j 5 _ most _ HT1.out).mono ?_; rintro e w2 ⟨rfl, hT2, hf2⟩; have hb2 := hT2.lt)
            all_goals
              go_roundw
              case rel =>
                refine ⟨j + 1, most, by omega, by go_num, ?_, fresh_mono HF.out (by omega), ((HFR.out.trans hf2).alloc _)⟩
                rw [show min (n + (j + 1)) i - (j + 1) = min (n + j) i - j - 1 by omega]
                exact hT2.fr ((Fr.refl _ _).alloc _)
              case measure => simp [intOf]; omega
        · have hjj : j = i := by omega
          subst hjj
          rw [show min (n + j) j - j = 0 by omega] at hT
          have HT1 := Lib.hid hT
          have HFR := Lib.hid hfr
          clear hT hfr
          go_wp2_with (first
            | (go_at_call 11; refine (len_is b n [] most _ (Tab.fr HT1.out (by repeat (first | exact Fr.refl _ _ | assumption | apply Fr.drew | apply Fr.alloc)))).mono ?_; rintro e w' ⟨rfl, rfl⟩)
            | (go_at_call 10; refine (dismiss_none b n most _ HT1.out).mono ?_; rintro e w2 ⟨rfl, hf2⟩))
          go_ret
          exact ⟨rfl, HFW.out.trans' ((HFR.out.trans (Fr.of0 _ hf2)).alloc _) (fun x hx hh => by have : x = b := hh; omega)⟩
end Go.Proofs.Ytmopieejfbiedaa
