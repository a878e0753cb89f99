/-
  HandsReach: the walk.
-/
import Derived.Test.YtmopieejfbiedaaReachS
import Derived.Test.YtmopieejfbiedaaShutI
import Derived.Deep.DeepCutAuto
import Derived.Deep.QuietTactic
import Derived.BigQuiet
namespace Go.Proofs.Ytmopieejfbiedaa
open Go.RowKit
set_option linter.unusedVariables false
attribute [local go_sem ↓] Go.wp_at_zero Go.wp_at_succ

set_option maxHeartbeats 4000000 in
set_option maxRecDepth 100000 in
theorem handsReach_any (A : Option Addr) (c : Nat) (l : List Int) (lost acks : Int) (w : World) (hl : NumsAt w A l) (hlc : l.length ≤ c) (hcm : c ≤ 9223372036854775807) (hz : A = none → c = 0) :
    Calls Try.prog 5 #[.slice A l.length c, .int .u64 lost, .int .u64 acks] w fun e w' => e = .returned (.bool true) ∧ Fr noneOf w w' := by
  obtain ⟨i0, hi0, hz0, hz1, hz2⟩ := info_parts int_info
  have hlen : l.length ≤ 9223372036854775807 := by omega
  have HL := Lib.hid hl
  clear hl hlc hcm hz
  go_enter Try.func5, Try.ntmps5
  go_wp2_with (first
    | (go_at_call 7; refine (awake_any _).mono ?_; rintro e w1 ⟨rfl, hf1⟩)
    | (go_at_call 8; refine (new_any 12 _).mono ?_; rintro e wB ⟨rfl, hT, hfB⟩; have hbB := hT.lt))
  have hr12 : roomOf 12 = 12 := by decide
  rw [hr12] at hT
  have hfw := (hf1.trans hfB).alloc (.cells #[.int .i64 0, .slice none 0 0, .int .i64 0] 47)
  have hT2 := hT.x.fr ((Fr.refl noneOf wB).alloc (.cells #[.int .i64 0, .slice none 0 0, .int .i64 0] 47)) (fun _ x => x) (fun x => x)
  have hR := rai_new (sepR w1.heap.size (.slice none 0 0)) wB
  have hszB := hfB.size
  obtain ⟨b, hb⟩ : ∃ b, b = w1.heap.size := ⟨_, rfl⟩
  obtain ⟨rb, hrb⟩ : ∃ rb, rb = wB.heap.size := ⟨_, rfl⟩
  obtain ⟨w0, hw0⟩ : ∃ w0, w0 = wB.alloc (.cells #[.int .i64 0, .slice none 0 0, .int .i64 0] 47) := ⟨_, rfl⟩
  have hs0 : w0.heap.size = rb + 1 := by rw [hw0, hrb]; simp
  rw [← hw0, ← hrb] at hR
  rw [← hb] at hT2 hR
  rw [← hw0] at hT2 hfw
  have hbr : b < rb := by rw [hb, hrb]; exact hbB
  have hwb : w.heap.size ≤ b := by rw [hb]; exact hf1.size
  rw [← hb, ← hrb, ← hw0]
  obtain ⟨N, hN⟩ : ∃ N, N = min l.length 12 := ⟨_, rfl⟩
  have hNl : N ≤ l.length := by omega
  have hN12 : N ≤ 12 := by omega
  have HS0 : Hid (RSt w0 b rb N (.slice none 0 0) 0 0 0 [] w0) := Lib.hid ⟨Want.nil 0, by omega, by omega, by omega, by simp, by simp, ⟨zeros16, hT2.any, by decide⟩, hR, World.ownsRow_nil _ _ _ _, Fr.refl _ _, by omega, by omega, by omega⟩
  have HFW := Lib.hid hfw
  have HNN := Lib.hid hN
  clear hR hT2 hfw hT hf1 hfB hw0 hb hrb hbB hszB hr12 hN
  go_loopw [10, 11, 12] (fun v10 v11 v12 wr => ∃ i k g d want, i ≤ 200 ∧ v12 = .int .i64 (i : Nat) ∧ v11 = .int .i64 (k : Nat) ∧ RSt w0 b rb N v10 k g d want wr ∧ (64 ≤ i → left N k want.length d ≤ 92 - i)) (fun _ _ v12 _ => 200 - (intOf v12).toNat)
  case atStart => exact ⟨0, 0, 0, 0, [], by omega, rfl, rfl, HS0.out, fun h => by omega⟩
  case round =>
    obtain ⟨i, k, g, d, want, hi, rfl, rfl, hst, hpot⟩ := hrel
    have HST := Lib.hid hst
    have HPOT := Lib.hid hpot
    clear hst hpot
    by_cases hlt : i < 200
    · obtain ⟨Q, hQ⟩ : ∃ Q : List Int, Q = want.drop d := ⟨_, rfl⟩
      have hQl : Q.length = want.length - d := by rw [hQ, List.length_drop]
      have HR := Lib.hid HST.out.rai
      rw [← hQ] at HR
      have HQ := Lib.hid hQ
      have HQL := Lib.hid hQl
      obtain ⟨G, hG⟩ : ∃ G : Bool, (G = false ∧ ¬ k < l.length) ∨ (G = false ∧ k < l.length ∧ ¬ k < 12) ∨ (G = false ∧ k < l.length ∧ k < 12 ∧ ¬ Q.length < 4) ∨ (G = true ∧ k < l.length ∧ k < 12 ∧ Q.length < 4) := by
        by_cases h1 : k < l.length
        · by_cases h2 : k < 12
          · by_cases h3 : Q.length < 4
            · exact ⟨true, .inr (.inr (.inr ⟨rfl, h1, h2, h3⟩))⟩
            · exact ⟨false, .inr (.inr (.inl ⟨rfl, h1, h2, h3⟩))⟩
          · exact ⟨false, .inr (.inl ⟨rfl, h1, h2⟩)⟩
        · exact ⟨false, .inl ⟨rfl, h1⟩⟩
      have HG := Lib.hid hG
      clear hQ hQl hG
      have hlen' : (l.length : Int) ≤ 9223372036854775807 := by omega
      go_upto_region 11 with fail
      go_cut [41] (fun s41 wx => s41 = .bool G ∧ wx = wr)
      case first =>
        rcases HG.out with ⟨rfl, h1⟩ | ⟨rfl, h1, h2⟩ | ⟨rfl, h1, h2, h3⟩ | ⟨rfl, h1, h2, h3⟩
        all_goals
          go_wp2_with (go_at_call 14; refine (rlen_is _ rb Q _ _ HR.out).mono ?_; rintro e w' ⟨rfl, rfl⟩)
          go_meet
          exact ⟨by first | rfl | (simp; omega), rfl⟩
      case rest =>
      obtain ⟨rfl, rfl⟩ := hcut
      go_upto_if 41 with fail
      go_cut [10, 11] (fun s10 s11 wx => ∃ k' want', s11 = .int .i64 (k' : Nat) ∧ RSt w0 b rb N s10 k' g d want' wx ∧ (64 ≤ i → left N k' want'.length d ≤ 92 - i ∧ (want'.length = d → left N k' want'.length d ≤ 91 - i)))
      case first =>
        have hk0 := HST.out.kN
        cases G with
        | false =>
          go_wp2
          go_meet
          refine ⟨k, want, rfl, HST.out, fun h64 => ⟨HPOT.out h64, fun e => ?_⟩⟩
          have hq := HQL.out
          have hn := HNN.out
          have hp := HPOT.out h64
          have hkN : k = N := by
            rcases HG.out with ⟨_, h1⟩ | ⟨_, h1, h2⟩ | ⟨_, h1, h2, h3⟩ | ⟨h, _⟩
            · omega
            · omega
            · omega
            · cases h
          unfold left
          omega
        | true =>
          obtain ⟨hk1, hk2, hk3⟩ : k < l.length ∧ k < 12 ∧ Q.length < 4 := by
            rcases HG.out with ⟨h, _⟩ | ⟨h, _⟩ | ⟨h, _⟩ | ⟨_, h⟩
            · cases h
            · cases h
            · cases h
            · exact h
          have hkn : k < N := by have := HNN.out; omega
          obtain ⟨gl, ol, rfl, hgl, hcl⟩ := HL.out.at_ (by omega)
          obtain ⟨x, hx⟩ : ∃ x, l[k]? = some x := ⟨_, List.getElem?_eq_getElem hk1⟩
          have cx : wc.cell? ⟨gl, ol + k, none⟩ = some (.int .i64 x) := by
            refine ((HST.out.fr.cell (p := ⟨gl, ol + k, none⟩) (by have := HFW.out.size; simp; omega) ?_).trans (HFW.out.cell (p := ⟨gl, ol + k, none⟩) hgl (fun x => x))).trans (hcl k x hx)
            rintro (e | e)
            · simp at e; omega
            · simp at e; omega
          obtain ⟨q, hq, hq63⟩ := and_le x 63 (by omega)
          have hq' : bits .and .i64 x 63 = (q : Int) := hq
          clear hq hcl hx

          have hwt := HST.out.wt
          have hbd := hwt.bd
          have hwl : want.length ≤ 12 := by have := hwt.le; omega
          have HWT := Lib.hid hwt
          have HBD := Lib.hid hbd
          clear hwt hbd hlen'
          have k12 : (k : Int) < 12 := by omega
          have hqN : (0 : Int) ≤ (q : Int) := by omega
          have hqM : (q : Int) ≤ 1048576 := by omega
          have hql := HQL.out
          by_cases hq0 : q < 1
          · have hq1 : ¬ (0 : Int) < (q : Int) := by omega
            clear hql
            go_wp2_with (go_at_call 15; refine (rraise_no _ rb q Q _ _ HR.out (.inl (by omega))).mono ?_; rintro e w1 ⟨rfl, hw1⟩)
            go_meet
            refine ⟨k + 1, want, by go_num, (HST.out.fr0 hw1).skip hkn, fun h64 => ?_⟩
            have hp := HPOT.out h64
            unfold left at hp ⊢
            omega
          · have hq1 : (0 : Int) < (q : Int) := by omega
            have hq2 : 1 ≤ (q : Int) := by omega
            obtain ⟨A', c', rfl, hc', hz', _⟩ := row_form HST.out.own
            have HOW : Hid (∀ w1, Fr (justOf rb) wc w1 → w1.ownsRow w0.heap.size 3 1 (.slice A' want.length c') want.length (intC want)) := Lib.hid (fun w1 hw1 => ownsRow_frS HST.out.own hw1 (fun x hx y => by
              have := (HST.out.own_ge hx).1
              have := HST.out.lr
              have : x = rb := y
              omega))
            have hszc := HST.out.fr.size
            have hends : ∀ (w1 w3 : World) (v' : Value), lastD want < (q : Int) → Fr (justOf rb) wc w1 → Rai (sepR b (.slice A' want.length c')) (Q ++ [(q : Int)]) q rb w1 → (w1.alloc (.cells #[.int .i64 q] 3)).grownBy w3 (Value.slice A' want.length c').ownBlock →
                (v'.ownBlock = (Value.slice A' want.length c').ownBlock ∨ v'.ownBlock = some (w1.alloc (.cells #[.int .i64 q] 3)).heap.size) → w3.ownsRow w0.heap.size 3 1 v' (want.length + 1) (intC want ++ [.int .i64 q]) →
                RSt w0 b rb N v' (k + 1) g d (want ++ [(q : Int)]) w3 ∧ (64 ≤ i → left N (k + 1) (want ++ [(q : Int)]).length d ≤ 92 - i ∧ ((want ++ [(q : Int)]).length = d → left N (k + 1) (want ++ [(q : Int)]).length d ≤ 91 - i)) := by
              intro w1 w3 v' hlq hw1 hR1 hg3 hat3 hown3
              have hql := HQL.out
              have hdg := HST.out.dg
              have hgw := HST.out.gw
              refine ⟨HST.out.raise hkn hq2 (by omega) hlq (by omega) hw1 (by rw [← HQ.out]; exact hR1) ((Fr.refl _ _).alloc _) hg3 hat3 hown3, fun h64 => ?_⟩
              have hp := HPOT.out h64
              unfold left at hp ⊢
              simp only [List.length_append, List.length_cons, List.length_nil]
              omega
            have HEND := Lib.hid hends
            clear hends hql
            by_cases hw0 : want.length = 0
            · have hlq : lastD want < (q : Int) := by
                have : want = [] := List.length_eq_zero_iff.1 hw0
                rw [this, lastD_nil]; omega
              have hwz : ((want.length : Int) == 0) = true := by simp [hw0]
              clear hw0
              go_wp2_with (first
                | (go_at_call 15; refine (rraise_yes _ rb q Q _ _ HST.out.sep_lt HR.out hq2 hqM hlq hk3).mono ?_; rintro e w1 ⟨rfl, hR1, hw1⟩; have hz1' := hw1.size; have HO1 := Lib.hid (ownsRow_frS (HOW.out w1 hw1) ((Fr.refl noneOf w1).alloc (.cells #[.int .i64 q] 3)) (fun _ _ x => x)))
                | (at_builtin; refine wpList_append_sl rfl (.tmp 70) (.tmp 72) 41 rfl w0.heap.size 3 i0 (.int .i64 0) 1 8 Try.underlying41 hi0 hz0 hz1 hz2 rfl (by decide) _ want.length (intC want) rfl HO1.out (some ⟨w1.heap.size, 0, none⟩) 1 1 [.int .i64 q] rfl (one_sl _ _ _) (int_one q) (fun h => nomatch h) (by unfold maxLen; omega) (by omega) (by simp; omega) ?_; intro v' w3 hown3 hg3 hat3))
              go_meet
              exact ⟨k + 1, want ++ [(q : Int)], by go_num, HEND.out _ _ _ hlq hw1 hR1 hg3 hat3 hown3⟩
            · have hwz : ((want.length : Int) == 0) = false := by simp [hw0]
              have hwp : 0 < want.length := by omega
              by_cases hlq : lastD want < (q : Int)
              · go_wp2_with (first
                  | (go_at_call 15; refine (rraise_yes _ rb q Q _ _ HST.out.sep_lt HR.out hq2 hqM hlq hk3).mono ?_; rintro e w1 ⟨rfl, hR1, hw1⟩; have hz1' := hw1.size; have HO1 := Lib.hid (ownsRow_frS (HOW.out w1 hw1) ((Fr.refl noneOf w1).alloc (.cells #[.int .i64 q] 3)) (fun _ _ x => x)); obtain ⟨cg, co, rfl, hcg, hcl⟩ := last_cell (Sl.of_row (HOW.out w1 hw1)) hwp)
                  | (at_builtin; refine wpList_append_sl rfl (.tmp 70) (.tmp 72) 41 rfl w0.heap.size 3 i0 (.int .i64 0) 1 8 Try.underlying41 hi0 hz0 hz1 hz2 rfl (by decide) _ want.length (intC want) rfl HO1.out (some ⟨w1.heap.size, 0, none⟩) 1 1 [.int .i64 q] rfl (one_sl _ _ _) (int_one q) (fun h => nomatch h) (by unfold maxLen; omega) (by omega) (by simp; omega) ?_; intro v' w3 hown3 hg3 hat3))
                go_meet
                exact ⟨k + 1, want ++ [(q : Int)], by go_num, HEND.out _ _ _ hlq hw1 hR1 hg3 hat3 hown3⟩
              · go_wp2_with (go_at_call 15; refine (rraise_no _ rb q Q _ _ HR.out (.inr ⟨hq2, hqM, by omega⟩)).mono ?_; rintro e w1 ⟨rfl, hw1⟩; have hz1' := hw1.size; obtain ⟨cg, co, rfl, hcg, hcl⟩ := last_cell (Sl.of_row (HOW.out w1 (Fr.of0 _ hw1))) hwp)
                go_meet
                refine ⟨k + 1, want, by go_num, (HST.out.fr0 hw1).skip hkn, fun h64 => ?_⟩
                have hp := HPOT.out h64
                unfold left at hp ⊢
                omega
      case rest =>
      obtain ⟨k', want', rfl, hst, hpot⟩ := hcut
      have HST' := Lib.hid hst
      have HPOT' := Lib.hid hpot
      clear hst hpot HST HPOT HR HQ HQL HG
      have hk12 : k' ≤ 12 := by have := HST'.out.kN; omega
      have hwd : d ≤ want'.length := by have := HST'.out.dg; have := HST'.out.gw; omega
      have hi64 : (64 ≤ i + 1 → left N k' want'.length d ≤ 92 - (i + 1)) ∨ d < want'.length := by
        by_cases e : want'.length = d
        · refine .inl fun h => ?_
          by_cases h64 : 64 ≤ i
          · have := (HPOT'.out h64).2 e
            omega
          · have := HST'.out.w4
            unfold left
            omega
        · exact .inr (by omega)
      by_cases hw : d < want'.length
      · obtain ⟨x, hx⟩ : ∃ x, want'[d]? = some x := ⟨_, List.getElem?_eq_getElem hw⟩
        have hxlow := HST'.out.wt.low x (List.mem_of_getElem? hx)
        have hx1 : 1 ≤ x := by omega
        have hxM : x ≤ 1048576 := by omega
        have HX := Lib.hid hx
        have HR' := Lib.hid HST'.out.rai
        rw [drop_at hx] at HR'
        clear hx hxlow hi64
        have hleave : ∀ (g' : Nat) (wx : World), RSt w0 b rb N u10 k' g' d want' wx → i < 64 → (64 ≤ i + 1 → left N k' want'.length d ≤ 92 - (i + 1)) := fun g' wx h _ _ => by
          have := h.left28 hN12
          omega
        have hacked : ∀ (g' : Nat) (wx : World), RSt w0 b rb N u10 k' g' (d + 1) want' wx → (64 ≤ i + 1 → left N k' want'.length (d + 1) ≤ 92 - (i + 1)) := fun g' wx h _ => by
          by_cases h64 : 64 ≤ i
          · have hp := (HPOT'.out h64).1
            unfold left at hp ⊢
            omega
          · have := h.left28 hN12
            omega
        have HLV := Lib.hid hleave
        have HAK := Lib.hid hacked
        clear hleave hacked
        by_cases h64 : i < 64
        · go_wp2_with (first
            | (go_at_call 16; refine (rhead_some _ rb x _ _ _ HR'.out).mono ?_; rintro e w1 ⟨rfl, hw1⟩; have HA := Lib.hid (HST'.out.fr0 hw1))
            | (go_at_call 9; refine (RSt.traise HA.out HX.out hN12).mono ?_; rintro e w2 ⟨rfl, hA2⟩; have HB := Lib.hid hA2; clear hA2)
            | (go_at_call 17; refine (RSt.rack HB.out HX.out).mono ?_; rintro e w3 ⟨rfl, hA3⟩; have HC := Lib.hid hA3; clear hA3))
          · go_roundw
            case rel => exact ⟨i + 1, k', g, d, want', by omega, by go_num, rfl, HA.out, HLV.out _ _ HA.out h64⟩
            case measure => simp [intOf]; omega
          · go_roundw
            case rel => exact ⟨i + 1, k', d + 1, d + 1, want', by omega, by go_num, rfl, HC.out, HAK.out _ _ HC.out⟩
            case measure => simp [intOf]; omega
          · go_roundw
            case rel => exact ⟨i + 1, k', d + 1, d, want', by omega, by go_num, rfl, HB.out, HLV.out _ _ HB.out h64⟩
            case measure => simp [intOf]; omega
        · go_wp2_with (first
            | (go_at_call 16; refine (rhead_some _ rb x _ _ _ HR'.out).mono ?_; rintro e w1 ⟨rfl, hw1⟩; have HA := Lib.hid (HST'.out.fr0 hw1))
            | (go_at_call 9; refine (RSt.traise HA.out HX.out hN12).mono ?_; rintro e w2 ⟨rfl, hA2⟩; have HB := Lib.hid hA2; clear hA2)
            | (go_at_call 17; refine (RSt.rack HB.out HX.out).mono ?_; rintro e w3 ⟨rfl, hA3⟩; have HC := Lib.hid hA3; clear hA3))
          go_roundw
          case rel => exact ⟨i + 1, k', d + 1, d + 1, want', by omega, by go_num, rfl, HC.out, HAK.out _ _ HC.out⟩
          case measure => simp [intOf]; omega
      · have hpe : 64 ≤ i + 1 → left N k' want'.length d ≤ 92 - (i + 1) := by
          rcases hi64 with h | h
          · exact h
          · omega
        have HPE := Lib.hid hpe
        clear hi64 hpe
        have hd0 : want'.drop d = [] := List.drop_eq_nil_iff.2 (by omega)
        have HR' := Lib.hid HST'.out.rai
        rw [hd0] at HR'
        clear hd0
        go_wp2_with (go_at_call 16; refine (rhead_none _ rb _ _ HR'.out).mono ?_; rintro e w' ⟨rfl, rfl⟩)
        go_roundw
        case rel => exact ⟨i + 1, k', g, d, want', by omega, by go_num, rfl, HST'.out, HPE.out⟩
        case measure => simp [intOf]; omega
    · have hi2 : i = 200 := by omega
      subst hi2
      have hp := HPOT.out (by omega)
      unfold left at hp
      have hst := HST.out
      have hkN : k = N := by have := hst.kN; omega
      have hwd : want.length = d := by have := hst.dg; have := hst.gw; omega
      have hgd : g = d := by have := hst.dg; have := hst.gw; omega
      have hd0 : want.drop d = [] := List.drop_eq_nil_iff.2 (by omega)
      have HR' := Lib.hid hst.rai
      rw [hd0] at HR'
      have hw12 : want.length ≤ 12 := by have := hst.wt.le; omega
      obtain ⟨most, ht, _⟩ := hst.tab
      rw [show want.take g = want from List.take_of_length_le (by omega)] at ht
      have HT := Lib.hid ht
      have hll : (sent want).length = want.length := sent_len want
      have hlist := list_is b 12 (sent want) most wr HT.out.tab (by omega)
      rw [hll] at hlist
      have HLI := Lib.hid hlist
      obtain ⟨A', c', rfl, hc', hz', _⟩ := row_form hst.own
      clear hkN hgd hd0 ht hlist hst hp hlt hi hll
      have HW := Lib.hid hwd
      clear hwd
      go_wp2_with (first
        | (go_at_call 13; refine HLI.out.mono ?_; rintro e w1 ⟨A2, c2, rfl, hs2, hf2, hz2, hc2⟩; have HS2 := Lib.hid hs2; have HF2 := Lib.hid hf2; clear hs2 hf2)
        | (go_at_call 14; refine (rlen_is _ rb [] _ _ ((HR'.out.fr HF2.out (fun _ x => x.elim) HST.out.nr))).mono ?_; rintro e w' ⟨rfl, rfl⟩))
      have hsw : Sl w1 A' want.length 1 (intC want) := (Sl.of_row HST.out.own).fr HF2.out
      have HSW := Lib.hid hsw
      clear hsw
      go_loopw [18] (fun v18 wx => ∃ j : Nat, j ≤ want.length ∧ v18 = .int .i64 j ∧ Fr noneOf w1 wx) (fun v18 _ => want.length - (intOf v18).toNat)
      case atStart => exact ⟨0, by omega, rfl, Fr.refl _ _⟩
      case round =>
        obtain ⟨j, hj, rfl, hfx⟩ := hrel
        have HFX := Lib.hid hfx
        clear hfx
        by_cases hjl : j < want.length
        · obtain ⟨g2, o2, rfl, hg2, hc2'⟩ := HS2.out.2 (by omega)
          obtain ⟨g3, o3, rfl, hg3, hc3'⟩ := HSW.out.2 (by omega)
          obtain ⟨x, hx⟩ : ∃ x, want[j]? = some x := ⟨_, List.getElem?_eq_getElem hjl⟩
          obtain ⟨hs0', hs1'⟩ := handsV_at (sent_at hx)
          have d0 : wr.cell? ⟨g2, o2 + j * 2, none⟩ = some (.int .i64 2) := (HFX.out.cell (p := ⟨g2, o2 + j * 2, none⟩) hg2 (fun x => x)).trans (hc2' _ _ hs0')
          have d1 : wr.cell? ⟨g2, o2 + j * 2 + 1, none⟩ = some (.int .i64 x) := (HFX.out.cell (p := ⟨g2, o2 + j * 2 + 1, none⟩) hg2 (fun x => x)).trans (hc2' (j * 2 + 1) _ hs1')
          have d2 : wr.cell? ⟨g3, o3 + j, none⟩ = some (.int .i64 x) := (HFX.out.cell (p := ⟨g3, o3 + j, none⟩) hg3 (fun x => x)).trans (hc3' j _ (by simp [intC, hx]))
          have hji : (j : Int) < (want.length : Int) := by omega
          have hj0 : (0 : Int) ≤ (j : Int) := by omega
          clear hs0' hs1' hc2' hc3' hx
          go_wp2
          go_quiet (fail)
          go_wp2
          go_roundw
          case rel => exact ⟨j + 1, by omega, by go_num, HFX.out.drewN _⟩
          case measure => simp [intOf]; omega
        · have hjj : j = want.length := by omega
          subst hjj
          go_wp2
          go_ret
          exact ⟨rfl, (HFW.out.trans' ((HST.out.fr.trans (Fr.of0 _ HF2.out)).trans (Fr.of0 _ HFX.out)) (fun x hx hh => by rcases hh with h | h <;> omega))⟩
end Go.Proofs.Ytmopieejfbiedaa
