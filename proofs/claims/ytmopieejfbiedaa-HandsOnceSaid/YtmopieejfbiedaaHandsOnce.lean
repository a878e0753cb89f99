/-
  HandsOnce: the walk.
-/
import Derived.Test.YtmopieejfbiedaaOnceS
import Derived.Test.YtmopieejfbiedaaShutO
import Derived.Deep.DeepCutAuto
import Derived.Deep.QuietTactic
import Derived.BigQuiet
namespace Go.Proofs.Ytmopieejfbiedaa
open Go.RowKit
set_option linter.unusedVariables false
attribute [local go_sem ↓] Go.wp_at_zero Go.wp_at_succ

set_option maxHeartbeats 4000000 in
set_option maxRecDepth 100000 in
theorem handsOnce_any (rm : Int) (A : Option Addr) (c : Nat) (l : List (Int × Int × Int × Bool)) (w : World) (_hr0 : -9223372036854775808 ≤ rm) (_hr1 : rm ≤ 9223372036854775807) (hl : OpsAt w A l) :
    Calls Try.prog 4 #[.int .i64 rm, .slice A l.length c] w fun e w' => e = .returned (.bool true) ∧ Fr noneOf w w' := by
  obtain ⟨i0, hi0, hz0, hz1, hz2⟩ := info_parts hand_info
  have HL := Lib.hid hl
  clear hl _hr0 _hr1
  go_enter Try.func4, Try.ntmps4
  go_wp2_with (first
    | (go_at_call 7; refine (awake_any _).mono ?_; rintro e w1 ⟨rfl, hf1⟩)
    | (go_at_call 8; refine (new_any rm _).mono ?_; rintro e wB ⟨rfl, hT, hfB⟩; have hbB := hT.lt))
  obtain ⟨room, hroom⟩ : ∃ room, room = roomOf rm := ⟨_, rfl⟩
  rw [← hroom] at hT
  have hfw := (hf1.trans hfB).alloc (.cells (rC fun _ => false) 34)
  have hT2 := hT.x.fr ((Fr.refl noneOf wB).alloc (.cells (rC fun _ => false) 34)) (fun _ x => x) (fun x => x)
  have hR := Blk.new wB 34 (rC fun _ => false)
  obtain ⟨b, hb⟩ : ∃ b, b = w1.heap.size := ⟨_, rfl⟩
  obtain ⟨R, hrb⟩ : ∃ R, R = wB.heap.size := ⟨_, rfl⟩
  obtain ⟨w0, hw0⟩ : ∃ w0, w0 = wB.alloc (.cells (rC fun _ => false) 34) := ⟨_, rfl⟩
  have hs0 : w0.heap.size = R + 1 := by rw [hw0, hrb]; simp
  rw [← hw0, ← hrb] at hR
  rw [← hb] at hT2
  rw [← hw0] at hT2 hfw
  have hbr : b < R := by rw [hb, hrb]; exact hbB
  have hwb : w.heap.size ≤ b := by rw [hb]; exact hf1.size
  have hwr : wB.alloc (.cells (rC fun _ => false) 34) = w0 := hw0.symm
  rw [show rC (fun _ => false) = #[.bool false, .bool false, .bool false, .bool false, .bool false, .bool false, .bool false, .bool false, .bool false, .bool false, .bool false, .bool false, .bool false, .bool false, .bool false, .bool false, .bool false, .bool false, .bool false, .bool false, .bool false, .bool false, .bool false, .bool false, .bool false, .bool false, .bool false, .bool false, .bool false, .bool false, .bool false, .bool false, .bool false, .bool false, .bool false, .bool false, .bool false, .bool false, .bool false, .bool false, .bool false, .bool false, .bool false, .bool false, .bool false, .bool false, .bool false, .bool false, .bool false, .bool false, .bool false, .bool false, .bool false, .bool false, .bool false, .bool false, .bool false, .bool false, .bool false, .bool false, .bool false, .bool false, .bool false, .bool false] from rfl] at hwr
  rw [← hb, ← hrb, hwr]
  have hrm1 := roomOf_bd rm
  rw [← hroom] at hrm1
  obtain ⟨hrm1, hrm12⟩ := hrm1
  have HS0 : Hid (OSt w0 b R room (fun _ => false) (fun _ => false) (.slice none 0 0) [] [] zeros16 w0) := Lib.hid ⟨⟨rfl, by simp, by simp, by simp⟩, hT2.any, hR, World.ownsRow_nil _ _ _ _, Fr.refl _ _, by omega, by omega, by omega, by simp⟩
  have HFW := Lib.hid hfw
  have HRM := Lib.hid hroom
  clear hR hT2 hfw hT hf1 hfB hw0 hb hrb hbB hroom hwr
  go_loopw [8, 9] (fun v8 v9 wr => ∃ (i : Nat) (f : Nat → Bool) (gl L : List (Int × Int)) (most : List Int), i ≤ 60 ∧ v9 = .int .i64 i ∧ gl.length ≤ i ∧ OSt w0 b R room f f v8 gl L most wr) (fun _ v9 _ => 60 - (intOf v9).toNat)
  case atStart => exact ⟨0, _, [], [], zeros16, by omega, rfl, by simp, HS0.out⟩
  case round =>
    obtain ⟨i, f, gl, L, most, hi, rfl, hgl, hst⟩ := hrel
    have HST := Lib.hid hst
    clear hst
    by_cases hlt : i < l.length
    · by_cases hi60 : i < 60
      · obtain ⟨g, o, rfl, hg, hc⟩ := HL.out (by omega)
        obtain ⟨y, hy⟩ : ∃ y, l[i]? = some y := ⟨_, List.getElem?_eq_getElem hlt⟩
        obtain ⟨kd, v, k, far⟩ := y
        have hcw : ∀ j u, (opV (kd, v, k, far))[j]? = some u → wr.cell? ⟨g, o + i * 4 + j, none⟩ = some u := fun j u hu => by
          refine ((HST.out.fr.cell (p := ⟨g, o + i * 4 + j, none⟩) (by have := HFW.out.size; simp; omega) ?_).trans (HFW.out.cell (p := ⟨g, o + i * 4 + j, none⟩) hg (fun x => x))).trans (hc i _ hy j u hu)
          rintro (e | e)
          · simp at e; omega
          · simp at e; omega
        have c0 : wr.cell? ⟨g, o + i * 4, none⟩ = some (.int .i64 kd) := hcw 0 _ rfl
        have c1 : wr.cell? ⟨g, o + i * 4 + 1, none⟩ = some (.int .i64 v) := hcw 1 _ rfl
        have c2 : wr.cell? ⟨g, o + i * 4 + 2, none⟩ = some (.int .i64 k) := hcw 2 _ rfl
        have c3 : wr.cell? ⟨g, o + i * 4 + 3, none⟩ = some (.bool far) := hcw 3 _ rfl
        clear hcw hc hy
        obtain ⟨nv, nk, hnv, hnk, hH⟩ := opHand_any kd v k w
        have HH := Lib.hid hH
        obtain ⟨q, hq, hq7⟩ := and_le kd 7 (by omega)
        have hq' : bits .and .i64 kd 7 = (q : Int) := hq
        clear hH hq
        have hiI : (i : Int) < 60 := by omega
        have hii0 : (0 : Int) ≤ (i : Int) := by omega
        go_upto_if 43 with (go_at_call 12; refine (HH.out _).mono ?_; rintro e w1 ⟨rfl, hw1⟩; have D1 := (Blk.new wr 37 #[.int .i64 kd, .int .i64 v, .int .i64 k, .bool false]).fr0 hw1; have q0 : w1.cell? ⟨wr.heap.size, 0, none⟩ = some (.int .i64 kd) := D1.cell 0; have l1 := D1.lt)
        have HA : Hid (OSt w0 b R room f f u8 gl L most (w1.alloc (.cells #[.int .i64 nv, .int .i64 nk] 27))) := Lib.hid (HST.out.fr0 ((((Fr.refl _ _).alloc _).trans hw1).alloc _))
        clear D1
        have hsz1 := hw1.size
        have hbw1 : b ≠ w1.heap.size := by have := HA.out.lb; have := HST.out.fr.size; simp at hsz1; omega
        go_cut [8] (fun s8 wx => ∃ f' gl' L' most', gl'.length ≤ i + 1 ∧ OSt w0 b R room f' f' s8 gl' L' most' wx)
        case first =>
          by_cases hq5 : q < 5
          · go_wp2_with (go_at_call 9; refine (OSt.traise HA.out nv nk hnv hnk).mono ?_; rintro e w2 ⟨r, L', most', rfl, hB, hf2⟩; have HB := Lib.hid hB; have D2 := hf2.blkN (Blk.new w1 27 #[.int .i64 nv, .int .i64 nk]) hbw1; have q1 : w2.cell? ⟨w1.heap.size, 0, none⟩ = some (.int .i64 nv) := D2.cell 0; have q2 : w2.cell? ⟨w1.heap.size, 1, none⟩ = some (.int .i64 nk) := D2.cell 1; have r0 : w2.cell? ⟨R, nv * 16 + nk, none⟩ = some (.bool (f (nv * 16 + nk))) := (HB.out.blk.cell _).trans (rC_at _ _ (by omega)); have r1 := HB.out.blk.frozen (nv * 16 + nk); clear hB D2)
            have v4 : (nv : Int) < 4 := by omega
            have k16 : (nk : Int) < 16 := by omega
            have v0 : (0 : Int) ≤ (nv : Int) := by omega
            have k0 : (0 : Int) ≤ (nk : Int) := by omega
            go_region
            go_wp2
            go_meet
            exact ⟨_, gl, L', most', by omega, (HB.out.marked rfl).fr0 (Fr.refl _ _).drew⟩
          · by_cases hq7' : q < 7
            · cases L with
              | nil =>
                go_wp2_with (go_at_call 10; refine (dismiss_none b room most _ HA.out.tab.tab).mono ?_; rintro e w2 ⟨rfl, hf2⟩; have HB := Lib.hid (HA.out.fr0 hf2))
                go_meet
                exact ⟨_, gl, [], most, by omega, HB.out.fr0 ((Fr.refl _ _).alloc _)⟩
              | cons h L' =>
                obtain ⟨x, y⟩ := h
                go_wp2_with (first
                  | (go_at_call 10; refine (dismiss_someX _ b room x y L' most _ HA.out.tab).mono ?_; rintro e w2 ⟨rfl, hT2, hf2⟩; have HT2 := Lib.hid hT2; clear hT2; have HF2 := Lib.hid hf2; clear hf2; have hsz2 := Nat.le_trans HA.out.fr.size HF2.out.size; have HO := Lib.hid (ownsRow_frS (ownsRow_frS HA.out.own HF2.out (fun x hx y => HA.out.nb (.inr (by rw [hx]; exact congrArg some y)))) (((Fr.refl noneOf w2).alloc (.cells #[.int .i64 x, .int .i64 y] 27)).alloc (.cells #[.int .i64 x, .int .i64 y] 27)) (fun _ _ x => x)); have HTS := Lib.hid (two_sl1 w2 x y 27 27))
                  | (at_builtin; refine wpList_append_sl rfl (.tmp 63) (.tmp 65) 35 rfl w0.heap.size 27 i0 (.agg #[.int .i64 0, .int .i64 0]) 2 16 Try.underlying35 hi0 hz0 hz1 hz2 rfl (by decide) _ gl.length (handsV gl) rfl HO.out (some ⟨w2.heap.size + 1, 0, none⟩) 1 1 [.int .i64 x, .int .i64 y] rfl HTS.out (hand_one x y) (fun h => nomatch h) (by unfold maxLen; omega) (by omega) (by simp; omega) ?_; intro v' w3 hown3 hg3 hat3))
                go_meet
                exact ⟨_, gl ++ [(x, y)], L', most, by simp; omega, HA.out.went HF2.out HT2.out (((Fr.refl _ _).alloc _).alloc _) hg3 hat3 hown3⟩
            · go_wp2
              go_meet
              exact ⟨_, gl, L, most, by omega, HA.out⟩
        case rest =>
        obtain ⟨f', gl', L', most', hgl', hst⟩ := hcut
        have HST' := Lib.hid hst
        clear hst HA HST
        obtain ⟨Ag, cg, rfl, hcg, hzg, _⟩ := row_form HST'.out.own
        have HSG := Lib.hid (Sl.of_row HST'.out.own)
        have HZG := Lib.hid hzg
        have hLr : L'.length ≤ 12 := by have := HST'.out.room; omega
        have hown0 : (wc.alloc (.cells #[] 27)).ownsRow wc.heap.size 27 2 (.slice (some ⟨wc.heap.size, 0, none⟩) 0 0) 0 [] := World.ownsRow_lit wc #[] 0 (Nat.le_refl _) (by decide) rfl
        have HOW := Lib.hid hown0
        have hb0 : wc.heap.size ≤ (wc.alloc (.cells #[] 27)).heap.size := by simp
        obtain ⟨n, hn⟩ : ∃ n, n = gl'.length + L'.length := ⟨_, rfl⟩
        have hn80 : n ≤ 80 := by omega
        have HN := Lib.hid hn
        clear hzg hown0 hn hcg HH hq' c0 c1 c2 c3
        go_wp2_with (first
          | (go_at_call 13; refine (list_is b room L' most' _ (HST'.out.tab.tab.fr HFX.out) (by omega)).mono ?_; rintro e w3 ⟨A3, c3, rfl, hs3, hf3, hz3, hc3⟩; have HF3 := Lib.hid hf3; have HS3 := Lib.hid hs3; have HO3 := Lib.hid (ownsRow_frS HO2.out hf3 (fun _ _ x => x)); have hsz3 := Nat.le_trans hsz2 hf3.size; have HZ3 := Lib.hid hz3; clear hf3 hs3 hz3)
          | (at_builtin; refine wpList_append_sl rfl (.tmp 67) (.tmp 68) 35 rfl wc.heap.size 27 i0 (.agg #[.int .i64 0, .int .i64 0]) 2 16 Try.underlying35 hi0 hz0 hz1 hz2 rfl (by decide) _ 0 [] rfl HOW.out Ag gl'.length cg (handsV gl') rfl (HSG.out.fr ((Fr.refl _ _).alloc _)) (handsV_one gl') HZG.out (by unfold maxLen; omega) (by omega) hb0 ?_; intro v1 w2 hown2 hg2 hat2; have HO2 : Hid (w2.ownsRow wc.heap.size 27 2 v1 gl'.length (handsV gl')) := Lib.hid (by simpa using hown2); have HFX : Hid (Fr noneOf wc w2) := Lib.hid (Fr.grown ((Fr.refl _ _).alloc _) hg2 (fun g hg => (HOW.out.lt g hg).1)); have hsz2 := HFX.out.size; clear hown2 hg2 hat2)
          | (at_builtin; refine wpList_append_sl rfl (.tmp 69) (.tmp 71) 35 rfl wc.heap.size 27 i0 (.agg #[.int .i64 0, .int .i64 0]) 2 16 Try.underlying35 hi0 hz0 hz1 hz2 rfl (by decide) _ gl'.length (handsV gl') rfl HO3.out A3 L'.length c3 (handsV L') rfl HS3.out (handsV_one L') HZ3.out (by unfold maxLen; omega) (by omega) hsz3 ?_; intro v4 w4 hown4 hg4 hat4; rw [← HN.out] at hown4; have HFY : Hid (Fr noneOf wc w4) := Lib.hid (Fr.grown (HFX.out.trans HF3.out) hg4 (fun g hg => (HO3.out.lt g hg).1)); have hrow4 := row_form hown4; obtain ⟨A4, c4, rfl, hc4, hz4, _⟩ := hrow4; have HS4 := Lib.hid (Sl.of_row hown4); clear hown4 hg4 hat4 hz4))
        obtain ⟨all, hall⟩ : ∃ all, all = gl' ++ L' := ⟨_, rfl⟩
        have halln : all.length = n := by rw [hall, List.length_append]; exact HN.out.symm
        have HSA : Hid (Sl w4 A4 n 2 (handsV all)) := Lib.hid (by rw [hall, handsV_app]; exact HS4.out)
        have HAL := Lib.hid hall
        have HALN := Lib.hid halln
        have HRB := Lib.hid (HST'.out.blk.fr0 HFY.out)
        clear hall halln
        go_loopw [15] (fun v15 wx => ∃ j : Nat, j ≤ n ∧ v15 = .int .i64 j ∧ Fr noneOf w4 wx) (fun v15 _ => n - (intOf v15).toNat)
        case atStart => exact ⟨0, by omega, rfl, Fr.refl _ _⟩
        case round =>
          obtain ⟨j, hj, rfl, hfx⟩ := hrel
          have HFJ := Lib.hid hfx
          clear hfx
          by_cases hjn : j < n
          · obtain ⟨g4, o4, rfl, hg4, hc4'⟩ := HSA.out.2 (by omega)
            obtain ⟨xa, xe, hxj, hxa, hxe1, hxe, hxr⟩ := HST'.out.pick HAL.out (by rw [HALN.out]; exact hjn)
            obtain ⟨hs0', hs1'⟩ := handsV_at hxj
            have d0 : wr.cell? ⟨g4, o4 + j * 2, none⟩ = some (.int .i64 xa) := (HFJ.out.cell (p := ⟨g4, o4 + j * 2, none⟩) hg4 (fun x => x)).trans (hc4' _ _ hs0')
            have d1 : wr.cell? ⟨g4, o4 + j * 2 + 1, none⟩ = some (.int .i64 xe) := (HFJ.out.cell (p := ⟨g4, o4 + j * 2 + 1, none⟩) hg4 (fun x => x)).trans (hc4' (j * 2 + 1) _ hs1')
            have d2 : wr.cell? ⟨R, xa * 16 + xe, none⟩ = some (.bool true) := ((HRB.out.fr0 HFJ.out).cell _).trans ((rC_at _ _ (by omega)).trans (by rw [hxr]))
            have hRw : R < wr.heap.size := (HRB.out.fr0 HFJ.out).lt
            have hji : (j : Int) < (n : Int) := by omega
            have hj0 : (0 : Int) ≤ (j : Int) := by omega
            have a0 : (0 : Int) ≤ (xa : Int) := by omega
            have a4 : (xa : Int) < 4 := by omega
            have a3 : ¬ (3 : Int) < (xa : Int) := by omega
            have a1 : ¬ (xa : Int) < 0 := by omega
            have e0 : (0 : Int) ≤ (xe : Int) := by omega
            have e16 : (xe : Int) < 16 := by omega
            have e15 : ¬ (15 : Int) < (xe : Int) := by omega
            have e1 : ¬ (xe : Int) < 1 := by omega
            have HXJ := Lib.hid hxj
            have HC4 := Lib.hid hc4'
            clear hs0' hs1' hc4' hxj hxr
            go_wp2
            go_quiet (fail)
            go_wp2
            go_loopw [17] (fun v17 wx => ∃ k : Nat, k ≤ j ∧ v17 = .int .i64 k ∧ Fr noneOf w4 wx ∧ Blk wx wr.heap.size 27 #[.int .i64 xa, .int .i64 xe]) (fun v17 _ => j - (intOf v17).toNat)
            case atStart => exact ⟨0, by omega, rfl, (HFJ.out.alloc _).drewN _, (Blk.new wr _ _).fr0 ((Fr.refl _ _).drewN _)⟩
            case round =>
              obtain ⟨k, hk, rfl, hfx, hbx⟩ := hrel
              have HFK := Lib.hid hfx
              have HBK := Lib.hid hbx
              have b0 := hbx.cell 0
              have b1 := hbx.cell 1
              have bl := hbx.lt
              clear hfx hbx d0 d1 d2 hRw
              by_cases hkj : k < j
              · obtain ⟨ya, ye, hyk, hya, hye1, hye, _⟩ := HST'.out.pick HAL.out (show k < all.length by rw [HALN.out]; omega)
                obtain ⟨hs0', hs1'⟩ := handsV_at hyk
                have d0 : wr.cell? ⟨g4, o4 + k * 2, none⟩ = some (.int .i64 ya) := (HFK.out.cell (p := ⟨g4, o4 + k * 2, none⟩) hg4 (fun x => x)).trans (HC4.out _ _ hs0')
                have d1 : wr.cell? ⟨g4, o4 + k * 2 + 1, none⟩ = some (.int .i64 ye) := (HFK.out.cell (p := ⟨g4, o4 + k * 2 + 1, none⟩) hg4 (fun x => x)).trans (HC4.out (k * 2 + 1) _ hs1')
                have hki : (k : Int) < (n : Int) := by omega
                have hk0 : (0 : Int) ≤ (k : Int) := by omega
                have hask := HST'.out.once.asks hkj (by rw [← HAL.out]; exact hyk) (by rw [← HAL.out]; exact HXJ.out)
                clear hs0' hs1' hyk
                by_cases hva : ya = xa
                · subst hva
                  have hne : ¬ ye = xe := fun e => hask.1 (by rw [e])
                  have hle : ¬ (xe : Int) < (ye : Int) := hask.2 rfl
                  have hnb : ((ye : Int) == (xe : Int)) = false := by simp; omega
                  clear hask hne
                  go_wp2
                  go_quiet (fail)
                  go_wp2
                  go_roundw
                  case rel => exact ⟨k + 1, by omega, by go_num, HFK.out.drewN _, HBK.out.fr0 ((Fr.refl _ _).drewN _)⟩
                  case measure => simp [intOf]; omega
                · have hnb : ((ya : Int) == (xa : Int)) = false := by simp; omega
                  clear hask hva
                  go_wp2
                  go_quiet (fail)
                  go_wp2
                  go_roundw
                  case rel => exact ⟨k + 1, by omega, by go_num, HFK.out.drewN _, HBK.out.fr0 ((Fr.refl _ _).drewN _)⟩
                  case measure => simp [intOf]; omega
              · have hkk : k = j := by omega
                subst hkk
                go_wp2
                go_roundw
                case rel => exact ⟨k + 1, by omega, by go_num, HFK.out⟩
                case measure => simp [intOf]; omega
          · have hjj : j = n := by omega
            subst hjj
            have hrl := HST'.out.room
            have HT4 := Lib.hid ((HST'.out.tab.tab.fr HFY.out).fr HFJ.out)
            have hro : (room : Int) = min (max rm 1) 12 := by rw [roomOf_is, ← HRM.out]
            by_cases hr1 : rm < 1
            · have hb : ¬ (1 : Int) < (L'.length : Int) := by omega
              clear hro
              go_wp2_with (go_at_call 11; refine (len_is b room L' most' _ HT4.out).mono ?_; rintro e w' ⟨rfl, rfl⟩)
              go_roundw
              case rel => exact ⟨i + 1, f', gl', L', most', by omega, by go_num, hgl', HST'.out.fr0 (HFY.out.trans HFJ.out)⟩
              case measure => simp [intOf]; omega
            · by_cases hr2 : 12 < rm
              · have hb : ¬ (12 : Int) < (L'.length : Int) := by omega
                clear hro
                go_wp2_with (go_at_call 11; refine (len_is b room L' most' _ HT4.out).mono ?_; rintro e w' ⟨rfl, rfl⟩)
                go_roundw
                case rel => exact ⟨i + 1, f', gl', L', most', by omega, by go_num, hgl', HST'.out.fr0 (HFY.out.trans HFJ.out)⟩
                case measure => simp [intOf]; omega
              · have hb : ¬ rm < (L'.length : Int) := by omega
                clear hro
                go_wp2_with (go_at_call 11; refine (len_is b room L' most' _ HT4.out).mono ?_; rintro e w' ⟨rfl, rfl⟩)
                go_roundw
                case rel => exact ⟨i + 1, f', gl', L', most', by omega, by go_num, hgl', HST'.out.fr0 (HFY.out.trans HFJ.out)⟩
                case measure => simp [intOf]; omega
      · have hi6 : i = 60 := by omega
        subst hi6
        go_wp2
        go_ret
        exact ⟨rfl, (HFW.out.trans' HST.out.fr (fun x hx hh => by rcases hh with h | h <;> omega))⟩
    · have hii : ¬ (i : Int) < (l.length : Int) := by omega
      go_wp2
      go_ret
      exact ⟨rfl, (HFW.out.trans' HST.out.fr (fun x hx hh => by rcases hh with h | h <;> omega))⟩
end Go.Proofs.Ytmopieejfbiedaa
