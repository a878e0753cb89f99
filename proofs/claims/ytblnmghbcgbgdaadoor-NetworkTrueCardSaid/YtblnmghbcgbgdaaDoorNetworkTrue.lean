/-
  NetworkTrue: the walk.
  Conditions: none.
-/
import Derived.Test.YtblnmghbcgbgdaaDoorNetRead
import Derived.Test.YtblnmghbcgbgdaaDoorOpPacket
import Derived.Test.YtblnmghbcgbgdaaDoorLaw23
import Derived.Deep.DeepCutAuto
import Derived.Deep.CutBlock
namespace Go.Proofs.YtblnmghbcgbgdaaDoor
open Go.RowKit
set_option linter.unusedVariables false
set_option linter.unusedSimpArgs false

/-- The steps, as a walk reads them. -/
def Ops23 (w : World) (A : Option Addr) (l : List (St23 × Bool)) : Prop := 0 < l.length → ∃ g o, A = some ⟨g, o, none⟩ ∧ g < w.heap.size ∧ ∀ i y, l[i]? = some y → ∀ j u, (y.1.cells y.2)[j]? = some u → w.cell? ⟨g, o + i * 11 + j, none⟩ = some u
/-- Where the round may write: the network's blocks, and what was sent. -/
def SS (g : Nat) : Nat → Prop := fun i => Sx (g + 1) i ∨ i = g
/-- What stands at the head of a round. -/
structure AtT (b g : Nat) (w0 : World) (k : Nat) (w : World) : Prop where
  st : ∃ (L : List Pk) (sf : Nat → Nat → Nat → Bool), NetL (g + 1) 12 k L b w ∧ (∀ p ∈ L, Rd sf p) ∧ SentB w g sf
  fr : Fr (SS g) w0 w
theorem AtT.fr0 {b g : Nat} {w0 : World} {k : Nat} {w w' : World} (h : AtT b g w0 k w) (hf : Fr noneOf w w') : AtT b g w0 k w' := by
  obtain ⟨⟨L, sf, h1, h2, h3⟩, h4⟩ := h
  exact ⟨⟨L, sf, h1.fr hf, h2, h3.fr0 hf⟩, h4.trans' hf (fun _ _ x => x.elim)⟩
theorem ss_of {g i : Nat} (h : Sx (g + 1) i) : SS g i := .inl h
theorem sx_not (g : Nat) : ¬ Sx (g + 1) g := fun h => h.2 rfl
theorem NetL.off {g : Nat} {room : Int} {k b : Nat} {L : List Pk} {w w' : World} (h : NetL (g + 1) room k L b w) (hf : Fr (justOf g) w w') : NetL (g + 1) room k L b w' := by
  obtain ⟨lost, ⟨v, m, hB, hL, hO, h1, h2, h3, h4, h5⟩, r3, r4, r5, r6, r7, r8⟩ := h
  have hb : ¬ justOf g b := fun e => by have e : b = g := e; exact h2.2 (by omega)
  have hm : ¬ justOf g m := fun e => by have e : m = g := e; exact h1.2 (by omega)
  exact ⟨lost, ⟨v, m, hB.fr hf hb, lk_fr hL hf hm, ownsRow_frS hO hf (fun x hx e => by have e : x = g := e; have := (hO.lt x hx).1; omega), h1, h2, h3, h4, h5⟩, r3, r4, r5, r6, r7, Nat.le_trans r8 hf.size⟩
theorem so_ss {g b : Nat} {v : World} {a w : World} (h : Fr (SO (g + 1) b v) a w) : Fr (SS g) a w := h.mono (fun i e => .inl e.1)
theorem so_not {g b : Nat} {v : World} : ¬ SO (g + 1) b v g := fun e => e.1.2 rfl
/-- What stands when a step has been taken. -/
theorem AtT.next {b g k : Nat} {wZ W v w' : World} {L : List Pk} {sf : Nat → Nat → Nat → Bool} (h : Fr (SS g) wZ W) (hs : SentB W g sf) (h1 : Fr noneOf W v) (h2 : Fr (SO (g + 1) b v) v w') (hN : NetL (g + 1) 12 k L b w') (hR : ∀ p ∈ L, Rd sf p) : AtT b g wZ k w' :=
  ⟨⟨L, sf, hN, hR, (hs.fr0 h1).fr h2 so_not⟩, (h.trans' h1 (fun _ _ x => x.elim)).trans (so_ss h2)⟩
theorem and3 (x : Nat) (h : x ≤ 3) : bits .and .i64 (x : Int) 3 = (x : Int) := by
  have : x = 0 ∨ x = 1 ∨ x = 2 ∨ x = 3 := by omega
  rcases this with rfl | rfl | rfl | rfl <;> rfl
theorem errT.frS {w w' : World} {S : Nat → Prop} (h : errT w) (hf : Fr S w w') (hs : ∀ i, i < w.heap.size → ¬ S i) : errT w' := (hf.cell (p := ⟨0, 0, none⟩) h.lt (hs _ h.lt)).trans h
theorem zeros_are : Tryd.zeroCells48 = Array.replicate 256 (.bool false) := by kernel_rfl
theorem sent_new (w : World) (g : Nat) (hg : g = w.heap.size) : SentB (w.alloc (.cells Tryd.zeroCells48 48)) g (fun _ _ _ => false) := by
  subst hg
  refine ⟨_, Blk.new w _ _, by rw [zeros_are]; simp, fun a b c ha hb hc => ?_⟩
  rw [zeros_are, Array.getElem?_replicate, if_pos (by omega)]
set_option maxRecDepth 100000 in
set_option maxHeartbeats 16000000 in
theorem networkTrue_any (A : Option Addr) (c : Nat) (l : List (St23 × Bool)) (w : World) (hO : Ops23 w A l) (hlc : l.length ≤ c) (hc : c ≤ 9223372036854775807) (hz : ∀ y ∈ l, y.1.s.size ≤ 9223372036854775807 ∧ -9223372036854775808 ≤ y.1.at' ∧ y.1.at' ≤ 9223372036854775807) (hg : errT w) :
    Calls Tryd.prog 6 #[.slice A l.length c] w fun e w' => e = .returned (.bool true) ∧ Fr noneOf w w' := by
  have HO := Lib.hid hO
  have HZ := Lib.hid hz
  have HC := Lib.hid hc
  have HG := Lib.hid hg
  clear hO hz hc hg
  go_enter Tryd.func6, Tryd.ntmps6
  go_wp2_with (first
    | (go_at_call 16; (with_reducible refine (awake_any _).mono ?_); rintro e w1 ⟨rfl, hf1⟩)
    | (go_at_call 17; (with_reducible refine (net_newx 12 _).mono ?_); rintro e w2 ⟨rfl, hN, hz2, hf2⟩; have HN2 := Lib.hid hN; have HZ2 := Lib.hid hz2; clear hN hz2))
  obtain ⟨g, hgg⟩ : ∃ g, g = w2.heap.size := ⟨_, rfl⟩
  obtain ⟨b, hb⟩ : ∃ b, b = w1.heap.size + 1 := ⟨_, rfl⟩
  obtain ⟨wZ, hwc⟩ : ∃ wZ, wZ = w2.alloc (.cells Tryd.zeroCells48 48) := ⟨_, rfl⟩
  have hz2 := HZ2.out
  have hN := HN2.out (g + 1) ⟨by omega, by omega⟩ ⟨by omega, by omega⟩
  have hfc : Fr noneOf w2 wZ := by rw [hwc]; exact (Fr.refl _ _).alloc _
  have hS := sent_new w2 g hgg
  rw [← hwc] at hS
  rw [← hb] at hN
  rw [show min (max (12 : Int) 1) 12 = 12 by omega] at hN
  have hws : wZ.heap.size = w2.heap.size + 1 := by rw [hwc]; simp
  have h0 : AtT b g wZ 0 wZ := ⟨⟨[], _, ⟨0, hN.fr hfc, by simp, fun x y => by simp [cnt], by omega, by omega, by simp, by omega⟩, by simp, hS⟩, Fr.refl _ _⟩
  have HFW : Hid (Fr noneOf w wZ ∧ w.heap.size + 2 ≤ g ∧ g + 1 = wZ.heap.size) := Lib.hid ⟨(hf1.trans hf2).trans hfc, by have := hf1.size; omega, by omega⟩
  rw [← hwc, ← hb, ← hgg]
  have HAT := Lib.hid h0
  clear h0 hwc hb hgg hz2 hN hfc hS hws HN2 HZ2 hf1 hf2
  go_loopw [6] (fun i wr => ∃ k : Nat, k ≤ l.length ∧ k ≤ 80 ∧ i = .int .i64 k ∧ AtT b g wZ k wr) (fun i _ => l.length - (intOf i).toNat)
  case atStart => exact ⟨0, by omega, by omega, rfl, HAT.out⟩
  case round =>
    obtain ⟨k, hk, hk80, rfl, hat⟩ := hrel
    have HA := Lib.hid hat
    clear hat HAT
    obtain ⟨L, sf, hNet, hRd, hSe⟩ := HA.out.st
    have HS := Lib.hid (And.intro hNet (And.intro hRd hSe))
    clear hNet hRd hSe
    by_cases hlt : k < l.length
    · by_cases hlt8 : k < 80
      · obtain ⟨y, hy⟩ : ∃ y, l[k]? = some y := ⟨l[k], List.getElem?_eq_getElem hlt⟩
        have hyZ := HZ.out y (List.mem_of_getElem? hy)
        obtain ⟨B, o, rfl, hB, hcell⟩ := HO.out (by omega)
        have hFw : Fr (SS g) w wr := (HFW.out.1.of0 _).trans HA.out.fr
        have hng : ¬ SS g B := fun e => by
          have h1 := HFW.out.2.1
          rcases e with ⟨e, _⟩ | e
          · omega
          · omega
        have hcr : ∀ j u, (y.1.cells y.2)[j]? = some u → wr.cell? ⟨B, o + k * 11 + j, none⟩ = some u := fun j u hu => (hFw.cell (p := ⟨B, o + k * 11 + j, none⟩) hB hng).trans (hcell k y hy j u hu)
        obtain ⟨⟨kd, fr, tt, i, at', b0, b1, b2, b3, s⟩, far⟩ := y
        obtain ⟨x', y', S, hx3, hy3, hS20, hxx, hyy, hSS, hPK⟩ := packet_any ⟨kd, fr, tt, i, at', b0, b1, b2, b3, s⟩ hyZ.1
        obtain ⟨κ, hκ, hκ15⟩ := and_le kd 15 (by omega)
        have hκ' : bits .and .i64 kd 15 = (κ : Int) := hκ
        obtain ⟨q, hq, hq15⟩ := and_le i 15 (by omega)
        have hq' : bits .and .i64 i 15 = (q : Int) := hq
        have HPK := Lib.hid hPK
        have HAT := Lib.hid (fun w => at_any ⟨kd, fr, tt, i, at', b0, b1, b2, b3, s⟩ q hq' w)
        have HSS : Hid (κ < 5 → S = refS q) := Lib.hid (fun h5 => hSS κ q hκ' h5 hq')
        have HATR := Lib.hid hyZ.2
        dsimp only [St23.cells] at HPK HAT hcr
        have c0 : wr.cell? ⟨B, o + k * 11, none⟩ = some (.int .i64 kd) := hcr 0 _ rfl
        have c1 : wr.cell? ⟨B, o + k * 11 + 1, none⟩ = some (.int .i64 fr) := hcr 1 _ rfl
        have c2 : wr.cell? ⟨B, o + k * 11 + 2, none⟩ = some (.int .i64 tt) := hcr 2 _ rfl
        have c3 : wr.cell? ⟨B, o + k * 11 + 3, none⟩ = some (.int .i64 i) := hcr 3 _ rfl
        have c4 : wr.cell? ⟨B, o + k * 11 + 4, none⟩ = some (.int .i64 at') := hcr 4 _ rfl
        have c5 : wr.cell? ⟨B, o + k * 11 + 5, none⟩ = some (.int .u8 b0) := hcr 5 _ rfl
        have c6 : wr.cell? ⟨B, o + k * 11 + 6, none⟩ = some (.int .u8 b1) := hcr 6 _ rfl
        have c7 : wr.cell? ⟨B, o + k * 11 + 7, none⟩ = some (.int .u8 b2) := hcr 7 _ rfl
        have c8 : wr.cell? ⟨B, o + k * 11 + 8, none⟩ = some (.int .u8 b3) := hcr 8 _ rfl
        have c9 : wr.cell? ⟨B, o + k * 11 + 9, none⟩ = some (.string s) := hcr 9 _ rfl
        have c10 : wr.cell? ⟨B, o + k * 11 + 10, none⟩ = some (.bool far) := hcr 10 _ rfl
        have hlI : (k : Int) < (l.length : Int) := by omega
        have h8I : (k : Int) < 80 := by omega
        have hk0 : (0 : Int) ≤ (k : Int) := by omega
        obtain ⟨W, hW⟩ : ∃ W, W = wr.alloc (Obj.cells #[.int .i64 kd, .int .i64 fr, .int .i64 tt, .int .i64 i, .int .i64 at', .int .u8 b0, .int .u8 b1, .int .u8 b2, .int .u8 b3, .string s, .bool false] 51) := ⟨_, rfl⟩
        have HB := Lib.hid (Blk.new wr 51 #[.int .i64 kd, .int .i64 fr, .int .i64 tt, .int .i64 i, .int .i64 at', .int .u8 b0, .int .u8 b1, .int .u8 b2, .int .u8 b3, .string s, .bool false])
        have HFA : Hid (Fr noneOf wr W) := Lib.hid (by rw [hW]; exact (Fr.refl _ _).alloc _)
        obtain ⟨P, hP⟩ : ∃ P, P = wr.heap.size := ⟨_, rfl⟩
        rw [← hW, ← hP] at HB
        have hPb : Hid (g + 1 ≤ P) := Lib.hid (by rw [hP]; have := HA.out.fr.size; have := HFW.out.2.2; omega)
        clear hcr hcell hFw hng hPK hκ hq hy hSS hyZ
        go_upto_block 2 with fail
        rw [← hW, ← hP]
        have HKEEP : Hid (∀ w' x, Fr noneOf W w' → P ≤ x → ¬ SO (g + 1) b w' x) := Lib.hid (fun w' x hf hx h => by
          obtain ⟨lost, hNt, _⟩ := HS.out.1
          have := (h.2.back (HFA.out.trans hf) (by obtain ⟨_, _, hBb, _⟩ := hNt; exact hBb.lt)).lt hNt
          omega)
        clear hW hP c0 c1 c2 c3 c4 c5 c6 c7 c8 c9 c10
        have HNW : Hid (∀ w', Fr noneOf W w' → NetL (g + 1) 12 k L b w') := Lib.hid (fun w' hf => HS.out.1.fr (HFA.out.trans hf))
        have HSE : Hid (SentB W g sf) := Lib.hid (HS.out.2.2.fr0 HFA.out)
        have HPK : Hid (∀ w, Calls Tryd.prog 18 #[.agg #[.int .i64 kd, .int .i64 fr, .int .i64 tt, .int .i64 i, .int .i64 at', .int .u8 b0, .int .u8 b1, .int .u8 b2, .int .u8 b3, .string s, .bool false]] w fun e w' => e = .returned (.agg #[.int .i64 x', .int .i64 y', .string S]) ∧ Fr noneOf w w') := HPK
        have HSN : Hid (∀ w', Fr noneOf W w' → _) := Lib.hid (fun w' hf => sendL (x' : Int) (y' : Int) S (HNW.out w' hf) (by omega) (by omega) (by omega) (by omega) (by omega))
        have HIN : Hid (∀ w', Fr noneOf W w' → _) := Lib.hid (fun w' hf => injectL (x' : Int) (y' : Int) S (HNW.out w' hf) (by omega) (by omega) (by omega) (by omega) (by omega))
        have HTK : Hid (∀ w', Fr noneOf W w' → _) := Lib.hid (fun w' hf => takeL q (HNW.out w' hf) (by omega))
        have HCO : Hid (∀ w', Fr noneOf W w' → _) := Lib.hid (fun w' hf => copyL q (HNW.out w' hf) (by omega) (by omega))
        have HSP : Hid (∀ w', Fr noneOf W w' → _) := Lib.hid (fun w' hf => spoilL q at' b0 b1 1 0 (HNW.out w' hf) HATR.out.1 HATR.out.2)
        have HRD := Lib.hid HS.out.2.1
        have HFR : Hid (Fr (SS g) wZ W) := Lib.hid (HA.out.fr.trans' HFA.out (fun _ _ x => x.elim))
        have HGP : Hid (g < P) := Lib.hid (by have := hPb.out; omega)
        have w0 : W.cell? ⟨P, 0, none⟩ = some (.int .i64 kd) := HB.out.cell 0
        have w1 : W.cell? ⟨P, 1, none⟩ = some (.int .i64 fr) := HB.out.cell 1
        have w2 : W.cell? ⟨P, 2, none⟩ = some (.int .i64 tt) := HB.out.cell 2
        have w3 : W.cell? ⟨P, 3, none⟩ = some (.int .i64 i) := HB.out.cell 3
        have w4 : W.cell? ⟨P, 4, none⟩ = some (.int .i64 at') := HB.out.cell 4
        have w5 : W.cell? ⟨P, 5, none⟩ = some (.int .u8 b0) := HB.out.cell 5
        have w6 : W.cell? ⟨P, 6, none⟩ = some (.int .u8 b1) := HB.out.cell 6
        have w7 : W.cell? ⟨P, 7, none⟩ = some (.int .u8 b2) := HB.out.cell 7
        have w8 : W.cell? ⟨P, 8, none⟩ = some (.int .u8 b3) := HB.out.cell 8
        have w9 : W.cell? ⟨P, 9, none⟩ = some (.string s) := HB.out.cell 9
        have w10 : W.cell? ⟨P, 10, none⟩ = some (.bool false) := HB.out.cell 10
        go_upto_if 35 with fail
        go_cut [35] (fun ss wx => ss = .bool (decide (κ < 5)) ∧ wx = W)
        case first =>
          by_cases hh : κ < 5
          · have ee : decide (κ < 5) = true := by simpa using hh
            have hcase : κ = 0 ∨ κ = 1 ∨ κ = 2 ∨ κ = 3 ∨ κ = 4 := by omega
            clear hκ'
            rcases hcase with rfl | rfl | rfl | rfl | rfl
            all_goals
              go_wp2
              go_meet
              exact ⟨rfl, rfl⟩
          · have ee : decide (κ < 5) = false := by simpa using hh
            have n0 : ((κ : Int) == 0) = false := by simp; omega
            have n1 : ((κ : Int) == 1) = false := by simp; omega
            have n2 : ((κ : Int) == 2) = false := by simp; omega
            have n3 : ((κ : Int) == 3) = false := by simp; omega
            have n4 : ((κ : Int) == 4) = false := by simp; omega
            go_wp2
            go_meet
            exact ⟨by rw [ee], rfl⟩
        case rest =>
        obtain ⟨rfl, hwx⟩ := hcut
        rw [hwx]
        clear hwx
        by_cases hg5 : κ < 5
        · have eg : decide (κ < 5) = true := by simpa using hg5
          have HSr : Hid (S = refS q) := Lib.hid (HSS.out hg5)
          go_wp2_with (first
            | (go_at_call 18; (with_reducible refine (HPK.out _).mono ?_); rintro e v1 ⟨rfl, hf1⟩; have HF1 : Hid (Fr noneOf W (v1.alloc (.cells #[.int .i64 x', .int .i64 y', .string S] 53))) := Lib.hid (hf1.alloc _); have HP1 := Lib.hid (Blk.new v1 53 #[.int .i64 x', .int .i64 y', .string S]); have HV1 : Hid (P < v1.heap.size) := Lib.hid (by have := hf1.size; have := HB.out.lt; omega); clear hf1; have d0 := HP1.out.cell 0; have d1 := HP1.out.cell 1; have d2 := HP1.out.cell 2)
            | (go_at_call 19; (with_reducible refine (HSN.out _ HF1.out).mono ?_); rintro e v2 ⟨ok, rfl, hN, hok, hf2⟩; have HN2 := Lib.hid (And.intro hN (And.intro hok hf2)); have x0 := (HP1.out.fr hf2 (HKEEP.out _ _ HF1.out (by have := HV1.out; omega))).cell 0; have x1 := (HP1.out.fr hf2 (HKEEP.out _ _ HF1.out (by have := HV1.out; omega))).cell 1; have x3 := ((HB.out.fr0 HF1.out).fr hf2 (HKEEP.out _ _ HF1.out (Nat.le_refl _))).cell 3; clear hN hok hf2; cases ok))
          · refine ⟨⟨k + 1, by omega, by omega, by go_num, AtT.next HFR.out HSE.out HF1.out HN2.out.2.2 HN2.out.1 HRD.out⟩, by simp [intOf]; omega⟩
          · obtain ⟨s0, s1⟩ := ((HSE.out.fr0 HF1.out).fr HN2.out.2.2 so_not).cell (show x' < 4 by omega) (show y' < 4 by omega) (show q < 16 by omega)
            have i0 : (0 : Int) ≤ (x' : Int) := by omega
            have i1 : (x' : Int) < 4 := by omega
            have i2 : (0 : Int) ≤ (y' : Int) := by omega
            have i3 : (y' : Int) < 4 := by omega
            have i4 : (0 : Int) ≤ (q : Int) := by omega
            have i5 : (q : Int) < 16 := by omega
            go_region
            all_goals
              go_wp2
              have hfg : Fr (justOf g) v2 (v2.setCell ⟨g, x' * 64 + y' * 16 + q, none⟩ (.bool true)) := Fr.put g _ _ (Fr.refl _ _)
              have hX : ∀ p ∈ L ++ [⟨(x' : Int), (y' : Int), S⟩], Rd (upd3 sf x' y' q) p := fun p hp => by
                rcases List.mem_append.1 hp with hp | hp
                · exact (HRD.out p hp).mono (upd3_mono _ _ _ _)
                · simp at hp
                  subst hp
                  rw [HSr.out]
                  rcases reads_ref q hq15 with hr | hr
                  · exact .inl ⟨q, hq15, by simp [upd3], hr⟩
                  · exact .inr hr
              have hAt : AtT b g wZ (k + 1) (v2.setCell ⟨g, x' * 64 + y' * 16 + q, none⟩ (.bool true)) := ⟨⟨L ++ [⟨(x' : Int), (y' : Int), S⟩], upd3 sf x' y' q, HN2.out.1.off hfg, hX, ((HSE.out.fr0 HF1.out).fr HN2.out.2.2 so_not).set (by omega) (by omega) (by omega)⟩, ((HFR.out.trans' HF1.out (fun _ _ x => x.elim)).trans (so_ss HN2.out.2.2)).trans' hfg (fun i _ e => .inr e)⟩
              refine ⟨⟨k + 1, by omega, by omega, by go_num, ?_⟩, by simp [intOf]; omega⟩
              first | exact hAt | exact hAt.fr0 ((Fr.refl noneOf _).drew)
        · have eg : decide (κ < 5) = false := by simpa using hg5
          rw [eg]
          by_cases h5 : κ = 5
          · subst h5
            clear hκ'
            go_wp2_with (first
              | (go_at_call 18; (with_reducible refine (HPK.out _).mono ?_); rintro e v1 ⟨rfl, hf1⟩; have HF1 := Lib.hid hf1; clear hf1)
              | (go_at_call 20; (with_reducible refine (HIN.out _ HF1.out).mono ?_); rintro e v2 ⟨ok, rfl, ⟨L', hN, hL'⟩, hf2⟩; have HN2 := Lib.hid (And.intro hN hf2); have HL2 := Lib.hid hL'; clear hN hf2 hL'))
            refine ⟨⟨k + 1, by omega, by omega, by go_num, AtT.next HFR.out HSE.out HF1.out HN2.out.2 (HN2.out.1) ?_⟩, by simp [intOf]; omega⟩
            rcases HL2.out with rfl | ⟨hno, _, rfl⟩
            · exact HRD.out
            · intro p hp
              rcases List.mem_append.1 hp with hp | hp
              · exact HRD.out p hp
              · simp at hp
                subst hp
                exact .inr (reads_noopen _ hno)
          · have n5 : ((κ : Int) == 5) = false := by simp; omega
            go_upto_if 62 with fail
            go_cut [62] (fun ss wx => ss = .bool (decide (κ < 9)) ∧ wx = W)
            case first =>
              by_cases hh : κ < 9
              · have ee : decide (κ < 9) = true := by simpa using hh
                have hcase : κ = 6 ∨ κ = 7 ∨ κ = 8 := by omega
                clear hκ'
                rcases hcase with rfl | rfl | rfl
                all_goals
                  go_wp2
                  go_meet
                  exact ⟨rfl, rfl⟩
              · have ee : decide (κ < 9) = false := by simpa using hh
                have n6 : ((κ : Int) == 6) = false := by simp; omega
                have n7 : ((κ : Int) == 7) = false := by simp; omega
                have n8 : ((κ : Int) == 8) = false := by simp; omega
                go_wp2
                go_meet
                exact ⟨by rw [ee], rfl⟩
            case rest =>
            obtain ⟨rfl, hwx⟩ := hcut
            rw [hwx]
            clear hwx
            by_cases hg9 : κ < 9
            · have eg : decide (κ < 9) = true := by simpa using hg9
              cases hp : L[q]? with
              | none =>
                have HTN : Hid (∀ w', Fr noneOf W w' → Calls Tryd.prog 21 #[.pointer (some ⟨b, 0, none⟩), .int .i64 q] w' fun e w'' => e = .returned (.tuple #[.agg #[.int .i64 0, .int .i64 0, .string ⟨#[]⟩], .bool false]) ∧ NetL (g + 1) 12 k L b w'' ∧ Fr (SO (g + 1) b w') w' w'') := Lib.hid (fun w' hf => (HTK.out w' hf).mono fun e w'' ⟨h1, h2⟩ => (by
                  rcases h2 with ⟨p', hp', _⟩ | ⟨_, he, hN⟩
                  · rw [hp] at hp'; cases hp'
                  · exact ⟨he, hN, h1⟩))
                go_wp2_with (first
                  | (go_at_call 22; (with_reducible refine (HAT.out _).mono ?_); rintro e v1 ⟨rfl, hf1⟩; have HF1 := Lib.hid hf1; clear hf1)
                  | (go_at_call 21; (with_reducible refine (HTN.out _ HF1.out).mono ?_); rintro e v2 ⟨rfl, hN, hf2⟩; have HN2 := Lib.hid (And.intro (hN.more (Nat.le_succ k)) hf2); clear hN hf2))
                have hA1 := AtT.next HFR.out HSE.out HF1.out HN2.out.2 HN2.out.1 HRD.out
                exact ⟨⟨k + 1, by omega, by omega, by go_num, hA1.fr0 ((Fr.refl noneOf _).alloc _)⟩, by simp [intOf]; omega⟩
              | some p =>
                have HTS : Hid (∀ w', Fr noneOf W w' → Calls Tryd.prog 21 #[.pointer (some ⟨b, 0, none⟩), .int .i64 q] w' fun e w'' => e = .returned (.tuple #[.agg #[.int .i64 p.x, .int .i64 p.y, .string p.s], .bool true]) ∧ NetL (g + 1) 12 k (L.eraseIdx q) b w'' ∧ Fr (SO (g + 1) b w') w' w'') := Lib.hid (fun w' hf => (HTK.out w' hf).mono fun e w'' ⟨h1, h2⟩ => (by
                  rcases h2 with ⟨p', hp', he, hN⟩ | ⟨hno, _⟩
                  · have hpp : p = p' := by rw [hp] at hp'; exact Option.some.inj hp'
                    subst hpp
                    exact ⟨he, hN, h1⟩
                  · rw [hp] at hno; cases hno))
                have hok := HS.out.1.ok p (List.mem_of_getElem? hp)
                obtain ⟨⟨a1, a2⟩, ⟨a3, a4⟩, _⟩ := hok
                rcases HRD.out p (List.mem_of_getElem? hp) with ⟨r, hr15, hsr, hrr⟩ | hbad
                · have HRR : Hid (∀ w, Calls Tryd.prog 12 #[.string p.s] w fun e w' => e = .returned (.tuple #[.agg #[.int .i64 3, .int .i64 0, .int .i64 0, .bool false, .string ⟨#[]⟩, .string ⟨#[]⟩, .int .i64 r, .int .i64 0], .nilIface]) ∧ Fr noneOf w w') := hrr
                  obtain ⟨X, hX⟩ : ∃ X : Nat, p.x = (X : Int) := ⟨p.x.toNat, by omega⟩
                  obtain ⟨Y, hY⟩ : ∃ Y : Nat, p.y = (Y : Int) := ⟨p.y.toNat, by omega⟩
                  rw [hX, hY] at hsr HTS
                  rw [Int.toNat_natCast, Int.toNat_natCast] at hsr
                  rw [hX] at a1 a2
                  rw [hY] at a3 a4
                  clear hX hY hrr hp
                  obtain ⟨ps, hps⟩ : ∃ ps, ps = p.s := ⟨_, rfl⟩
                  rw [← hps] at HRR HTS
                  clear hps
                  have hX3 := and3 X (by omega)
                  have hY3 := and3 Y (by omega)
                  go_wp2_with (first
                    | (go_at_call 22; (with_reducible refine (HAT.out _).mono ?_); rintro e v1 ⟨rfl, hf1⟩; have HF1 := Lib.hid hf1; clear hf1)
                    | (go_at_call 21; (with_reducible refine (HTS.out _ HF1.out).mono ?_); rintro e v2 ⟨rfl, hN, hf2⟩; have HN2 := Lib.hid (And.intro hN hf2); have HF2 : Hid (Fr (SS g) wZ (v2.alloc (.cells #[.int .i64 X, .int .i64 Y, .string ps] 53))) := Lib.hid (((HFR.out.trans' HF1.out (fun _ _ x => x.elim)).trans (so_ss hf2)).alloc _); have HSE2 : Hid (SentB (v2.alloc (.cells #[.int .i64 X, .int .i64 Y, .string ps] 53)) g sf) := Lib.hid (((HSE.out.fr0 HF1.out).fr hf2 so_not).fr0 ((Fr.refl _ _).alloc _)); have HNL2 : Hid (NetL (g + 1) 12 k (L.eraseIdx q) b (v2.alloc (.cells #[.int .i64 X, .int .i64 Y, .string ps] 53))) := Lib.hid (hN.fr ((Fr.refl _ _).alloc _)); have HQ2 := Lib.hid (Blk.new v2 53 #[.int .i64 X, .int .i64 Y, .string ps]); clear hN hf2; have y2 := HQ2.out.cell 2)
                    | (go_at_call 12; (with_reducible refine (HRR.out _).mono ?_); rintro e v3 ⟨rfl, hf3⟩; have hf4 : Fr noneOf (v2.alloc (.cells #[.int .i64 X, .int .i64 Y, .string ps] 53)) (v3.alloc (.cells #[.int .i64 3, .int .i64 0, .int .i64 0, .bool false, .string ⟨#[]⟩, .string ⟨#[]⟩, .int .i64 r, .int .i64 0] 25)) := hf3.alloc _; have HF3 := Lib.hid (HF2.out.trans' hf4 (fun _ _ x => x.elim)); have HNL3 := Lib.hid (HNL2.out.fr hf4); have HSE3 := Lib.hid (HSE2.out.fr0 hf4); have HM3 := Lib.hid (Blk.new v3 25 #[.int .i64 3, .int .i64 0, .int .i64 0, .bool false, .string ⟨#[]⟩, .string ⟨#[]⟩, .int .i64 r, .int .i64 0]); have HQ3 := Lib.hid (HQ2.out.fr0 hf4); clear hf3 hf4))
                  obtain ⟨V, hV⟩ : ∃ V, V = v3.alloc (.cells #[.int .i64 3, .int .i64 0, .int .i64 0, .bool false, .string ⟨#[]⟩, .string ⟨#[]⟩, .int .i64 r, .int .i64 0] 25) := ⟨_, rfl⟩
                  obtain ⟨M, hM⟩ : ∃ M, M = v3.heap.size := ⟨_, rfl⟩
                  obtain ⟨Q, hQ⟩ : ∃ Q, Q = v2.heap.size := ⟨_, rfl⟩
                  rw [← hV] at HF3 HNL3 HSE3 HM3 HQ3
                  rw [← hM] at HM3
                  rw [← hQ] at HQ3
                  rw [← hV, ← hM, ← hQ]
                  clear hV hM hQ
                  have HCE : Hid (∀ w', Fr noneOf V w' → (fun w' => w'.cell? ⟨M, 0, none⟩ = some (.int .i64 3) ∧ w'.cell? ⟨M, 6, none⟩ = some (.int .i64 r) ∧ w'.cell? ⟨Q, 0, none⟩ = some (.int .i64 X) ∧ w'.cell? ⟨Q, 1, none⟩ = some (.int .i64 Y) ∧ w'.cell? ⟨g, X * 64 + Y * 16 + r, none⟩ = some (.bool true)) w') := Lib.hid (fun w' hf => ⟨(HM3.out.fr0 hf).cell 0, (HM3.out.fr0 hf).cell 6, (HQ3.out.fr0 hf).cell 0, (HQ3.out.fr0 hf).cell 1, by have := ((HSE3.out.fr0 hf).cell (show X < 4 by omega) (show Y < 4 by omega) (show r < 16 by omega)).1; rw [hsr] at this; exact this⟩)
                  have hd : Fr noneOf V V.drew := (Fr.refl _ _).drew
                  have j0 : (0 : Int) ≤ (X : Int) := by omega
                  have j1 : (X : Int) < 4 := by omega
                  have j2 : (0 : Int) ≤ (Y : Int) := by omega
                  have j3 : (Y : Int) < 4 := by omega
                  have j4 : (0 : Int) ≤ (r : Int) := by omega
                  have j5 : (r : Int) < 16 := by omega
                  have j6 : ¬ (r : Int) < 0 := by omega
                  have j7 : ¬ (15 : Int) < (r : Int) := by omega
                  have j8 : ¬ 15 < r := by omega
                  have j9 : decide ((15 : Int) < (r : Int)) = false := by simp; omega
                  have j10 : decide (15 < r) = false := by simp; omega
                  clear a1 a2 a3 a4 y2 hsr
                  (go_region_held3 (fun w' => w'.cell? ⟨M, 0, none⟩ = some (.int .i64 3) ∧ w'.cell? ⟨M, 6, none⟩ = some (.int .i64 r) ∧ w'.cell? ⟨Q, 0, none⟩ = some (.int .i64 X) ∧ w'.cell? ⟨Q, 1, none⟩ = some (.int .i64 Y) ∧ w'.cell? ⟨g, X * 64 + Y * 16 + r, none⟩ = some (.bool true))
                    (first | exact HCE.out _ hk | exact HCE.out _ hd)
                    (first | (go_at_call 11; (with_reducible refine (code_nil _).mono ?_); rintro e v5 ⟨rfl, hf5⟩; have hk := hd.trans hf5)))
                  go_wp2
                  exact ⟨⟨k + 1, by omega, by omega, by go_num, ⟨⟨L.eraseIdx q, sf, (HNL3.out.fr hk).more (Nat.le_succ k), fun p hp => HRD.out p (List.mem_of_mem_eraseIdx hp), HSE3.out.fr0 hk⟩, HF3.out.trans' hk (fun _ _ x => x.elim)⟩⟩, by simp [intOf]; omega⟩
                · have HRR : Hid (∀ w, Calls Tryd.prog 12 #[.string p.s] w fun e w' => (∃ T V, e = .returned (.tuple #[.agg #[.int .i64 0, .int .i64 0, .int .i64 0, .bool false, .string ⟨#[]⟩, .string ⟨#[]⟩, .int .i64 0, .int .i64 0], .iface T V]) ∧ Bad T V w') ∧ Fr noneOf w w') := hbad
                  clear hbad hp
                  go_wp2_with (first
                    | (go_at_call 22; (with_reducible refine (HAT.out _).mono ?_); rintro e v1 ⟨rfl, hf1⟩; have HF1 := Lib.hid hf1; clear hf1)
                    | (go_at_call 21; (with_reducible refine (HTS.out _ HF1.out).mono ?_); rintro e v2 ⟨rfl, hN, hf2⟩; have HN2 := Lib.hid (And.intro hN hf2); have HF2 : Hid (Fr (SS g) wZ (v2.alloc (.cells #[.int .i64 p.x, .int .i64 p.y, .string p.s] 53))) := Lib.hid (((HFR.out.trans' HF1.out (fun _ _ x => x.elim)).trans (so_ss hf2)).alloc _); have HSE2 : Hid (SentB (v2.alloc (.cells #[.int .i64 p.x, .int .i64 p.y, .string p.s] 53)) g sf) := Lib.hid (((HSE.out.fr0 HF1.out).fr hf2 so_not).fr0 ((Fr.refl _ _).alloc _)); have HNL2 : Hid (NetL (g + 1) 12 k (L.eraseIdx q) b (v2.alloc (.cells #[.int .i64 p.x, .int .i64 p.y, .string p.s] 53))) := Lib.hid (hN.fr ((Fr.refl _ _).alloc _)); have HQ2 := Lib.hid (Blk.new v2 53 #[.int .i64 p.x, .int .i64 p.y, .string p.s]); clear hN hf2; have y2 := HQ2.out.cell 2)
                    | (go_at_call 12; (with_reducible refine (HRR.out _).mono ?_); rintro e v3 ⟨⟨T, V, rfl, hbd⟩, hf3⟩; have hf4 : Fr noneOf (v2.alloc (.cells #[.int .i64 p.x, .int .i64 p.y, .string p.s] 53)) (v3.alloc (.cells #[.int .i64 0, .int .i64 0, .int .i64 0, .bool false, .string ⟨#[]⟩, .string ⟨#[]⟩, .int .i64 0, .int .i64 0] 25)) := hf3.alloc _; have HF3 := Lib.hid (HF2.out.trans' hf4 (fun _ _ x => x.elim)); have HNL3 := Lib.hid (HNL2.out.fr hf4); have HSE3 := Lib.hid (HSE2.out.fr0 hf4); have HB3 : Hid (Bad T V (v3.alloc (.cells #[.int .i64 0, .int .i64 0, .int .i64 0, .bool false, .string ⟨#[]⟩, .string ⟨#[]⟩, .int .i64 0, .int .i64 0] 25))) := Lib.hid (hbd.fr0 ((Fr.refl _ _).alloc _)); clear hf3 hf4 hbd))
                  obtain ⟨V, hV⟩ : ∃ V, V = v3.alloc (.cells #[.int .i64 0, .int .i64 0, .int .i64 0, .bool false, .string ⟨#[]⟩, .string ⟨#[]⟩, .int .i64 0, .int .i64 0] 25) := ⟨_, rfl⟩
                  obtain ⟨M, hM⟩ : ∃ M, M = v3.heap.size := ⟨_, rfl⟩
                  obtain ⟨Q, hQ⟩ : ∃ Q, Q = v2.heap.size := ⟨_, rfl⟩
                  rw [← hV] at HF3 HNL3 HSE3 HB3
                  rw [← hV, ← hM, ← hQ]
                  clear hV hM hQ
                  have hd : Fr noneOf V V.drew := (Fr.refl _ _).drew
                  have hgv : errT V.drew := HG.out.frS (((HFW.out.1.of0 (SS g)).trans HF3.out).trans' hd (fun _ _ x => x.elim)) (fun i hi h => by
                    have h1 := HFW.out.2.1
                    rcases h with ⟨e, _⟩ | e
                    · omega
                    · omega)
                  have HGV := Lib.hid hgv
                  have HBV := Lib.hid (HB3.out.fr0 hd)
                  clear a1 a2 a3 a4 y2 hgv
                  refine wp_region_held_drew (S := fun _ => True) (by kernel_rfl) trivial (fun hHeld => ?_)
                  refine wpAnyH_take (i := 0) (v := ?_) (by simp only [List.getElem?_toArray, List.getElem?_cons_succ, List.getElem?_cons_zero]; rfl) (by kernel_rfl) (by kernel_rfl) (by kernel_rfl) (fun _ _ _ h => by exact h) (Or.inl ⟨by rfl, ?_⟩) hHeld ?_; rotate_left; focus (intro w hSw; (try dsimp only at hSw); go_simp; try with_reducible rfl)
                  try simp only [Act.put, List.setIfInBounds_toArray, List.set_cons_zero, List.set_cons_succ]
                  refine wpAnyH_ready (rs := [1]) (by kernel_rfl) (by simp) (AllReadyH.cons (i := 1) (by simp only [List.getElem?_toArray, List.getElem?_cons_succ, List.getElem?_cons_zero]; rfl) (fun K hK => ?_) AllReadyH.nil)
                  go_simp
                  go_at_call 11; (with_reducible refine (code_bad HBV.out HGV.out).mono ?_); rintro e v5 ⟨cc, hcc, rfl, hf5⟩; have hk := hd.trans hf5; have hne : ¬ cc = 0 := by simpa using hcc
                  try go_wp2_with fail
                  refine hK.out _ _ trivial (fun hHeld => ?_)
                  clear hK K
                  try simp only [Act.put, List.setIfInBounds_toArray, List.set_cons_zero, List.set_cons_succ]
                  refine wpAnyH_take (i := 2) (v := ?_) (by simp only [List.getElem?_toArray, List.getElem?_cons_succ, List.getElem?_cons_zero]; rfl) (by kernel_rfl) (by kernel_rfl) (by kernel_rfl) (fun _ _ _ h => by exact h) (Or.inl ⟨by rfl, ?_⟩) hHeld ?_; rotate_left; focus (intro w hSw; (try dsimp only at hSw); go_simp; try with_reducible rfl)
                  try simp only [Act.put, List.setIfInBounds_toArray, List.set_cons_zero, List.set_cons_succ]
                  refine wpAnyH_take (i := 3) (v := ?_) (by simp only [List.getElem?_toArray, List.getElem?_cons_succ, List.getElem?_cons_zero]; rfl) (by kernel_rfl) (by kernel_rfl) (by kernel_rfl) (fun _ _ _ h => by exact h) (Or.inl ⟨by rfl, ?_⟩) hHeld ?_; rotate_left; focus (intro w hSw; (try dsimp only at hSw); go_simp; try with_reducible rfl)
                  try simp only [Act.put, List.setIfInBounds_toArray, List.set_cons_zero, List.set_cons_succ]
                  refine wpAnyH_take (i := 4) (v := undef) (by simp only [List.getElem?_toArray, List.getElem?_cons_succ, List.getElem?_cons_zero]; rfl) (by kernel_rfl) (by kernel_rfl) (by kernel_rfl) (fun _ _ _ h => by exact h) (Or.inr ⟨by rfl, rfl⟩) hHeld ?_
                  try simp only [Act.put, List.setIfInBounds_toArray, List.set_cons_zero, List.set_cons_succ]
                  refine wpAnyH_take (i := 5) (v := undef) (by simp only [List.getElem?_toArray, List.getElem?_cons_succ, List.getElem?_cons_zero]; rfl) (by kernel_rfl) (by kernel_rfl) (by kernel_rfl) (fun _ _ _ h => by exact h) (Or.inr ⟨by rfl, rfl⟩) hHeld ?_
                  try simp only [Act.put, List.setIfInBounds_toArray, List.set_cons_zero, List.set_cons_succ]
                  refine wpAnyH_take (i := 6) (v := undef) (by simp only [List.getElem?_toArray, List.getElem?_cons_succ, List.getElem?_cons_zero]; rfl) (by kernel_rfl) (by kernel_rfl) (by kernel_rfl) (fun _ _ _ h => by exact h) (Or.inr ⟨by rfl, rfl⟩) hHeld ?_
                  try simp only [Act.put, List.setIfInBounds_toArray, List.set_cons_zero, List.set_cons_succ]
                  refine wpAnyH_take (i := 7) (v := undef) (by simp only [List.getElem?_toArray, List.getElem?_cons_succ, List.getElem?_cons_zero]; rfl) (by kernel_rfl) (by kernel_rfl) (by kernel_rfl) (fun _ _ _ h => by exact h) (Or.inr ⟨by rfl, rfl⟩) hHeld ?_
                  try simp only [Act.put, List.setIfInBounds_toArray, List.set_cons_zero, List.set_cons_succ]
                  refine wpAnyH_take (i := 8) (v := undef) (by simp only [List.getElem?_toArray, List.getElem?_cons_succ, List.getElem?_cons_zero]; rfl) (by kernel_rfl) (by kernel_rfl) (by kernel_rfl) (fun _ _ _ h => by exact h) (Or.inr ⟨by rfl, rfl⟩) hHeld ?_
                  try simp only [Act.put, List.setIfInBounds_toArray, List.set_cons_zero, List.set_cons_succ]
                  refine wpAnyH_take (i := 9) (v := undef) (by simp only [List.getElem?_toArray, List.getElem?_cons_succ, List.getElem?_cons_zero]; rfl) (by kernel_rfl) (by kernel_rfl) (by kernel_rfl) (fun _ _ _ h => by exact h) (Or.inr ⟨by rfl, rfl⟩) hHeld ?_
                  try simp only [Act.put, List.setIfInBounds_toArray, List.set_cons_zero, List.set_cons_succ]
                  refine wpAnyH_take (i := 10) (v := undef) (by simp only [List.getElem?_toArray, List.getElem?_cons_succ, List.getElem?_cons_zero]; rfl) (by kernel_rfl) (by kernel_rfl) (by kernel_rfl) (fun _ _ _ h => by exact h) (Or.inr ⟨by rfl, rfl⟩) hHeld ?_
                  try simp only [Act.put, List.setIfInBounds_toArray, List.set_cons_zero, List.set_cons_succ]
                  refine wpAnyH_take (i := 11) (v := undef) (by simp only [List.getElem?_toArray, List.getElem?_cons_succ, List.getElem?_cons_zero]; rfl) (by kernel_rfl) (by kernel_rfl) (by kernel_rfl) (fun _ _ _ h => by exact h) (Or.inr ⟨by rfl, rfl⟩) hHeld ?_
                  try simp only [Act.put, List.setIfInBounds_toArray, List.set_cons_zero, List.set_cons_succ]
                  refine wpAnyH_take (i := 12) (v := undef) (by simp only [List.getElem?_toArray, List.getElem?_cons_succ, List.getElem?_cons_zero]; rfl) (by kernel_rfl) (by kernel_rfl) (by kernel_rfl) (fun _ _ _ h => by exact h) (Or.inr ⟨by rfl, rfl⟩) hHeld ?_
                  try simp only [Act.put, List.setIfInBounds_toArray, List.set_cons_zero, List.set_cons_succ]
                  refine wpAnyH_take (i := 13) (v := undef) (by simp only [List.getElem?_toArray, List.getElem?_cons_succ, List.getElem?_cons_zero]; rfl) (by kernel_rfl) (by kernel_rfl) (by kernel_rfl) (fun _ _ _ h => by exact h) (Or.inr ⟨by rfl, rfl⟩) hHeld ?_
                  try simp only [Act.put, List.setIfInBounds_toArray, List.set_cons_zero, List.set_cons_succ]
                  refine wpAnyH_take (i := 14) (v := undef) (by simp only [List.getElem?_toArray, List.getElem?_cons_succ, List.getElem?_cons_zero]; rfl) (by kernel_rfl) (by kernel_rfl) (by kernel_rfl) (fun _ _ _ h => by exact h) (Or.inr ⟨by rfl, rfl⟩) hHeld ?_
                  try simp only [Act.put, List.setIfInBounds_toArray, List.set_cons_zero, List.set_cons_succ]
                  refine wpAnyH_take (i := 15) (v := undef) (by simp only [List.getElem?_toArray, List.getElem?_cons_succ, List.getElem?_cons_zero]; rfl) (by kernel_rfl) (by kernel_rfl) (by kernel_rfl) (fun _ _ _ h => by exact h) (Or.inr ⟨by rfl, rfl⟩) hHeld ?_
                  try simp only [Act.put, List.setIfInBounds_toArray, List.set_cons_zero, List.set_cons_succ]
                  refine wpAnyH_take (i := 16) (v := undef) (by simp only [List.getElem?_toArray, List.getElem?_cons_succ, List.getElem?_cons_zero]; rfl) (by kernel_rfl) (by kernel_rfl) (by kernel_rfl) (fun _ _ _ h => by exact h) (Or.inr ⟨by rfl, rfl⟩) hHeld ?_
                  try simp only [Act.put, List.setIfInBounds_toArray, List.set_cons_zero, List.set_cons_succ]
                  refine wpAnyH_take (i := 17) (v := undef) (by simp only [List.getElem?_toArray, List.getElem?_cons_succ, List.getElem?_cons_zero]; rfl) (by kernel_rfl) (by kernel_rfl) (by kernel_rfl) (fun _ _ _ h => by exact h) (Or.inr ⟨by rfl, rfl⟩) hHeld ?_
                  try simp only [Act.put, List.setIfInBounds_toArray, List.set_cons_zero, List.set_cons_succ]
                  refine wpAnyH_take (i := 18) (v := undef) (by simp only [List.getElem?_toArray, List.getElem?_cons_succ, List.getElem?_cons_zero]; rfl) (by kernel_rfl) (by kernel_rfl) (by kernel_rfl) (fun _ _ _ h => by exact h) (Or.inr ⟨by rfl, rfl⟩) hHeld ?_
                  try simp only [Act.put, List.setIfInBounds_toArray, List.set_cons_zero, List.set_cons_succ]
                  refine wpAnyH_take (i := 19) (v := undef) (by simp only [List.getElem?_toArray, List.getElem?_cons_succ, List.getElem?_cons_zero]; rfl) (by kernel_rfl) (by kernel_rfl) (by kernel_rfl) (fun _ _ _ h => by exact h) (Or.inr ⟨by rfl, rfl⟩) hHeld ?_
                  try simp only [Act.put, List.setIfInBounds_toArray, List.set_cons_zero, List.set_cons_succ]
                  refine wpAnyH_take (i := 20) (v := undef) (by simp only [List.getElem?_toArray, List.getElem?_cons_succ, List.getElem?_cons_zero]; rfl) (by kernel_rfl) (by kernel_rfl) (by kernel_rfl) (fun _ _ _ h => by exact h) (Or.inr ⟨by rfl, rfl⟩) hHeld ?_
                  try simp only [Act.put, List.setIfInBounds_toArray, List.set_cons_zero, List.set_cons_succ]
                  refine wpAnyH_take (i := 21) (v := undef) (by simp only [List.getElem?_toArray, List.getElem?_cons_succ, List.getElem?_cons_zero]; rfl) (by kernel_rfl) (by kernel_rfl) (by kernel_rfl) (fun _ _ _ h => by exact h) (Or.inr ⟨by rfl, rfl⟩) hHeld ?_
                  try simp only [Act.put, List.setIfInBounds_toArray, List.set_cons_zero, List.set_cons_succ]
                  refine wpAnyH_take (i := 22) (v := undef) (by simp only [List.getElem?_toArray, List.getElem?_cons_succ, List.getElem?_cons_zero]; rfl) (by kernel_rfl) (by kernel_rfl) (by kernel_rfl) (fun _ _ _ h => by exact h) (Or.inr ⟨by rfl, rfl⟩) hHeld ?_
                  try simp only [Act.put, List.setIfInBounds_toArray, List.set_cons_zero, List.set_cons_succ]
                  refine wpAnyH_take (i := 23) (v := undef) (by simp only [List.getElem?_toArray, List.getElem?_cons_succ, List.getElem?_cons_zero]; rfl) (by kernel_rfl) (by kernel_rfl) (by kernel_rfl) (fun _ _ _ h => by exact h) (Or.inr ⟨by rfl, rfl⟩) hHeld ?_
                  try simp only [Act.put, List.setIfInBounds_toArray, List.set_cons_zero, List.set_cons_succ]
                  refine wpAnyH_take (i := 24) (v := undef) (by simp only [List.getElem?_toArray, List.getElem?_cons_succ, List.getElem?_cons_zero]; rfl) (by kernel_rfl) (by kernel_rfl) (by kernel_rfl) (fun _ _ _ h => by exact h) (Or.inr ⟨by rfl, rfl⟩) hHeld ?_
                  try simp only [Act.put, List.setIfInBounds_toArray, List.set_cons_zero, List.set_cons_succ]
                  refine wpAnyH_take (i := 25) (v := undef) (by simp only [List.getElem?_toArray, List.getElem?_cons_succ, List.getElem?_cons_zero]; rfl) (by kernel_rfl) (by kernel_rfl) (by kernel_rfl) (fun _ _ _ h => by exact h) (Or.inr ⟨by rfl, rfl⟩) hHeld ?_
                  try simp only [Act.put, List.setIfInBounds_toArray, List.set_cons_zero, List.set_cons_succ]
                  refine wpAnyH_take (i := 26) (v := undef) (by simp only [List.getElem?_toArray, List.getElem?_cons_succ, List.getElem?_cons_zero]; rfl) (by kernel_rfl) (by kernel_rfl) (by kernel_rfl) (fun _ _ _ h => by exact h) (Or.inr ⟨by rfl, rfl⟩) hHeld ?_
                  try simp only [Act.put, List.setIfInBounds_toArray, List.set_cons_zero, List.set_cons_succ]
                  refine wpAnyH_take (i := 27) (v := undef) (by simp only [List.getElem?_toArray, List.getElem?_cons_succ, List.getElem?_cons_zero]; rfl) (by kernel_rfl) (by kernel_rfl) (by kernel_rfl) (fun _ _ _ h => by exact h) (Or.inr ⟨by rfl, rfl⟩) hHeld ?_
                  try simp only [Act.put, List.setIfInBounds_toArray, List.set_cons_zero, List.set_cons_succ]
                  refine wpAnyH_take (i := 28) (v := undef) (by simp only [List.getElem?_toArray, List.getElem?_cons_succ, List.getElem?_cons_zero]; rfl) (by kernel_rfl) (by kernel_rfl) (by kernel_rfl) (fun _ _ _ h => by exact h) (Or.inr ⟨by rfl, rfl⟩) hHeld ?_
                  try simp only [Act.put, List.setIfInBounds_toArray, List.set_cons_zero, List.set_cons_succ]
                  refine wpAnyH_take (i := 29) (v := undef) (by simp only [List.getElem?_toArray, List.getElem?_cons_succ, List.getElem?_cons_zero]; rfl) (by kernel_rfl) (by kernel_rfl) (by kernel_rfl) (fun _ _ _ h => by exact h) (Or.inr ⟨by rfl, rfl⟩) hHeld ?_
                  try simp only [Act.put, List.setIfInBounds_toArray, List.set_cons_zero, List.set_cons_succ]
                  refine wpAnyH_take (i := 30) (v := undef) (by simp only [List.getElem?_toArray, List.getElem?_cons_succ, List.getElem?_cons_zero]; rfl) (by kernel_rfl) (by kernel_rfl) (by kernel_rfl) (fun _ _ _ h => by exact h) (Or.inr ⟨by rfl, rfl⟩) hHeld ?_
                  try simp only [Act.put, List.setIfInBounds_toArray, List.set_cons_zero, List.set_cons_succ]
                  refine wpAnyH_take (i := 31) (v := undef) (by simp only [List.getElem?_toArray, List.getElem?_cons_succ, List.getElem?_cons_zero]; rfl) (by kernel_rfl) (by kernel_rfl) (by kernel_rfl) (fun _ _ _ h => by exact h) (Or.inr ⟨by rfl, rfl⟩) hHeld ?_
                  try simp only [Act.put, List.setIfInBounds_toArray, List.set_cons_zero, List.set_cons_succ]
                  refine wpAnyH_take (i := 32) (v := ?_) (by simp only [List.getElem?_toArray, List.getElem?_cons_succ, List.getElem?_cons_zero]; rfl) (by kernel_rfl) (by kernel_rfl) (by kernel_rfl) (fun _ _ _ h => by exact h) (Or.inl ⟨by rfl, ?_⟩) hHeld ?_; rotate_left; focus (intro w hSw; (try dsimp only at hSw); go_simp; try with_reducible rfl)
                  try simp only [Act.put, List.setIfInBounds_toArray, List.set_cons_zero, List.set_cons_succ]
                  refine wpAnyH_done (by kernel_rfl) ?_ _
                  go_wp2
                  exact ⟨⟨k + 1, by omega, by omega, by go_num, ⟨⟨L.eraseIdx q, sf, (HNL3.out.fr hk).more (Nat.le_succ k), fun p hp => HRD.out p (List.mem_of_mem_eraseIdx hp), HSE3.out.fr0 hk⟩, HF3.out.trans' hk (fun _ _ x => x.elim)⟩⟩, by simp [intOf]; omega⟩
            · have eg : decide (κ < 9) = false := by simpa using hg9
              rw [eg]
              go_upto_if 114 with fail
              go_cut [114] (fun ss wx => ss = .bool (decide (κ < 11)) ∧ wx = W)
              case first =>
                by_cases hh : κ < 11
                · have ee : decide (κ < 11) = true := by simpa using hh
                  have hcase : κ = 9 ∨ κ = 10 := by omega
                  clear hκ'
                  rcases hcase with rfl | rfl
                  all_goals
                    go_wp2
                    go_meet
                    exact ⟨rfl, rfl⟩
                · have ee : decide (κ < 11) = false := by simpa using hh
                  have n9 : ((κ : Int) == 9) = false := by simp; omega
                  have n10 : ((κ : Int) == 10) = false := by simp; omega
                  go_wp2
                  go_meet
                  exact ⟨by rw [ee], rfl⟩
              case rest =>
              obtain ⟨rfl, hwx⟩ := hcut
              rw [hwx]
              clear hwx
              by_cases hg11 : κ < 11
              · have eg : decide (κ < 11) = true := by simpa using hg11
                go_wp2_with (first
                  | (go_at_call 22; (with_reducible refine (HAT.out _).mono ?_); rintro e v1 ⟨rfl, hf1⟩; have HF1 := Lib.hid hf1; clear hf1)
                  | (go_at_call 23; (with_reducible refine (HCO.out _ HF1.out).mono ?_); rintro e v2 ⟨ok, rfl, ⟨L', hN, hL'⟩, hf2⟩; have HN2 := Lib.hid (And.intro hN hf2); have HL2 := Lib.hid hL'; clear hN hf2 hL'))
                refine ⟨⟨k + 1, by omega, by omega, by go_num, AtT.next HFR.out HSE.out HF1.out HN2.out.2 (HN2.out.1) ?_⟩, by simp [intOf]; omega⟩
                rcases HL2.out with rfl | ⟨p0, hp0, rfl⟩
                · exact HRD.out
                · intro p hp
                  rcases List.mem_append.1 hp with hp | hp
                  · exact HRD.out p hp
                  · simp at hp
                    subst hp
                    exact HRD.out _ hp0
              · have eg : decide (κ < 11) = false := by simpa using hg11
                rw [eg]
                go_upto_if 121 with fail
                go_cut [121] (fun ss wx => ss = .bool (decide (κ < 13)) ∧ wx = W)
                case first =>
                  by_cases hh : κ < 13
                  · have ee : decide (κ < 13) = true := by simpa using hh
                    have hcase : κ = 11 ∨ κ = 12 := by omega
                    clear hκ'
                    rcases hcase with rfl | rfl
                    all_goals
                      go_wp2
                      go_meet
                      exact ⟨rfl, rfl⟩
                  · have ee : decide (κ < 13) = false := by simpa using hh
                    have n11 : ((κ : Int) == 11) = false := by simp; omega
                    have n12 : ((κ : Int) == 12) = false := by simp; omega
                    go_wp2
                    go_meet
                    exact ⟨by rw [ee], rfl⟩
                case rest =>
                obtain ⟨rfl, hwx⟩ := hcut
                rw [hwx]
                clear hwx
                by_cases hg13 : κ < 13
                · have eg : decide (κ < 13) = true := by simpa using hg13
                  have HCEL : Hid (∀ w', Blk w' P 51 #[.int .i64 kd, .int .i64 fr, .int .i64 tt, .int .i64 i, .int .i64 at', .int .u8 b0, .int .u8 b1, .int .u8 b2, .int .u8 b3, .string s, .bool false] → (fun w' => w'.cell? ⟨P, 0, none⟩ = some (.int .i64 kd) ∧ w'.cell? ⟨P, 1, none⟩ = some (.int .i64 fr) ∧ w'.cell? ⟨P, 2, none⟩ = some (.int .i64 tt) ∧ w'.cell? ⟨P, 3, none⟩ = some (.int .i64 i) ∧ w'.cell? ⟨P, 4, none⟩ = some (.int .i64 at') ∧ w'.cell? ⟨P, 5, none⟩ = some (.int .u8 b0) ∧ w'.cell? ⟨P, 6, none⟩ = some (.int .u8 b1) ∧ w'.cell? ⟨P, 7, none⟩ = some (.int .u8 b2) ∧ w'.cell? ⟨P, 8, none⟩ = some (.int .u8 b3) ∧ w'.cell? ⟨P, 9, none⟩ = some (.string s) ∧ w'.cell? ⟨P, 10, none⟩ = some (.bool false)) w') := Lib.hid (fun w' h => ⟨h.cell 0, h.cell 1, h.cell 2, h.cell 3, h.cell 4, h.cell 5, h.cell 6, h.cell 7, h.cell 8, h.cell 9, h.cell 10⟩)
                  have hblk0 := HB.out.drew
                  go_wp2
                  (go_region_held3 (fun w' => w'.cell? ⟨P, 0, none⟩ = some (.int .i64 kd) ∧ w'.cell? ⟨P, 1, none⟩ = some (.int .i64 fr) ∧ w'.cell? ⟨P, 2, none⟩ = some (.int .i64 tt) ∧ w'.cell? ⟨P, 3, none⟩ = some (.int .i64 i) ∧ w'.cell? ⟨P, 4, none⟩ = some (.int .i64 at') ∧ w'.cell? ⟨P, 5, none⟩ = some (.int .u8 b0) ∧ w'.cell? ⟨P, 6, none⟩ = some (.int .u8 b1) ∧ w'.cell? ⟨P, 7, none⟩ = some (.int .u8 b2) ∧ w'.cell? ⟨P, 8, none⟩ = some (.int .u8 b3) ∧ w'.cell? ⟨P, 9, none⟩ = some (.string s) ∧ w'.cell? ⟨P, 10, none⟩ = some (.bool false))
                    (first | exact HCEL.out _ hblk2 | exact HCEL.out _ hblk1 | exact HCEL.out _ hblk0 | go_keep)
                    (first
                      | (go_at_call 22; (with_reducible refine (HAT.out _).mono ?_); rintro e v1 ⟨rfl, hf1⟩; have HF1 := Lib.hid ((Fr.refl noneOf W).drew.trans hf1); have hblk1 := HB.out.fr0 HF1.out)
                      | (go_at_call 24; (with_reducible refine (HSP.out _ HF1.out).mono ?_); rintro e v2 ⟨ok, rfl, ⟨L', hN, hL'⟩, hf2⟩; have HN2 := Lib.hid (And.intro (hN.more (Nat.le_succ k)) hf2); have HL2 := Lib.hid hL'; have hblk2 := hblk1.fr hf2 (HKEEP.out _ _ HF1.out (Nat.le_refl _)); clear hN hL')))
                  go_wp2
                  refine ⟨⟨k + 1, by omega, by omega, by go_num, AtT.next HFR.out HSE.out HF1.out HN2.out.2 (HN2.out.1) ?_⟩, by simp [intOf]; omega⟩
                  rcases HL2.out with rfl | ⟨i0, p0, s', hp0, hno, rfl⟩
                  · exact HRD.out
                  · intro p hp
                    rcases List.mem_or_eq_of_mem_set hp with hp | hp
                    · exact HRD.out p hp
                    · subst hp
                      exact .inr (reads_noopen _ hno)
                · have eg : decide (κ < 13) = false := by simpa using hg13
                  rw [eg]
                  go_wp2
                  exact ⟨⟨k + 1, by omega, by omega, by go_num, ⟨⟨L, sf, (HNW.out W (Fr.refl _ _)).more (Nat.le_succ k), HRD.out, HSE.out⟩, HFR.out⟩⟩, by simp [intOf]; omega⟩
      · obtain rfl : k = 80 := by omega
        go_wp2
        go_ret
        exact ⟨rfl, HFW.out.1.trans' HA.out.fr (fun i hi h => by
          have h1 := HFW.out.2.1
          rcases h with ⟨e, _⟩ | e
          · omega
          · omega)⟩
    · have hii : ¬ (k : Int) < (l.length : Int) := by omega
      go_wp2
      go_ret
      exact ⟨rfl, HFW.out.1.trans' HA.out.fr (fun i hi h => by
          have h1 := HFW.out.2.1
          rcases h with ⟨e, _⟩ | e
          · omega
          · omega)⟩
end Go.Proofs.YtblnmghbcgbgdaaDoor
