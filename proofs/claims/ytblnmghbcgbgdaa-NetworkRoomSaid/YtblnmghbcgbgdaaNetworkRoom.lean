/-
  NetworkRoom: the walk.
-/
import Derived.Test.YtblnmghbcgbgdaaNetCopy
import Derived.Test.YtblnmghbcgbgdaaOpPacket
import Derived.Test.YtblnmghbcgbgdaaLaw23
import Derived.Deep.DeepCutAuto
import Derived.Deep.CutBlock
namespace Go.Proofs.Ytblnmghbcgbgdaa
open Go.RowKit
set_option linter.unusedVariables false
set_option linter.unusedSimpArgs false

/-- The steps, as a walk reads them. -/
def Ops23 (w : World) (A : Option Addr) (l : List (St23 × Bool)) : Prop := 0 < l.length → ∃ g o, A = some ⟨g, o, none⟩ ∧ g < w.heap.size ∧ ∀ i y, l[i]? = some y → ∀ j u, (y.1.cells y.2)[j]? = some u → w.cell? ⟨g, o + i * 11 + j, none⟩ = some u
/-- What stands at the head of a round. -/
structure At23 (base : Nat) (most : Int) (b : Nat) (w0 : World) (k : Nat) (sent gone : Value) (w : World) : Prop where
  st : ∃ s g n : Nat, sent = .int .i64 s ∧ gone = .int .i64 g ∧ s = g + n ∧ s ≤ k ∧ g ≤ k ∧ Net base most k n b w
  fr : Fr (fun j => base ≤ j) w0 w
theorem At23.fr0 {base : Nat} {most : Int} {b : Nat} {w0 : World} {k : Nat} {s g : Value} {w w' : World} (h : At23 base most b w0 k s g w) (hf : Fr noneOf w w') : At23 base most b w0 k s g w' := by
  obtain ⟨⟨x, y, n, h1, h2, h3, h4, h5, h6⟩, h7⟩ := h
  exact ⟨⟨x, y, n, h1, h2, h3, h4, h5, h6.fr hf⟩, h7.trans' hf (fun _ _ x => x.elim)⟩
theorem room_any (r : Int) : ∃ m : Nat, min (max r 1) 12 = (m : Int) ∧ m ≤ 12 := ⟨(min (max r 1) 12).toNat, by omega, by omega⟩
set_option maxRecDepth 100000 in
set_option maxHeartbeats 16000000 in
theorem networkRoom_any (r : Int) (A : Option Addr) (c : Nat) (l : List (St23 × Bool)) (w : World) (hr1 : -9223372036854775808 ≤ r) (hr2 : r ≤ 9223372036854775807) (hO : Ops23 w A l) (hlc : l.length ≤ c) (hc : c ≤ 9223372036854775807) (hz : ∀ y ∈ l, y.1.s.size ≤ 9223372036854775807) :
    Calls Try.prog 4 #[.int .i64 r, .slice A l.length c] w fun e w' => e = .returned (.bool true) ∧ Fr noneOf w w' := by
  obtain ⟨m, hm, hm12⟩ := room_any r
  have HO := Lib.hid hO
  have HZ := Lib.hid hz
  have HM := Lib.hid hm
  have HC := Lib.hid hc
  clear hO hz hm hr1 hr2 hc
  go_enter Try.func4, Try.ntmps4
  go_upto_region 5 with (first
    | (go_at_call 6; (with_reducible refine (awake_any _).mono ?_); rintro e w1 ⟨rfl, hf1⟩)
    | (go_at_call 7; (with_reducible refine (net_new r _).mono ?_); rintro e w2 ⟨rfl, hN, hf2⟩; have HN2 := Lib.hid hN; clear hN))
  obtain ⟨base, hbase⟩ : ∃ base, base = w1.heap.size := ⟨_, rfl⟩
  obtain ⟨b, hb⟩ : ∃ b, b = w1.heap.size + 1 := ⟨_, rfl⟩
  rw [← hb, ← hbase, HM.out] at HN2
  rw [← hb]
  have HF2 : Hid (Fr noneOf w w2 ∧ w.heap.size ≤ base ∧ base ≤ w2.heap.size) := Lib.hid ⟨hf1.trans hf2, by rw [hbase]; exact hf1.size, by rw [hbase]; exact hf2.size⟩
  clear hb hbase hf1 hf2
  go_cut [7] (fun s7 wx => s7 = .int .i64 m ∧ wx = w2)
  case first =>
    go_wp2
    all_goals
      go_meet
      have hm := HM.out
      exact ⟨by congr 1; omega, rfl⟩
  case rest =>
  obtain ⟨rfl, rfl⟩ := hcut
  have h0 : At23 base (m : Int) b wc 0 (.int .i64 0) (.int .i64 0) wc := ⟨⟨0, 0, 0, rfl, rfl, rfl, by omega, by omega, [], 0, rfl, HN2.out, by simp, fun x y => by simp [cnt], by omega, by omega, by omega, HF2.out.2.2⟩, Fr.refl _ _⟩
  have HAT := Lib.hid h0
  clear h0
  go_wp2
  go_loopw [8, 9, 10] (fun sent gone i wr => ∃ k : Nat, k ≤ l.length ∧ k ≤ 80 ∧ i = .int .i64 k ∧ At23 base (m : Int) b wc k sent gone wr) (fun _ _ i _ => l.length - (intOf i).toNat)
  case atStart => exact ⟨0, by omega, by omega, rfl, HAT.out⟩
  case round =>
    obtain ⟨k, hk, hk80, rfl, hat⟩ := hrel
    have HA := Lib.hid hat
    clear hat HAT
    obtain ⟨sN, gN, nN, rfl, rfl, hsum, hsk, hgk, hNet⟩ := HA.out.st
    have HS := Lib.hid (And.intro hsum (And.intro hsk (And.intro hgk hNet)))
    clear hsum hsk hgk hNet
    by_cases hlt : k < l.length
    · by_cases hlt8 : k < 80
      · obtain ⟨y, hy⟩ : ∃ y, l[k]? = some y := ⟨l[k], List.getElem?_eq_getElem hlt⟩
        have hyZ := HZ.out y (List.mem_of_getElem? hy)
        obtain ⟨g, o, rfl, hg, hcell⟩ := HO.out (by omega)
        have hFw : Fr (fun j => base ≤ j) w wr := (HF2.out.1.of0 _).trans HA.out.fr
        have hng : ¬ base ≤ g := by have := HF2.out.2.1; omega
        have hcr : ∀ j u, (y.1.cells y.2)[j]? = some u → wr.cell? ⟨g, o + k * 11 + j, none⟩ = some u := fun j u hu => (hFw.cell (p := ⟨g, o + k * 11 + j, none⟩) hg hng).trans (hcell k y hy j u hu)
        obtain ⟨⟨kd, fr, tt, i, at', b0, b1, b2, b3, s⟩, far⟩ := y
        obtain ⟨x', y', S, hx3, hy3, hS20, hxx, hyy, _, hPK⟩ := packet_any ⟨kd, fr, tt, i, at', b0, b1, b2, b3, s⟩ hyZ
        obtain ⟨κ, hκ, hκ15⟩ := and_le kd 15 (by omega)
        have hκ' : bits .and .i64 kd 15 = (κ : Int) := hκ
        obtain ⟨q, hq, hq15⟩ := and_le i 15 (by omega)
        have hq' : bits .and .i64 i 15 = (q : Int) := hq
        have HPK := Lib.hid hPK
        have HAT := Lib.hid (fun w => at_any ⟨kd, fr, tt, i, at', b0, b1, b2, b3, s⟩ q hq' w)
        dsimp only [St23.cells] at HPK HAT hcr
        have c0 : wr.cell? ⟨g, o + k * 11, none⟩ = some (.int .i64 kd) := hcr 0 _ rfl
        have c1 : wr.cell? ⟨g, o + k * 11 + 1, none⟩ = some (.int .i64 fr) := hcr 1 _ rfl
        have c2 : wr.cell? ⟨g, o + k * 11 + 2, none⟩ = some (.int .i64 tt) := hcr 2 _ rfl
        have c3 : wr.cell? ⟨g, o + k * 11 + 3, none⟩ = some (.int .i64 i) := hcr 3 _ rfl
        have c4 : wr.cell? ⟨g, o + k * 11 + 4, none⟩ = some (.int .i64 at') := hcr 4 _ rfl
        have c5 : wr.cell? ⟨g, o + k * 11 + 5, none⟩ = some (.int .u8 b0) := hcr 5 _ rfl
        have c6 : wr.cell? ⟨g, o + k * 11 + 6, none⟩ = some (.int .u8 b1) := hcr 6 _ rfl
        have c7 : wr.cell? ⟨g, o + k * 11 + 7, none⟩ = some (.int .u8 b2) := hcr 7 _ rfl
        have c8 : wr.cell? ⟨g, o + k * 11 + 8, none⟩ = some (.int .u8 b3) := hcr 8 _ rfl
        have c9 : wr.cell? ⟨g, o + k * 11 + 9, none⟩ = some (.string s) := hcr 9 _ rfl
        have c10 : wr.cell? ⟨g, o + k * 11 + 10, none⟩ = some (.bool far) := hcr 10 _ rfl
        have hlI : (k : Int) < (l.length : Int) := by omega
        have h8I : (k : Int) < 80 := by omega
        have hk0 : (0 : Int) ≤ (k : Int) := by omega
        obtain ⟨W, hW⟩ : ∃ W, W = wr.alloc (Obj.cells #[.int .i64 kd, .int .i64 fr, .int .i64 tt, .int .i64 i, .int .i64 at', .int .u8 b0, .int .u8 b1, .int .u8 b2, .int .u8 b3, .string s, .bool false] 37) := ⟨_, rfl⟩
        have HB := Lib.hid (Blk.new wr 37 #[.int .i64 kd, .int .i64 fr, .int .i64 tt, .int .i64 i, .int .i64 at', .int .u8 b0, .int .u8 b1, .int .u8 b2, .int .u8 b3, .string s, .bool false])
        have HFA : Hid (Fr noneOf wr W) := Lib.hid (by rw [hW]; exact (Fr.refl _ _).alloc _)
        obtain ⟨P, hP⟩ : ∃ P, P = wr.heap.size := ⟨_, rfl⟩
        rw [← hW, ← hP] at HB
        have hPb : Hid (base ≤ P) := Lib.hid (by rw [hP]; have := HA.out.fr.size; have := HF2.out.2.2; omega)
        clear hcr hcell hFw hng hPK hκ hq hy
        go_upto_block 2 with fail
        rw [← hW, ← hP]
        clear hW hP c0 c1 c2 c3 c4 c5 c6 c7 c8 c9 c10
        have HNW : Hid (∀ w', Fr noneOf W w' → Net base (m : Int) k nN b w') := Lib.hid (fun w' hf => HS.out.2.2.2.fr (HFA.out.trans hf))
        have HPK : Hid (∀ w, Calls Try.prog 14 #[.agg #[.int .i64 kd, .int .i64 fr, .int .i64 tt, .int .i64 i, .int .i64 at', .int .u8 b0, .int .u8 b1, .int .u8 b2, .int .u8 b3, .string s, .bool false]] w fun e w' => e = .returned (.agg #[.int .i64 x', .int .i64 y', .string S]) ∧ Fr noneOf w w') := HPK
        have HSN : Hid (∀ w', Fr noneOf W w' → Calls Try.prog 8 #[.pointer (some ⟨b, 0, none⟩), .agg #[.int .i64 x', .int .i64 y', .string S]] w' (Tells (Sent base (m : Int) k nN b w'))) := Lib.hid (fun w' hf => send_step (x' : Int) (y' : Int) S (HNW.out w' hf) (by omega) (by omega) (by omega) (by omega) (by omega))
        have HIN : Hid (∀ w', Fr noneOf W w' → Calls Try.prog 15 #[.pointer (some ⟨b, 0, none⟩), .agg #[.int .i64 x', .int .i64 y', .string S]] w' (Tells (Sent base (m : Int) k nN b w'))) := Lib.hid (fun w' hf => inject_step (x' : Int) (y' : Int) S (HNW.out w' hf) (by omega) (by omega) (by omega) (by omega) (by omega))
        have HTK : Hid (∀ w', Fr noneOf W w' → _) := Lib.hid (fun w' hf => take_step q (HNW.out w' hf) (by omega))
        have HDR : Hid (∀ w', Fr noneOf W w' → _) := Lib.hid (fun w' hf => drop_step q (HNW.out w' hf) (by omega))
        have HCO : Hid (∀ w', Fr noneOf W w' → _) := Lib.hid (fun w' hf => copy_step q (HNW.out w' hf) (by omega) (by omega))
        have w0 : W.cell? ⟨P, 0, none⟩ = some (.int .i64 kd) := HB.out.cell 0
        have w1 : W.cell? ⟨P, 1, none⟩ = some (.int .i64 fr) := HB.out.cell 1
        have w2 : W.cell? ⟨P, 2, none⟩ = some (.int .i64 tt) := HB.out.cell 2
        have w3 : W.cell? ⟨P, 3, none⟩ = some (.int .i64 i) := HB.out.cell 3
        have w4 : W.cell? ⟨P, 4, none⟩ = some (.int .i64 at') := HB.out.cell 4
        have w5 : W.cell? ⟨P, 5, none⟩ = some (.int .u8 b0) := HB.out.cell 5
        have w6 : W.cell? ⟨P, 6, none⟩ = some (.int .u8 b1) := HB.out.cell 6
        have w7 : W.cell? ⟨P, 7, none⟩ = some (.int .u8 b2) := HB.out.cell 7
        have w8 : W.cell? ⟨P, 8, none⟩ = some (.int .u8 b3) := HB.out.cell 8
        have w9 : W.cell? ⟨P, 9, none⟩ = some (.string s) := HB.out.cell 9
        have w10 : W.cell? ⟨P, 10, none⟩ = some (.bool false) := HB.out.cell 10
        go_cut [9, 12] (fun s9 s12 wx => ∃ (ok : Bool) (g1 n1 : Nat), s9 = .int .i64 g1 ∧ s12 = .bool ok ∧ sN + one ok = g1 + n1 ∧ g1 ≤ k + 1 ∧ Net base (m : Int) (k + 1) n1 b wx ∧ Fr (fun j => base ≤ j) W wx)
        case first =>
          go_upto_if 45 with fail
          go_cut [45] (fun s45 wx => s45 = .bool (decide (κ < 5)) ∧ wx = W)
          case first =>
            by_cases h5 : κ < 5
            · have e5 : decide (κ < 5) = true := by simpa using h5
              have hcase : κ = 0 ∨ κ = 1 ∨ κ = 2 ∨ κ = 3 ∨ κ = 4 := by omega
              clear hκ'
              rcases hcase with rfl | rfl | rfl | rfl | rfl
              all_goals
                go_wp2
                go_meet
                exact ⟨rfl, rfl⟩
            · have e5 : decide (κ < 5) = false := by simpa using h5
              have n0 : ((κ : Int) == 0) = false := by simp; omega
              have n1 : ((κ : Int) == 1) = false := by simp; omega
              have n2 : ((κ : Int) == 2) = false := by simp; omega
              have n3 : ((κ : Int) == 3) = false := by simp; omega
              have n4 : ((κ : Int) == 4) = false := by simp; omega
              go_wp2
              go_meet
              exact ⟨by rw [e5], rfl⟩
          case rest =>
          obtain ⟨rfl, hwc⟩ := hcut
          subst hwc
          have hg80 : gN ≤ 80 := by have := HS.out.2.2.1; omega
          by_cases h5 : κ < 5
          · have e5 : decide (κ < 5) = true := by simpa using h5
            go_wp2_with (first
              | (go_at_call 14; (with_reducible refine (HPK.out _).mono ?_); rintro e w1 ⟨rfl, hf1⟩; have HF1 := Lib.hid hf1; clear hf1)
              | (go_at_call 8; (with_reducible refine (HSN.out _ HF1.out).mono ?_); rintro e w2 ⟨ok, rfl, hR⟩; have HR := Lib.hid hR; clear hR))
            go_meet
            have hs1 := HS.out.1
            have hs2 := HS.out.2.1
            have hs3 := HS.out.2.2.1
            exact ⟨ok, gN, nN + one ok, rfl, rfl, by omega, by omega, HR.out.1, (HF1.out.of0 _).trans HR.out.2⟩
          · have e5 : decide (κ < 5) = false := by simpa using h5
            have hcase : κ = 5 ∨ κ = 6 ∨ κ = 7 ∨ κ = 8 ∨ κ = 9 ∨ κ = 10 ∨ 11 ≤ κ := by omega
            clear hκ' h5
            rcases hcase with rfl | rfl | rfl | rfl | rfl | rfl | hbig
            · go_wp2_with (first
                | (go_at_call 14; (with_reducible refine (HPK.out _).mono ?_); rintro e w1 ⟨rfl, hf1⟩; have HF1 := Lib.hid hf1; clear hf1)
                | (go_at_call 15; (with_reducible refine (HIN.out _ HF1.out).mono ?_); rintro e w2 ⟨ok, rfl, hR⟩; have HR := Lib.hid hR; clear hR))
              go_meet
              have hs1 := HS.out.1
              have hs2 := HS.out.2.1
              have hs3 := HS.out.2.2.1
              exact ⟨ok, gN, nN + one ok, rfl, rfl, by omega, by omega, HR.out.1, (HF1.out.of0 _).trans HR.out.2⟩
            · go_wp2_with (first
                | (go_at_call 16; (with_reducible refine (HAT.out _).mono ?_); rintro e w1 ⟨rfl, hf1⟩; have HF1 := Lib.hid hf1; clear hf1)
                | (go_at_call 9; (refine (HTK.out _ HF1.out).mono ?_); rintro e w2 ⟨tx, ty, ts, is, rfl, hle, hN2, hf2⟩; have HR := Lib.hid (And.intro hle (And.intro hN2 hf2)); clear hle hN2 hf2; cases is))
              all_goals
                go_meet
                have hs1 := HS.out.1
                have hs2 := HS.out.2.1
                have hs3 := HS.out.2.2.1
                have hs4 := HR.out.1
              · exact ⟨false, gN, nN, rfl, rfl, by simp [one]; omega, by omega, (HR.out.2.1.fr ((Fr.refl _ _).alloc _)).more (by omega), ((HF1.out.of0 _).trans HR.out.2.2).trans' ((Fr.refl noneOf _).alloc _) (fun _ _ x => x.elim)⟩
              · exact ⟨false, gN + 1, nN - 1, by go_num, rfl, by simp [one] at *; omega, by omega, (HR.out.2.1.fr ((Fr.refl _ _).alloc _)).more (by omega), ((HF1.out.of0 _).trans HR.out.2.2).trans' ((Fr.refl noneOf _).alloc _) (fun _ _ x => x.elim)⟩
            · go_wp2_with (first
                | (go_at_call 16; (with_reducible refine (HAT.out _).mono ?_); rintro e w1 ⟨rfl, hf1⟩; have HF1 := Lib.hid hf1; clear hf1)
                | (go_at_call 9; (refine (HTK.out _ HF1.out).mono ?_); rintro e w2 ⟨tx, ty, ts, is, rfl, hle, hN2, hf2⟩; have HR := Lib.hid (And.intro hle (And.intro hN2 hf2)); clear hle hN2 hf2; cases is))
              all_goals
                go_meet
                have hs1 := HS.out.1
                have hs2 := HS.out.2.1
                have hs3 := HS.out.2.2.1
                have hs4 := HR.out.1
              · exact ⟨false, gN, nN, rfl, rfl, by simp [one]; omega, by omega, (HR.out.2.1.fr ((Fr.refl _ _).alloc _)).more (by omega), ((HF1.out.of0 _).trans HR.out.2.2).trans' ((Fr.refl noneOf _).alloc _) (fun _ _ x => x.elim)⟩
              · exact ⟨false, gN + 1, nN - 1, by go_num, rfl, by simp [one] at *; omega, by omega, (HR.out.2.1.fr ((Fr.refl _ _).alloc _)).more (by omega), ((HF1.out.of0 _).trans HR.out.2.2).trans' ((Fr.refl noneOf _).alloc _) (fun _ _ x => x.elim)⟩
            · go_wp2_with (first
                | (go_at_call 16; (with_reducible refine (HAT.out _).mono ?_); rintro e w1 ⟨rfl, hf1⟩; have HF1 := Lib.hid hf1; clear hf1)
                | (go_at_call 12; (refine (HDR.out _ HF1.out).mono ?_); rintro e w2 ⟨is, rfl, hle, hN2, hf2⟩; have HR := Lib.hid (And.intro hle (And.intro hN2 hf2)); clear hle hN2 hf2; cases is))
              all_goals
                go_meet
                have hs1 := HS.out.1
                have hs2 := HS.out.2.1
                have hs3 := HS.out.2.2.1
                have hs4 := HR.out.1
              · exact ⟨false, gN, nN, rfl, rfl, by simp [one]; omega, by omega, HR.out.2.1.more (by omega), (HF1.out.of0 _).trans HR.out.2.2⟩
              · exact ⟨false, gN + 1, nN - 1, by go_num, rfl, by simp [one] at *; omega, by omega, HR.out.2.1.more (by omega), (HF1.out.of0 _).trans HR.out.2.2⟩
            · go_wp2_with (first
                | (go_at_call 16; (with_reducible refine (HAT.out _).mono ?_); rintro e w1 ⟨rfl, hf1⟩; have HF1 := Lib.hid hf1; clear hf1)
                | (go_at_call 13; (refine (HCO.out _ HF1.out).mono ?_); rintro e w2 ⟨ok, rfl, hR⟩; have HR := Lib.hid hR; clear hR))
              go_meet
              have hs1 := HS.out.1
              have hs2 := HS.out.2.1
              have hs3 := HS.out.2.2.1
              exact ⟨ok, gN, nN + one ok, rfl, rfl, by omega, by omega, HR.out.1, (HF1.out.of0 _).trans HR.out.2⟩
            · go_wp2_with (first
                | (go_at_call 16; (with_reducible refine (HAT.out _).mono ?_); rintro e w1 ⟨rfl, hf1⟩; have HF1 := Lib.hid hf1; clear hf1)
                | (go_at_call 13; (refine (HCO.out _ HF1.out).mono ?_); rintro e w2 ⟨ok, rfl, hR⟩; have HR := Lib.hid hR; clear hR))
              go_meet
              have hs1 := HS.out.1
              have hs2 := HS.out.2.1
              have hs3 := HS.out.2.2.1
              exact ⟨ok, gN, nN + one ok, rfl, rfl, by omega, by omega, HR.out.1, (HF1.out.of0 _).trans HR.out.2⟩
            · have n5 : ((κ : Int) == 5) = false := by simp; omega
              have n6 : ((κ : Int) == 6) = false := by simp; omega
              have n7 : ((κ : Int) == 7) = false := by simp; omega
              have n8 : ((κ : Int) == 8) = false := by simp; omega
              have n9 : ((κ : Int) == 9) = false := by simp; omega
              have n10 : ((κ : Int) == 10) = false := by simp; omega
              go_wp2
              go_meet
              have hs1 := HS.out.1
              have hs2 := HS.out.2.1
              have hs3 := HS.out.2.2.1
              exact ⟨false, gN, nN, rfl, rfl, by simp [one]; omega, by omega, (HNW.out _ (Fr.refl _ _)).more (by omega), Fr.refl _ _⟩
        case rest =>
        obtain ⟨ok, g1, n1, rfl, rfl, hq1, hq2, hq3, hq4⟩ := hcut
        have hsN : sN ≤ 80 := by have := HS.out.2.1; omega
        have HQ := Lib.hid (And.intro hq1 (And.intro hq2 (And.intro hq3 hq4)))
        clear hq1 hq2 hq3 hq4 w0 w1 w2 w3 w4 w5 w6 w7 w8 w9 w10 hκ' hq'
        obtain ⟨wq, hwq⟩ : ∃ wq, wq = wc := ⟨_, rfl⟩
        rw [← hwq] at HQ ⊢
        clear hwq
        obtain ⟨s1, hs1⟩ : ∃ s1, s1 = sN + one ok := ⟨_, rfl⟩
        have HS1 := Lib.hid hs1
        have hs1b : s1 ≤ 81 := by rw [hs1]; unfold one; split <;> omega
        clear hs1
        go_upto_if 89 with fail
        go_cut [8] (fun s8 wx => s8 = .int .i64 s1 ∧ wx = wq)
        case first =>
          cases ok
          · go_wp2
            go_meet
            exact ⟨by rw [HS1.out]; rfl, rfl⟩
          · go_wp2
            go_meet
            exact ⟨by rw [HS1.out]; simp [one], rfl⟩
        case rest =>
        obtain ⟨rfl, hwx⟩ := hcut
        rw [hwx]
        clear hwx
        obtain ⟨L, lost, hL1, hL2, hL3, hL4, hL5, hL6, hL7, hL8⟩ := HQ.out.2.2.1
        have HL := Lib.hid (And.intro hL1 (And.intro hL2 (And.intro hL3 hL4)))
        have hLb : L.length ≤ 81 := by omega
        clear hL1 hL2 hL3 hL4 hL5 hL6 hL7 hL8
        go_wp2
        go_loopw [15, 16] (fun all f wx => ∃ a : Nat, a ≤ 4 ∧ f = .int .i64 a ∧ all = .int .i64 (psum L (4 * a)) ∧ Fr noneOf wq wx) (fun _ f _ => 4 - (intOf f).toNat)
        case atStart => exact ⟨0, by omega, rfl, rfl, Fr.refl _ _⟩
        case round =>
          obtain ⟨a, ha, rfl, hall, hfx⟩ := hrel
          have HFX := Lib.hid hfx
          clear hfx
          by_cases ha4 : a < 4
          · subst hall
            have haI : (a : Int) < 4 := by omega
            go_wp2
            go_loopw [15, 17] (fun all f wx => ∃ e : Nat, e ≤ 4 ∧ f = .int .i64 e ∧ all = .int .i64 (psum L (4 * a + e)) ∧ Fr noneOf wq wx) (fun _ f _ => 4 - (intOf f).toNat)
            case atStart => exact ⟨0, by omega, rfl, rfl, HFX.out⟩
            case round =>
              obtain ⟨e, he, rfl, hall, hfx⟩ := hrel
              have HFY := Lib.hid hfx
              clear hfx
              by_cases he4 : e < 4
              · obtain ⟨ps, hps⟩ : ∃ ps, ps = psum L (4 * a + e) := ⟨_, rfl⟩
                have hpb := psum_le L HL.out.2.2.1 (4 * a + e)
                rw [← hps] at hall hpb
                obtain ⟨hp0, hp1⟩ := hpb
                have HPS := Lib.hid hps
                clear hps
                subst hall
                obtain ⟨cc, hcc⟩ : ∃ cc, cc = cnt L (a : Int) (e : Int) := ⟨_, rfl⟩
                have hc0 : 0 ≤ cc := by rw [hcc]; exact cnt_pos _ _ _
                have hc1 : cc ≤ (m : Int) := by rw [hcc]; exact HL.out.2.2.2 _ _
                have hsm : a = e → cc = 0 := fun h => by rw [hcc, h]; exact cnt_same L HL.out.2.2.1 _
                have HBT := Lib.hid (net_between (HL.out.2.1.fr HFY.out) (a : Int) (e : Int) (by unfold I64; omega) (by unfold I64; omega))
                rw [← hcc] at HBT
                have HCC := Lib.hid hcc
                have heI : (e : Int) < 4 := by omega
                have hn0 : ¬ cc < 0 := by omega
                have hn1 : ¬ (m : Int) < cc := by omega
                clear hcc
                by_cases hae : a = e
                · have hz := hsm hae
                  subst hae
                  clear hsm
                  subst hz
                  go_wp2_with (go_at_call 11; (with_reducible refine HBT.out.mono ?_); rintro ev w3 ⟨rfl, hf3⟩; have HF3 := Lib.hid hf3; clear hf3)
                  go_roundw
                  case rel => exact ⟨a + 1, by omega, by go_num, by rw [show 4 * a + (a + 1) = 4 * a + a + 1 by omega, psum, ← HPS.out, show (4 * a + a) / 4 = a by omega, show (4 * a + a) % 4 = a by omega, ← HCC.out]; go_num, HFY.out.trans HF3.out⟩
                  case measure => simp [intOf]; omega
                · have hne : ((a : Int) == (e : Int)) = false := by simp; omega
                  clear hsm hae
                  go_wp2_with (go_at_call 11; (with_reducible refine HBT.out.mono ?_); rintro ev w3 ⟨rfl, hf3⟩; have HF3 := Lib.hid hf3; clear hf3)
                  go_roundw
                  case rel => exact ⟨e + 1, by omega, by go_num, by rw [show 4 * a + (e + 1) = 4 * a + e + 1 by omega, psum, ← HPS.out, show (4 * a + e) / 4 = a by omega, show (4 * a + e) % 4 = e by omega, ← HCC.out], HFY.out.trans HF3.out⟩
                  case measure => simp [intOf]; omega
              · obtain rfl : e = 4 := by omega
                subst hall
                go_wp2
                go_roundw
                case rel => exact ⟨a + 1, by omega, by go_num, by rw [show 4 * (a + 1) = 4 * a + 4 by omega], HFY.out⟩
                case measure => simp [intOf]; omega
          · obtain rfl : a = 4 := by omega
            rw [show 4 * 4 = 16 from rfl, psum_all L HL.out.2.2.1] at hall
            subst hall
            have HLN := Lib.hid (net_len (HL.out.2.1.fr HFX.out))
            have hd : ((s1 : Int) - (g1 : Int) != (L.length : Int)) = false := by
              have h1 := HS1.out
              have h2 := HQ.out.1
              have h3 := HL.out.1
              simp
              omega
            have hg1b : g1 ≤ 81 := by have := HQ.out.2.1; omega
            go_wp2_with (go_at_call 10; (with_reducible refine HLN.out.mono ?_); rintro ev w3 ⟨rfl, rfl⟩)
            go_roundw
            case rel =>
              have h1 := HS1.out
              have h2 := HQ.out.1
              have h4 := HS.out.1
              have h5 := HS.out.2.1
              have ho : one ok ≤ 1 := by unfold one; split <;> omega
              exact ⟨k + 1, by omega, by omega, by go_num, ⟨s1, g1, n1, rfl, rfl, by omega, by omega, HQ.out.2.1, HQ.out.2.2.1.fr HFX.out⟩, ((HA.out.fr.trans' HFA.out (fun _ _ x => x.elim)).trans HQ.out.2.2.2).trans' HFX.out (fun _ _ x => x.elim)⟩
            case measure => simp [intOf]; omega
      · obtain rfl : k = 80 := by omega
        go_wp2
        go_ret
        exact ⟨rfl, HF2.out.1.trans' HA.out.fr (fun i hi h => by have h : base ≤ i := h; have := HF2.out.2.1; omega)⟩
    · have hii : ¬ (k : Int) < (l.length : Int) := by omega
      go_wp2
      go_ret
      exact ⟨rfl, HF2.out.1.trans' HA.out.fr (fun i hi h => by have h : base ≤ i := h; have := HF2.out.2.1; omega)⟩
end Go.Proofs.Ytblnmghbcgbgdaa
