/-
  PenParts: the walk.
-/
import Derived.Test.YtndjgcpaiplakaaPenPartsC
import Derived.Test.YtndjgcpaiplakaaShutI
import Derived.Deep.DeepCutAuto
import Derived.Deep.RegionHeld3
namespace Go.Proofs.Ytndjgcpaiplakaa
open Go.RowKit
set_option linter.unusedVariables false

theorem int_info : (Try.prog.info? 3).map (fun i => (i.zero, i.size, i.bytes)) = some (some (.int .i64 0), 1, 8) := by kernel_rfl
theorem one_sl (w : World) (n : Int) (t : TypeId) : Sl (w.alloc (.cells #[.int .i64 n] t)) (some ⟨w.heap.size, 0, none⟩) 1 1 [.int .i64 n] := by
  refine ⟨rfl, fun _ => ⟨_, _, rfl, by simp, fun j u hj => ?_⟩⟩
  match j, hj with
  | 0, hj => simp at hj; subst hj; simp
theorem int_one (k : Int) : ∀ u ∈ [Value.int .i64 k], u.oneCell' = true := by
  intro u hu
  simp at hu
  subst hu
  rfl
theorem goodN_snoc {l : List Int} {u : Int} (h : goodN l) (h0 : 0 ≤ u) (h1 : u < 112) (h2 : u ≠ 38) (h3 : u ≠ 48) : goodN (l ++ [u]) := by
  intro x hx
  rcases List.mem_append.1 hx with hx | hx
  · exact h x hx
  · simp at hx
    subst hx
    exact ⟨h0, h1, h2, h3⟩
theorem tmod_bd (x k : Int) (hk : 0 < k) : -k < x.tmod k ∧ x.tmod k < k := ⟨Int.lt_tmod_of_pos x hk, Int.tmod_lt_of_pos x hk⟩
theorem row_of_own {w : World} {base : Nat} {e : TypeId} {n c : Nat} {A : Option Addr} {xs : List Value} (h : w.ownsRow base e 1 (.slice A n c) n xs) (hn : 0 < n) : ∃ g, A = some ⟨g, 0, none⟩ ∧ Row w g xs := by
  obtain ⟨h1, h2⟩ := h
  rcases h2 with ⟨_, h0⟩ | ⟨g, cap, cur, hv, _, hg, hnc, _, hcur, ht⟩
  · omega
  · have hA : A = some ⟨g, 0, none⟩ := by injection hv
    have hlt : g < w.heap.size := by
      rcases Nat.lt_or_ge g w.heap.size with hlt | hge
      · exact hlt
      · rw [Array.getElem?_eq_none hge] at hg; cases hg
    refine ⟨g, hA, hlt, fun j v hj => ?_, fun j hj => ?_⟩
    · have hjl := (List.getElem?_eq_some_iff.1 hj).1
      rw [h1] at hjl
      rw [cell_of_row w g j cur e (0, 0) hg]
      rw [← ht, List.getElem?_take, if_pos hjl] at hj
      simpa using hj
    · exact frozen_of_row w g j cur e hg
theorem ownsRow_fr0 {w w' : World} {base : Nat} {e : TypeId} {size n : Nat} {v : Value} {xs : List Value} (h : w.ownsRow base e size v n xs) (hf : Fr noneOf w w') : w'.ownsRow base e size v n xs := by
  rcases h with ⟨h1, ⟨h2, h3⟩ | ⟨g, cap, cur, rfl, hb, hh, h4, h5⟩⟩
  · exact ⟨h1, .inl ⟨h2, h3⟩⟩
  · refine ⟨h1, .inr ⟨g, cap, cur, rfl, hb, ?_, h4, h5⟩⟩
    have hg : g < w.heap.size := by
      by_cases hg : g < w.heap.size
      · exact hg
      · rw [Array.getElem?_eq_none (by omega)] at hh; cases hh
    exact (hf.block g hg (fun x => x)).trans hh

set_option maxHeartbeats 8000000 in
set_option maxRecDepth 100000 in
theorem penParts_any (r f b a : Int) (A : Option Addr) (c : Nat) (l : List Int) (at' : Int) (w : World) (hl : NumsAt w A l) (hlc : l.length ≤ c) (hcm : c ≤ 9223372036854775807) (hz : A = none → c = 0) (ha0 : -9223372036854775808 ≤ at') (ha1 : at' ≤ 9223372036854775807) :
    Calls Try.prog 4 #[.agg #[.int .i32 r, .int .u8 f, .int .u8 b, .int .u8 a], .slice A l.length c, .int .i64 at'] w fun e w' => e = .returned (.bool true) ∧ Fr noneOf w w' := by
  obtain ⟨i0, hi0, hz0, hz1, hz2⟩ := info_parts int_info
  have hlen : l.length ≤ 9223372036854775807 := by omega
  have HL := Lib.hid hl
  have HA0 := Lib.hid ha0
  have HA1 := Lib.hid ha1
  clear hl hlc hcm hz ha0 ha1
  go_enter Try.func4, Try.ntmps4
  go_wp2_with (go_at_call 6; refine (awake_any _).mono ?_; rintro e w1 ⟨rfl, hf1⟩)
  have hpen := (Blk.new w 23 #[.int .i32 r, .int .u8 f, .int .u8 b, .int .u8 a]).fr0 hf1
  have hfw := ((Fr.refl noneOf w).alloc (.cells #[.int .i32 r, .int .u8 f, .int .u8 b, .int .u8 a] 23)).trans hf1
  have HPEN := Lib.hid hpen
  have HFW := Lib.hid hfw
  clear hpen hfw hf1
  go_loopw [8, 9] (fun v8 v9 wr => ∃ (k : Nat) (ms : List Int), k ≤ l.length ∧ v9 = .int .i64 k ∧ goodN ms ∧ ms.length ≤ 8 ∧ wr.ownsRow w1.heap.size 3 1 v8 ms.length (numsV ms) ∧ Fr noneOf w1 wr) (fun _ v9 _ => l.length - (intOf v9).toNat)
  case atStart => exact ⟨0, [], by omega, rfl, fun _ h => by simp at h, by simp, World.ownsRow_nil _ _ _ _, Fr.refl _ _⟩
  case round =>
    obtain ⟨k, ms, hk, rfl, hgood, h8, hown, hfr⟩ := hrel
    have HG := Lib.hid hgood
    have HO := Lib.hid hown
    have HFR := Lib.hid hfr
    obtain ⟨A', c', rfl, hc', hz', _⟩ := row_form hown
    have HZ := Lib.hid hz'
    clear hz'
    have hsz := hfr.size
    have hszw := HFW.out.size
    clear hgood hown hfr
    obtain ⟨GO, hGO⟩ : ∃ GO : Bool, (GO = true ∧ k < l.length ∧ ms.length < 8) ∨ (GO = false ∧ ¬ (k < l.length ∧ ms.length < 8)) := by
      by_cases h : k < l.length ∧ ms.length < 8
      · exact ⟨true, .inl ⟨rfl, h⟩⟩
      · exact ⟨false, .inr ⟨rfl, h⟩⟩
    rcases hGO with ⟨-, hlt, hm8⟩ | ⟨-, hno⟩
    · obtain ⟨gl, ol, rfl, hgl, hcl⟩ := HL.out.at_ (by omega)
      obtain ⟨x, hx⟩ : ∃ x, l[k]? = some x := ⟨_, List.getElem?_eq_getElem hlt⟩
      have cx : wr.cell? ⟨gl, ol + k, none⟩ = some (.int .i64 x) := ((HFR.out.cell (p := ⟨gl, ol + k, none⟩) (by simp; omega) (fun x => x)).trans (HFW.out.cell (p := ⟨gl, ol + k, none⟩) hgl (fun x => x))).trans (hcl k x hx)
      have hxb := HL.out.1 x (List.mem_of_getElem? hx)
      obtain ⟨t1, t2⟩ := tmod_bd x 112 (by omega)
      obtain ⟨u, hu, u0, u1⟩ : ∃ u, x.tmod 112 % 112 = u ∧ 0 ≤ u ∧ u < 112 := ⟨_, rfl, by omega, by omega⟩
      have hkI : (k : Int) < (l.length : Int) := by omega
      have hk0 : (0 : Int) ≤ (k : Int) := by omega
      have hlI : (l.length : Int) ≤ 9223372036854775807 := by omega
      clear hcl hx hxb
      by_cases h38 : u = 38
      · subst h38
        go_wp2
        go_roundw
        case rel => exact ⟨k + 1, ms, by omega, by go_num, HG.out, h8, HO.out, HFR.out⟩
        case measure => simp [intOf]; omega
      · have b38 : (u != 38) = true := by simpa using h38
        have b38' : (u == 38) = false := by simpa using h38
        by_cases h48 : u = 48
        · subst h48
          go_wp2
          go_roundw
          case rel => exact ⟨k + 1, ms, by omega, by go_num, HG.out, h8, HO.out, HFR.out⟩
          case measure => simp [intOf]; omega
        · have b48 : (u != 48) = true := by simpa using h48
          have b48' : (u == 48) = false := by simpa using h48
          have HO1 := Lib.hid (ownsRow_fr0 HO.out ((Fr.refl noneOf wr).alloc (.cells #[.int .i64 u] 3)))
          have H38 := Lib.hid h38
          have H48 := Lib.hid h48
          clear h38 h48
          go_wp2_with (at_builtin; refine wpList_append_sl rfl (.tmp 37) (.tmp 39) 30 rfl w1.heap.size 3 i0 (.int .i64 0) 1 8 Try.underlying30 hi0 hz0 hz1 hz2 rfl (by decide) _ ms.length (numsV ms) rfl HO1.out (some ⟨wr.heap.size, 0, none⟩) 1 1 [.int .i64 u] rfl (one_sl _ _ _) (int_one u) (fun h => nomatch h) (by unfold maxLen; omega) (by omega) (by simp; omega) ?_; intro v' w3 hown3 hg3 hat3)
          go_roundw
          case rel =>
            refine ⟨k + 1, ms ++ [u], by omega, by go_num, goodN_snoc HG.out u0 u1 H38.out H48.out, by simp; omega, ?_, ?_⟩
            · rw [List.length_append, show numsV (ms ++ [u]) = numsV ms ++ [.int .i64 u] from by simp [numsV]]; exact hown3
            · exact Fr.grown (HFR.out.alloc _) hg3 (fun g hg => (HO1.out.lt g hg).1)
          case measure => simp [intOf]; omega
    · have hgo : (¬ k < l.length) ∨ (k < l.length ∧ ¬ ms.length < 8) := by omega
      have HGO := Lib.hid hgo
      clear hno hgo
      have hlI : (l.length : Int) ≤ 9223372036854775807 := by omega
      go_upto_region 4 with fail
      go_cut [21] (fun s21 wx => s21 = .bool false ∧ wx = wr)
      case first =>
        rcases HGO.out with h | ⟨h, h'⟩
        all_goals
          go_wp2
          go_meet
          exact ⟨by first | rfl | (simp; omega), rfl⟩
      case rest =>
      obtain ⟨rfl, rfl⟩ := hcut
      have hkl : (k : Int) ≤ 9223372036854775807 := by omega
      clear hlI
      by_cases hm2 : ms.length < 2
      · go_wp2
        go_ret
        exact ⟨rfl, HFW.out.trans HFR.out⟩
      · obtain ⟨g, rfl, hrow⟩ := row_of_own HO.out (by omega)
        have HK : Hid (Kp w w.heap.size g r f b a ms wc) := Lib.hid ⟨HPEN.out.fr0 HFR.out, hrow, HFW.out.trans HFR.out⟩
        have hn1 : ((ms.length : Int) - 1 = 0) = False := by simp; omega
        obtain ⟨t1, t2⟩ := tmod_bd at' ((ms.length : Int) - 1) (by omega)
        obtain ⟨k1, hk1, hk11, hk12⟩ : ∃ k1 : Nat, 1 + (at'.tmod ((ms.length : Int) - 1) + (ms.length : Int) - 1) % ((ms.length : Int) - 1) = (k1 : Int) ∧ 1 ≤ k1 ∧ k1 < ms.length := by
          have e0 := Int.emod_nonneg (at'.tmod ((ms.length : Int) - 1) + (ms.length : Int) - 1) (show (ms.length : Int) - 1 ≠ 0 by omega)
          have e1 := Int.emod_lt_of_pos (at'.tmod ((ms.length : Int) - 1) + (ms.length : Int) - 1) (show (0 : Int) < (ms.length : Int) - 1 by omega)
          exact ⟨(1 + (at'.tmod ((ms.length : Int) - 1) + (ms.length : Int) - 1) % ((ms.length : Int) - 1)).toNat, by omega, by omega, by omega⟩
        obtain ⟨n2, hn2⟩ : ∃ n2, n2 = ms.length - k1 := ⟨_, rfl⟩
        have hgm : goodN ms := HG.out
        have hgp : goodN (ms.take k1) := fun u hu => hgm u (List.mem_of_mem_take hu)
        have hgs : goodN (ms.drop k1) := fun u hu => hgm u (List.mem_of_mem_drop hu)
        obtain ⟨y0, y1, y2, y3, y4, y5, y6, y7, hyl, hyb, hyc⟩ := act_piece (W0 := w) (B := w.heap.size) (g := g) (r := r) (f := f) (b := b) (a := a) h8 hgm 0 ms.length (by omega)
        obtain ⟨p0, p1, p2, p3, p4, p5, p6, p7, hpl, hpb, hpc⟩ := act_piece (W0 := w) (B := w.heap.size) (g := g) (r := r) (f := f) (b := b) (a := a) h8 hgm 0 k1 (by omega)
        obtain ⟨q0, q1, q2, q3, q4, q5, q6, q7, hql, hqb, hqc⟩ := act_piece (W0 := w) (B := w.heap.size) (g := g) (r := r) (f := f) (b := b) (a := a) h8 hgm k1 (ms.length - k1) (by omega)
        obtain ⟨⟨r1, f1, b1, a1⟩, hz1'⟩ : ∃ z, ms.foldl oneP ⟨r, f, b, a⟩ = z := ⟨_, rfl⟩
        obtain ⟨⟨r2, f2, b2, a2⟩, hz2'⟩ : ∃ z, (ms.take k1).foldl oneP ⟨r, f, b, a⟩ = z := ⟨_, rfl⟩
        have hz3' : (ms.drop k1).foldl oneP ⟨r2, f2, b2, a2⟩ = ⟨r1, f1, b1, a1⟩ := by rw [← hz2', ← List.foldl_append, List.take_append_drop, hz1']
        rw [List.drop_zero, List.take_of_length_le (Nat.le_refl _)] at hyl
        rw [List.drop_zero] at hpl
        rw [show (ms.drop k1).take (ms.length - k1) = ms.drop k1 from List.take_of_length_le (by simp)] at hql
        rw [← hn2] at hql
        have hP1 := fun w => apply_piece r f b a ms hgm ms.length (by omega) h8 y0 y1 y2 y3 y4 y5 y6 y7 hyl hyb r1 f1 b1 a1 hz1' w
        have hP2 := fun w => apply_piece r f b a (ms.take k1) hgp k1 (by omega) (by omega) p0 p1 p2 p3 p4 p5 p6 p7 hpl hpb r2 f2 b2 a2 hz2' w
        have hP3 := fun w => apply_piece r2 f2 b2 a2 (ms.drop k1) hgs n2 (by omega) (by omega) q0 q1 q2 q3 q4 q5 q6 q7 hql hqb r1 f1 b1 a1 hz3' w
        have hqc' : ∀ (cap : Nat) (w' : World), Kp w w.heap.size g r f b a ms w' → Calls Try.prog 8 #[.slice (some ⟨g, k1, none⟩) (ms.length - k1) cap] w' fun e w'' => e = .returned (.agg #[.int .i64 4, .int .i32 109, .int .u8 0, .int .u8 0, .int .i64 (n2 : Int), .int .i64 q0, .int .i64 q1, .int .i64 q2, .int .i64 q3, .int .i64 q4, .int .i64 q5, .int .i64 q6, .int .i64 q7]) ∧ Fr noneOf w' w'' := by rw [hn2]; exact hqc
        have HP1 := Lib.hid hP1
        have HP2 := Lib.hid hP2
        have HP3 := Lib.hid hP3
        have HC1 := Lib.hid hyc
        have HC2 := Lib.hid hpc
        have HC3 := Lib.hid hqc'
        have hcne : ¬ c' = k1 := by omega
        have hk1I : (k1 : Int) ≤ (ms.length : Int) := by omega
        have hk1C : (k1 : Int) ≤ (c' : Int) := by omega
        have hk10 : (0 : Int) ≤ (k1 : Int) := by omega
        have HN2 := Lib.hid hn2
        clear hrow hgm hgp hgs hP1 hP2 hP3 hyc hpc hqc hqc' hyl hyb hpl hpb hql hqb hz1' hz2' hz3' hn2
        go_upto_region 12 with fail
        clear hk1 t1 t2 hn1
        (go_region_held3 (fun w' => w'.cell? ⟨w.heap.size, 0, none⟩ = some (.int .i32 r) ∧ w'.cell? ⟨w.heap.size, 1, none⟩ = some (.int .u8 f) ∧ w'.cell? ⟨w.heap.size, 2, none⟩ = some (.int .u8 b) ∧ w'.cell? ⟨w.heap.size, 3, none⟩ = some (.int .u8 a) ∧ Kp w w.heap.size g r f b a ms w')
          (first
            | (exact ⟨hkp.pen.cell 0, hkp.pen.cell 1, hkp.pen.cell 2, hkp.pen.cell 3, hkp⟩)
            | (have q := HK.out; exact ⟨q.pen.cell 0, q.pen.cell 1, q.pen.cell 2, q.pen.cell 3, q⟩)
            | (have q := HK.out.frm ((Fr.refl _ _).drew); exact ⟨q.pen.cell 0, q.pen.cell 1, q.pen.cell 2, q.pen.cell 3, q⟩)
            | go_keep)
          (first
            | (go_at_call 8; go_split_ands; (with_reducible refine (HC1.out _ _ (by assumption)).mono ?_); rintro e wk ⟨rfl, hf⟩; have hkp := Kp.frm (by assumption) hf; clear hf)
            | (go_at_call 8; go_split_ands; (with_reducible refine (HC2.out _ _ (by assumption)).mono ?_); rintro e wk ⟨rfl, hf⟩; have hkp := Kp.frm (by assumption) hf; clear hf)
            | (go_at_call 8; go_split_ands; (with_reducible refine (HC3.out _ _ (by assumption)).mono ?_); rintro e wk ⟨rfl, hf⟩; have hkp := Kp.frm (by assumption) hf; clear hf)
            | (go_at_call 7; go_split_ands; (with_reducible refine (HP1.out _).mono ?_); rintro e wk ⟨rfl, hf⟩; have hkp := Kp.frm (by assumption) hf; clear hf)
            | (go_at_call 7; go_split_ands; (with_reducible refine (HP2.out _).mono ?_); rintro e wk ⟨rfl, hf⟩; have hkp := Kp.frm (by assumption) hf; clear hf)
            | (go_at_call 7; go_split_ands; (with_reducible refine (HP3.out _).mono ?_); rintro e wk ⟨rfl, hf⟩; have hkp := Kp.frm (by assumption) hf; clear hf)))
        all_goals
          go_wp2
          go_ret
          exact ⟨rfl, hkp.fr⟩
end Go.Proofs.Ytndjgcpaiplakaa
