/-
  Contract of pen.Apply where it obeys.
-/
import Derived.Test.YtndjgcpaiplakaaPenApply
import Derived.Deep.AppendLies
import Derived.Deep.RegionLaw
namespace Go.Proofs.Ytndjgcpaiplakaa
open Go.RowKit
set_option linter.unusedVariables false

theorem Fr.cellN {b : Nat} {a w : World} (h : Fr (justOf b) a w) (g off : Nat) (hg : g < a.heap.size) (hne : b ≠ g) : w.cell? ⟨g, off, none⟩ = a.cell? ⟨g, off, none⟩ := Fr.cell (p := ⟨g, off, none⟩) h hg (fun x => hne (Eq.symm x))
def lenAt (w : World) (g : Nat) : Nat := match w.cell? ⟨g, 0, none⟩ with
  | some (.slice _ l _) => l
  | _ => 0
/-- What every round of Apply's loop finds. -/
structure Rnd (B : Nat) (w : World) (wr : World) (R : List Int) (o : Nat) (c : Pn) (A : Option Addr) (cap : Nat) : Prop where
  pen : Blk wr B 23 (penC c)
  row : Blk wr (B + 1 + 1 + 1) 30 #[.slice A R.length cap]
  le : R.length ≤ cap
  cap8 : cap ≤ 8
  at_ : R ≠ [] → A = some ⟨B + 1, o, none⟩
  cell : ∀ i u, R[i]? = some u → wr.cell? ⟨B + 1, o + i, none⟩ = some (.int .i64 u)
  bd : ∀ u ∈ R, -1000000 ≤ u ∧ u ≤ 1000000
  res : Blk wr (B + 1 + 1) 23 (penC ⟨0, 0, 0, 0⟩)
  fr : Fr noneOf w wr

theorem Rnd.take {B : Nat} {w wr wr' : World} {R : List Int} {o : Nat} {c : Pn} {A A' : Option Addr} {cap k ln : Nat} (hB : B = w.heap.size) (h : Rnd B w wr R o c A cap) (hln : ln = R.length) (hk : k ≤ ln)
    (hb : Blk wr' (B + 1 + 1 + 1) 30 #[.slice A' (ln - k) (cap - k)]) (ha : k < cap → A' = some ⟨B + 1, o + k, none⟩) (hf : Fr (justOf (B + 1 + 1 + 1)) wr wr') : Rnd B w wr' (R.drop k) (o + k) c A' (cap - k) := by
  subst hln
  have hl := h.row.lt
  have hle := h.le
  have n1 : ∀ x, x < B + 1 + 1 + 1 → ¬ justOf (B + 1 + 1 + 1) x := fun x hx hh => by have : x = B + 1 + 1 + 1 := hh; omega
  refine ⟨hf.blk h.pen (n1 _ (by omega)), by rw [List.length_drop]; exact hb, by rw [List.length_drop]; omega, by have := h.cap8; omega, fun hne => ha ?_, fun i u hu => ?_, fun u hu => h.bd u (List.mem_of_mem_drop hu), hf.blk h.res (n1 _ (by omega)), h.fr.trans' hf (fun x hx hh => by have : x = B + 1 + 1 + 1 := hh; omega)⟩
  · have : 0 < (R.drop k).length := List.length_pos_iff.2 hne
    rw [List.length_drop] at this
    omega
  · rw [List.getElem?_drop] at hu
    have := h.cell (k + i) u hu
    rw [show o + k + i = o + (k + i) by omega]
    exact (Fr.cell (p := ⟨B + 1, o + (k + i), none⟩) hf (by simp; omega) (n1 _ (by simp))).trans this
theorem Rnd.paint {B : Nat} {w wr wr' : World} {R : List Int} {o : Nat} {c c' : Pn} {A : Option Addr} {cap : Nat} (hB : B = w.heap.size) (h : Rnd B w wr R o c A cap)
    (hb : Blk wr' B 23 (penC c')) (hf : Fr (justOf B) wr wr') : Rnd B w wr' R o c' A cap := by
  have hl := h.row.lt
  have n1 : ∀ x, B < x → ¬ justOf B x := fun x hx hh => by have : x = B := hh; omega
  refine ⟨hb, hf.blk h.row (n1 _ (by omega)), h.le, h.cap8, h.at_, fun i u hu => ?_, h.bd, hf.blk h.res (n1 _ (by omega)), h.fr.trans' hf (fun x hx hh => by have : x = B := hh; omega)⟩
  exact (Fr.cell (p := ⟨B + 1, o + i, none⟩) hf (by simp; omega) (n1 _ (by simp))).trans (h.cell i u hu)
theorem Rnd.fr0 {B : Nat} {w wr wr' : World} {R : List Int} {o : Nat} {c : Pn} {A : Option Addr} {cap : Nat} (h : Rnd B w wr R o c A cap) (hf : Fr noneOf wr wr') : Rnd B w wr' R o c A cap := by
  have hl := h.row.lt
  exact ⟨h.pen.fr0 hf, h.row.fr0 hf, h.le, h.cap8, h.at_, fun i u hu => (Fr.cell (p := ⟨B + 1, o + i, none⟩) hf (by simp; omega) (fun x => x)).trans (h.cell i u hu), h.bd, h.res.fr0 hf, h.fr.trans hf⟩
theorem lenAt_is {B : Nat} {w wr : World} {R : List Int} {o : Nat} {c : Pn} {A : Option Addr} {cap : Nat} (h : Rnd B w wr R o c A cap) : lenAt wr (B + 1 + 1 + 1) = R.length := by
  have : wr.cell? ⟨B + 1 + 1 + 1, 0, none⟩ = some (.slice A R.length cap) := h.row.cell 0
  unfold lenAt
  rw [this]
theorem pen_set {w : World} {g : Nat} {c : Pn} (h : Blk w g 23 (penC c)) (r f b a : Int) : Blk ((((w.setCell ⟨g, 0, none⟩ (.int .i32 r)).setCell ⟨g, 1, none⟩ (.int .u8 f)).setCell ⟨g, 2, none⟩ (.int .u8 b)).setCell ⟨g, 3, none⟩ (.int .u8 a)) g 23 (penC ⟨r, f, b, a⟩) :=
  (((h.set_ 0 _).set_ 1 _).set_ 2 _).set_ 3 _
theorem pen_fr (w : World) (g : Nat) (r f b a : Value) : Fr (justOf g) w ((((w.setCell ⟨g, 0, none⟩ r).setCell ⟨g, 1, none⟩ f).setCell ⟨g, 2, none⟩ b).setCell ⟨g, 3, none⟩ a) :=
  Fr.put g 3 _ (Fr.put g 2 _ (Fr.put g 1 _ (Fr.put g 0 _ (Fr.refl _ _))))

theorem nums_at (B : Nat) (w wr : World) (k r p m n x0 x1 x2 x3 x4 x5 x6 x7 : Int) (h : Blk wr B 26 #[.int .i64 k, .int .i32 r, .int .u8 p, .int .u8 m, .int .i64 n, .int .i64 x0, .int .i64 x1, .int .i64 x2, .int .i64 x3, .int .i64 x4, .int .i64 x5, .int .i64 x6, .int .i64 x7]) (N i : Nat) (u : Int) (hu : ([x0, x1, x2, x3, x4, x5, x6, x7].take N)[i]? = some u) : wr.cell? ⟨B, 5 + i, none⟩ = some (.int .i64 u) := by
  have hi : i < 8 := by
    have := (List.getElem?_eq_some_iff.1 hu).1
    simp at this
    omega
  rw [List.getElem?_take] at hu
  split at hu
  · have hc := h.cell (5 + i)
    have : i = 0 ∨ i = 1 ∨ i = 2 ∨ i = 3 ∨ i = 4 ∨ i = 5 ∨ i = 6 ∨ i = 7 := by omega
    rcases this with rfl | rfl | rfl | rfl | rfl | rfl | rfl | rfl
    all_goals
      simp at hu
      subst hu
      exact hc
  · cases hu

set_option maxRecDepth 100000 in
set_option maxHeartbeats 4000000 in
theorem apply_any (c : Pn) (x0 x1 x2 x3 x4 x5 x6 x7 : Int) (n : Nat) (w : World) (hn : n ≤ 8) (hb : ∀ u ∈ [x0, x1, x2, x3, x4, x5, x6, x7], -1000000 ≤ u ∧ u ≤ 1000000) (hn0 : 0 < n) :
    Calls Try.prog 7 #[penV c, actV 4 109 0 0 n x0 x1 x2 x3 x4 x5 x6 x7] w fun e w' => ∃ z, e = .returned (penV z) ∧ Run ([x0, x1, x2, x3, x4, x5, x6, x7].take n) c z ∧ Fr noneOf w w' := by
  obtain ⟨cr, cf, cb, ca⟩ := c
  obtain ⟨L, hL⟩ : ∃ L, L = [x0, x1, x2, x3, x4, x5, x6, x7].take n := ⟨_, rfl⟩
  rw [← hL]
  have hLn : L.length = n := by rw [hL]; simp; omega
  have HL := Lib.hid hL
  have HLn := Lib.hid hLn
  have HB := Lib.hid hb
  clear hL hb hLn
  unfold penV actV
  have n0 : (0 : Int) ≤ (n : Int) := by omega
  have n8 : (n : Int) ≤ 8 := by omega
  have n9 : ¬ (n : Int) = 0 := by omega
  have nz : ((n : Int) == 0) = false := beq_eq_false_iff_ne.2 n9
  go_enter Try.func7, Try.ntmps7
  go_wp2_with fail
  obtain ⟨B, hB⟩ : ∃ B, B = w.heap.size := ⟨_, rfl⟩
  rw [← hB]
  have hst : Rnd B w ((((w.alloc (.cells #[.int .i32 cr, .int .u8 cf, .int .u8 cb, .int .u8 ca] 23)).alloc (.cells #[.int .i64 4, .int .i32 109, .int .u8 0, .int .u8 0, .int .i64 n, .int .i64 x0, .int .i64 x1, .int .i64 x2, .int .i64 x3, .int .i64 x4, .int .i64 x5, .int .i64 x6, .int .i64 x7] 26)).alloc (.cells #[.int .i32 0, .int .u8 0, .int .u8 0, .int .u8 0] 23)).alloc (.cells #[.slice (some ⟨B + 1, 5, none⟩) n 8] 30)) L 5 ⟨cr, cf, cb, ca⟩ (some ⟨B + 1, 5, none⟩) 8 := by
    have k0 := (Blk.new w 23 (penC ⟨cr, cf, cb, ca⟩))
    have k1 := (Blk.new (w.alloc (.cells (penC ⟨cr, cf, cb, ca⟩) 23)) 26 #[.int .i64 4, .int .i32 109, .int .u8 0, .int .u8 0, .int .i64 n, .int .i64 x0, .int .i64 x1, .int .i64 x2, .int .i64 x3, .int .i64 x4, .int .i64 x5, .int .i64 x6, .int .i64 x7])
    rw [World.size_alloc, ← hB] at k1
    rw [← hB] at k0
    refine ⟨((k0.alloc _).alloc _).alloc _, ?_, by rw [HLn.out]; exact hn, by omega, fun _ => rfl, fun i u hu => ?_, fun u hu => HB.out u ?_, ?_, (((Fr.refl _ _).alloc _).alloc _).alloc _ |>.alloc _⟩
    · rw [HLn.out, hB]
      have := Blk.new (((w.alloc (.cells #[.int .i32 cr, .int .u8 cf, .int .u8 cb, .int .u8 ca] 23)).alloc (.cells #[.int .i64 4, .int .i32 109, .int .u8 0, .int .u8 0, .int .i64 n, .int .i64 x0, .int .i64 x1, .int .i64 x2, .int .i64 x3, .int .i64 x4, .int .i64 x5, .int .i64 x6, .int .i64 x7] 26)).alloc (.cells #[.int .i32 0, .int .u8 0, .int .u8 0, .int .u8 0] 23)) 30 #[.slice (some ⟨w.heap.size + 1, 5, none⟩) n 8]
      simp only [World.size_alloc] at this
      exact this
    · rw [HL.out] at hu
      exact nums_at (B + 1) w _ _ _ _ _ _ _ _ _ _ _ _ _ _ ((k1.alloc _).alloc _) n i u hu
    · rw [HL.out] at hu
      exact List.mem_of_mem_take hu
    · have := (Blk.new ((w.alloc (.cells #[.int .i32 cr, .int .u8 cf, .int .u8 cb, .int .u8 ca] 23)).alloc (.cells #[.int .i64 4, .int .i32 109, .int .u8 0, .int .u8 0, .int .i64 n, .int .i64 x0, .int .i64 x1, .int .i64 x2, .int .i64 x3, .int .i64 x4, .int .i64 x5, .int .i64 x6, .int .i64 x7] 26)) 23 (penC ⟨0, 0, 0, 0⟩))
      simp only [World.size_alloc, ← hB] at this
      exact this.alloc _
  have HST := Lib.hid hst
  have hBw := hB
  have HBW := Lib.hid hB
  clear hst hB hBw
  go_loopw [] (fun wr => ∃ (R : List Int) (o : Nat) (c : Pn) (A : Option Addr) (cap : Nat), Rnd B w wr R o c A cap ∧ ∀ z, Run R c z → Run L ⟨cr, cf, cb, ca⟩ z) (fun wr => lenAt wr (B + 1 + 1 + 1))
  case atStart => exact ⟨L, 5, _, _, _, HST.out, fun z h => h⟩
  case round =>
    obtain ⟨R, o, c, A, cap, hr, hrun⟩ := hrel
    obtain ⟨cr', cf', cb', ca'⟩ := c
    have hrl := hr.row.lt
    have p0 : wr.cell? ⟨B, 0, none⟩ = some (.int .i32 cr') := hr.pen.cell 0
    have p1 : wr.cell? ⟨B, 1, none⟩ = some (.int .u8 cf') := hr.pen.cell 1
    have p2 : wr.cell? ⟨B, 2, none⟩ = some (.int .u8 cb') := hr.pen.cell 2
    have p3 : wr.cell? ⟨B, 3, none⟩ = some (.int .u8 ca') := hr.pen.cell 3
    have r0 : wr.cell? ⟨B + 1 + 1 + 1, 0, none⟩ = some (.slice A R.length cap) := hr.row.cell 0
    have HR := Lib.hid hr
    have HRUN := Lib.hid hrun
    clear hr hrun
    cases R with
    | nil =>
      have e0 : wr.cell? ⟨B + 1 + 1, 0, none⟩ = some (.int .i32 0) := HR.out.res.cell 0
      have e1 : wr.cell? ⟨B + 1 + 1, 1, none⟩ = some (.int .u8 0) := HR.out.res.cell 1
      have e2 : wr.cell? ⟨B + 1 + 1, 2, none⟩ = some (.int .u8 0) := HR.out.res.cell 2
      have e3 : wr.cell? ⟨B + 1 + 1, 3, none⟩ = some (.int .u8 0) := HR.out.res.cell 3
      have f0 := HR.out.res.frozen 0
      have f1 := HR.out.res.frozen 1
      have f2 := HR.out.res.frozen 2
      have f3 := HR.out.res.frozen 3
      go_wp2
      have E := pen_set HR.out.res cr' cf' cb' ca'
      have E0 := E.cell 0
      have E1 := E.cell 1
      have E2 := E.cell 2
      have E3 := E.cell 3
      have hBB := HBW.out
      refine bodyPost_ret (v := .agg #[.int .i32 cr', .int .u8 cf', .int .u8 cb', .int .u8 ca']) (by simp [results, Try.results7, go_sem, E0, E1, E2, E3, penC]) rfl ⟨⟨cr', cf', cb', ca'⟩, rfl, HRUN.out _ (Run.done _), HR.out.fr.trans' (pen_fr _ _ _ _ _ _) (fun x hx hh => by have : x = B + 1 + 1 := hh; omega)⟩
    | cons y R1 =>
      have hA := HR.out.at_ (by simp)
      subst hA
      have y0 : wr.cell? ⟨B + 1, o, none⟩ = some (.int .i64 y) := HR.out.cell 0 y rfl
      have ylo := (HR.out.bd y (by simp)).1
      have yhi := (HR.out.bd y (by simp)).2
      have hcl := HR.out.le
      have hc8 := HR.out.cap8
      obtain ⟨ln, hln⟩ : ∃ ln, ln = (y :: R1).length := ⟨_, rfl⟩
      have hrow := HR.out.row
      rw [← hln] at r0 hcl hrow
      have l1 : 1 ≤ ln := by rw [hln]; simp
      have HLN := Lib.hid hln
      have HROW := Lib.hid hrow
      clear hln hrow
      by_cases hy : y ≠ 38 ∧ y ≠ 48
      · obtain ⟨hy1, hy2⟩ := hy
        have q1 : (y != 38) = true := by simp [hy1]
        have q2 : (y != 48) = true := by simp [hy2]
        have q3 : (y == 38) = false := by simp [hy1]
        have q4 : (y == 48) = false := by simp [hy2]
        obtain ⟨zr, zf, zb, za, hzz⟩ : ∃ zr zf zb za, oneP ⟨cr', cf', cb', ca'⟩ y = ⟨zr, zf, zb, za⟩ := ⟨_, _, _, _, rfl⟩
        have ht : ∀ w, Calls Try.prog 10 #[penV ⟨cr', cf', cb', ca'⟩, .int .i64 y] w fun e w' => e = .returned (.agg #[.int .i32 zr, .int .u8 zf, .int .u8 zb, .int .u8 za]) ∧ Fr noneOf w w' := fun w => by
          have := one_any ⟨cr', cf', cb', ca'⟩ y w ylo yhi
          rw [hzz] at this
          exact this
        have HT := Lib.hid ht
        have HZZ := Lib.hid hzz
        clear ht hzz
        go_wp2
        go_region_with (first
          | (go_at_call 10; refine (HT.out _).mono ?_; rintro e w2 ⟨rfl, hf2⟩; have rn2 := rn1.fr0 hf2; have s0 : w2.cell? ⟨B, 0, none⟩ = some (.int .i32 cr') := rn2.pen.cell 0; have s1 : w2.cell? ⟨B, 1, none⟩ = some (.int .u8 cf') := rn2.pen.cell 1; have s2 : w2.cell? ⟨B, 2, none⟩ = some (.int .u8 cb') := rn2.pen.cell 2; have s3 : w2.cell? ⟨B, 3, none⟩ = some (.int .u8 ca') := rn2.pen.cell 3; have f0 := rn2.pen.frozen 0; have f1 := rn2.pen.frozen 1; have f2 := rn2.pen.frozen 2; have f3 := rn2.pen.frozen 3)
          | (go_at_call 11; refine (takes_any (B + 1 + 1 + 1) (B + 1) o ln cap 1 _ (Blk.fr0 HROW.out (by repeat (first | exact Fr.refl _ _ | apply Fr.drew))) (by omega) (by omega) (by omega)).mono ?_; rintro e w1 ⟨rfl, A', hb1, hA1, hf1⟩; have rn1 := (HR.out.fr0 (by repeat (first | exact Fr.refl _ _ | apply Fr.drew))).take HBW.out (k := 1) HLN.out (by omega) hb1 hA1 hf1; have y1 : w1.cell? ⟨B + 1, o, none⟩ = some (.int .i64 y) := (Fr.cellN hf1 _ _ (by first | omega | (simp; omega)) (by omega)).trans y0; have t0 : w1.cell? ⟨B, 0, none⟩ = some (.int .i32 cr') := rn1.pen.cell 0; have t1 : w1.cell? ⟨B, 1, none⟩ = some (.int .u8 cf') := rn1.pen.cell 1; have t2 : w1.cell? ⟨B, 2, none⟩ = some (.int .u8 cb') := rn1.pen.cell 2; have t3 : w1.cell? ⟨B, 3, none⟩ = some (.int .u8 ca') := rn1.pen.cell 3))
        all_goals
          have rn3 := rn2.paint HBW.out (pen_set rn2.pen zr zf zb za) (pen_fr w2 B _ _ _ _)
          have HRN := Lib.hid rn3
          clear rn3 rn2 rn1 s0 s1 s2 s3 f0 f1 f2 f3 hb1 hf1 hf2
          go_wp2
          go_roundw
          case rel =>
            first
            | exact ⟨_, _, _, _, _, HRN.out, fun z h => HRUN.out z (Run.one hy1 hy2 (by rw [HZZ.out]; exact h))⟩
            | ((repeat apply Exists.intro); exact ⟨⟨_, _, _, _, _, HRN.out, fun z h => HRUN.out z (Run.one hy1 hy2 (by rw [HZZ.out]; exact h))⟩, rfl⟩)
          case measure =>
            rw [lenAt_is HR.out, lenAt_is HRN.out, List.length_drop, ← HLN.out]
            omega
      · have hy' : y = 38 ∨ y = 48 := by omega
        clear hy
        cases R1 with
        | nil =>
          have l2 : ln ≤ 1 := by rw [HLN.out]; simp
          rcases hy' with rfl | rfl
          all_goals
            go_wp2_with (go_at_call 11; refine (takes_any (B + 1 + 1 + 1) (B + 1) o ln cap ln _ (Blk.fr0 HROW.out (by repeat (first | exact Fr.refl _ _ | apply Fr.drew))) (by omega) (by omega) (by omega)).mono ?_; rintro e w1 ⟨rfl, A', hb1, hA1, hf1⟩; have rn1 := (HR.out.fr0 (by repeat (first | exact Fr.refl _ _ | apply Fr.drew))).take HBW.out (k := ln) HLN.out (by omega) hb1 hA1 hf1)
            all_goals
              have HRN := Lib.hid rn1
              go_roundw
              case rel =>
                first
                | exact ⟨_, _, _, _, _, HRN.out, fun z h => by rw [HLN.out, List.drop_length] at h; cases h; exact HRUN.out _ (Run.stop (by first | exact .inl rfl | exact .inr rfl) (by simp) (by simp))⟩
                | ((repeat apply Exists.intro); exact ⟨⟨_, _, _, _, _, HRN.out, fun z h => by rw [HLN.out, List.drop_length] at h; cases h; exact HRUN.out _ (Run.stop (by first | exact .inl rfl | exact .inr rfl) (by simp) (by simp))⟩, rfl⟩)
              case measure =>
                rw [lenAt_is HR.out, lenAt_is HRN.out, List.length_drop, ← HLN.out]
                omega
        | cons x1 R2 =>
          have z1 : wr.cell? ⟨B + 1, o + 1, none⟩ = some (.int .i64 x1) := HR.out.cell 1 x1 rfl
          have l2 : 2 ≤ ln := by rw [HLN.out]; simp
          by_cases h5 : x1 = 5
          · subst h5
            cases R2 with
            | nil =>
              have l3 : ln ≤ 2 := by rw [HLN.out]; simp
              rcases hy' with rfl | rfl
              all_goals
                go_wp2_with (go_at_call 11; refine (takes_any (B + 1 + 1 + 1) (B + 1) o ln cap ln _ (Blk.fr0 HROW.out (by repeat (first | exact Fr.refl _ _ | apply Fr.drew))) (by omega) (by omega) (by omega)).mono ?_; rintro e w1 ⟨rfl, A', hb1, hA1, hf1⟩; have rn1 := (HR.out.fr0 (by repeat (first | exact Fr.refl _ _ | apply Fr.drew))).take HBW.out (k := ln) HLN.out (by omega) hb1 hA1 hf1)
                all_goals
                  have HRN := Lib.hid rn1
                  go_roundw
                  case rel =>
                    first
                    | exact ⟨_, _, _, _, _, HRN.out, fun z h => by rw [HLN.out, List.drop_length] at h; cases h; exact HRUN.out _ (Run.stop (by first | exact .inl rfl | exact .inr rfl) (by simp) (by simp))⟩
                    | ((repeat apply Exists.intro); exact ⟨⟨_, _, _, _, _, HRN.out, fun z h => by rw [HLN.out, List.drop_length] at h; cases h; exact HRUN.out _ (Run.stop (by first | exact .inl rfl | exact .inr rfl) (by simp) (by simp))⟩, rfl⟩)
                  case measure =>
                    rw [lenAt_is HR.out, lenAt_is HRN.out, List.length_drop, ← HLN.out]
                    omega
            | cons x2 R3 =>
              have z2 : wr.cell? ⟨B + 1, o + 2, none⟩ = some (.int .i64 x2) := HR.out.cell 2 x2 rfl
              have l3 : 3 ≤ ln := by rw [HLN.out]; simp
              have hx : (0 ≤ x2 ∧ x2 ≤ 255) ∨ x2 < 0 ∨ 255 < x2 := by omega
              rcases hx with ⟨hx0, hx1⟩ | hx | hx
              · rcases hy' with rfl | rfl
                all_goals
                  go_wp2_with (first
                    | (go_at_call 12; refine (set_any B ⟨cr', cf', cb', ca'⟩ _ (colP x2) _ (Blk.fr0 rn1.pen (by repeat (first | exact Fr.refl _ _ | apply Fr.drew)))).mono ?_; rintro e w2 ⟨rfl, hb2, hf2⟩; have rn2 := (rn1.fr0 (by repeat (first | exact Fr.refl _ _ | apply Fr.drew))).paint HBW.out hb2 hf2)
                    | (go_at_call 13; refine (colour_any _ _).mono ?_; rintro e w3 ⟨rfl, rfl⟩)
                    | (go_at_call 11; refine (takes_any (B + 1 + 1 + 1) (B + 1) o ln cap 3 _ (Blk.fr0 HROW.out (by repeat (first | exact Fr.refl _ _ | apply Fr.drew))) (by omega) (by omega) (by omega)).mono ?_; rintro e w1 ⟨rfl, A', hb1, hA1, hf1⟩; have rn1 := (HR.out.fr0 (by repeat (first | exact Fr.refl _ _ | apply Fr.drew))).take HBW.out (k := 3) HLN.out (by omega) hb1 hA1 hf1; have v2 : w1.cell? ⟨B + 1, o + 2, none⟩ = some (.int .i64 x2) := (Fr.cellN hf1 _ _ (by first | omega | (simp; omega)) (by omega)).trans z2))
                  all_goals
                    have HRN := Lib.hid rn2
                    go_roundw
                    case rel =>
                      first
                      | exact ⟨_, _, _, _, _, HRN.out, fun z h => HRUN.out z (Run.five (by first | exact .inl rfl | exact .inr rfl) hx0 hx1 h)⟩
                      | ((repeat apply Exists.intro); exact ⟨⟨_, _, _, _, _, HRN.out, fun z h => HRUN.out z (Run.five (by first | exact .inl rfl | exact .inr rfl) hx0 hx1 h)⟩, rfl⟩)
                    case measure =>
                      rw [lenAt_is HR.out, lenAt_is HRN.out, List.length_drop, ← HLN.out]
                      omega
              · rcases hy' with rfl | rfl
                all_goals
                  go_wp2_with (go_at_call 11; refine (takes_any (B + 1 + 1 + 1) (B + 1) o ln cap 3 _ (Blk.fr0 HROW.out (by repeat (first | exact Fr.refl _ _ | apply Fr.drew))) (by omega) (by omega) (by omega)).mono ?_; rintro e w1 ⟨rfl, A', hb1, hA1, hf1⟩; have rn1 := (HR.out.fr0 (by repeat (first | exact Fr.refl _ _ | apply Fr.drew))).take HBW.out (k := 3) HLN.out (by omega) hb1 hA1 hf1; have v2 : w1.cell? ⟨B + 1, o + 2, none⟩ = some (.int .i64 x2) := (Fr.cellN hf1 _ _ (by first | omega | (simp; omega)) (by omega)).trans z2)
                  all_goals
                    have HRN := Lib.hid rn1
                    go_roundw
                    case rel =>
                      first
                      | exact ⟨_, _, _, _, _, HRN.out, fun z h => HRUN.out z (Run.none5 (by first | exact .inl rfl | exact .inr rfl) (.inl hx) h)⟩
                      | ((repeat apply Exists.intro); exact ⟨⟨_, _, _, _, _, HRN.out, fun z h => HRUN.out z (Run.none5 (by first | exact .inl rfl | exact .inr rfl) (.inl hx) h)⟩, rfl⟩)
                    case measure =>
                      rw [lenAt_is HR.out, lenAt_is HRN.out, List.length_drop, ← HLN.out]
                      omega
              · rcases hy' with rfl | rfl
                all_goals
                  go_wp2_with (go_at_call 11; refine (takes_any (B + 1 + 1 + 1) (B + 1) o ln cap 3 _ (Blk.fr0 HROW.out (by repeat (first | exact Fr.refl _ _ | apply Fr.drew))) (by omega) (by omega) (by omega)).mono ?_; rintro e w1 ⟨rfl, A', hb1, hA1, hf1⟩; have rn1 := (HR.out.fr0 (by repeat (first | exact Fr.refl _ _ | apply Fr.drew))).take HBW.out (k := 3) HLN.out (by omega) hb1 hA1 hf1; have v2 : w1.cell? ⟨B + 1, o + 2, none⟩ = some (.int .i64 x2) := (Fr.cellN hf1 _ _ (by first | omega | (simp; omega)) (by omega)).trans z2)
                  all_goals
                    have HRN := Lib.hid rn1
                    go_roundw
                    case rel =>
                      first
                      | exact ⟨_, _, _, _, _, HRN.out, fun z h => HRUN.out z (Run.none5 (by first | exact .inl rfl | exact .inr rfl) (.inr hx) h)⟩
                      | ((repeat apply Exists.intro); exact ⟨⟨_, _, _, _, _, HRN.out, fun z h => HRUN.out z (Run.none5 (by first | exact .inl rfl | exact .inr rfl) (.inr hx) h)⟩, rfl⟩)
                    case measure =>
                      rw [lenAt_is HR.out, lenAt_is HRN.out, List.length_drop, ← HLN.out]
                      omega
          · have h5' : (x1 == 5) = false := by simp [h5]
            by_cases h2 : x1 = 2
            · subst h2
              match R2 with
              | [] =>
                have l3 : ln ≤ 2 := by rw [HLN.out]; simp
                rcases hy' with rfl | rfl
                all_goals
                  go_wp2_with (go_at_call 11; refine (takes_any (B + 1 + 1 + 1) (B + 1) o ln cap ln _ (Blk.fr0 HROW.out (by repeat (first | exact Fr.refl _ _ | apply Fr.drew))) (by omega) (by omega) (by omega)).mono ?_; rintro e w1 ⟨rfl, A', hb1, hA1, hf1⟩; have rn1 := (HR.out.fr0 (by repeat (first | exact Fr.refl _ _ | apply Fr.drew))).take HBW.out (k := ln) HLN.out (by omega) hb1 hA1 hf1)
                  all_goals
                    have HRN := Lib.hid rn1
                    go_roundw
                    case rel =>
                      first
                      | exact ⟨_, _, _, _, _, HRN.out, fun z h => by rw [HLN.out, List.drop_length] at h; cases h; exact HRUN.out _ (Run.stop (by first | exact .inl rfl | exact .inr rfl) (by simp) (by simp))⟩
                      | ((repeat apply Exists.intro); exact ⟨⟨_, _, _, _, _, HRN.out, fun z h => by rw [HLN.out, List.drop_length] at h; cases h; exact HRUN.out _ (Run.stop (by first | exact .inl rfl | exact .inr rfl) (by simp) (by simp))⟩, rfl⟩)
                    case measure =>
                      rw [lenAt_is HR.out, lenAt_is HRN.out, List.length_drop, ← HLN.out]
                      omega
              | [a] =>
                have l3 : ln ≤ 3 := by rw [HLN.out]; simp
                rcases hy' with rfl | rfl
                all_goals
                  go_wp2_with (go_at_call 11; refine (takes_any (B + 1 + 1 + 1) (B + 1) o ln cap ln _ (Blk.fr0 HROW.out (by repeat (first | exact Fr.refl _ _ | apply Fr.drew))) (by omega) (by omega) (by omega)).mono ?_; rintro e w1 ⟨rfl, A', hb1, hA1, hf1⟩; have rn1 := (HR.out.fr0 (by repeat (first | exact Fr.refl _ _ | apply Fr.drew))).take HBW.out (k := ln) HLN.out (by omega) hb1 hA1 hf1)
                  all_goals
                    have HRN := Lib.hid rn1
                    go_roundw
                    case rel =>
                      first
                      | exact ⟨_, _, _, _, _, HRN.out, fun z h => by rw [HLN.out, List.drop_length] at h; cases h; exact HRUN.out _ (Run.stop (by first | exact .inl rfl | exact .inr rfl) (by simp) (by simp))⟩
                      | ((repeat apply Exists.intro); exact ⟨⟨_, _, _, _, _, HRN.out, fun z h => by rw [HLN.out, List.drop_length] at h; cases h; exact HRUN.out _ (Run.stop (by first | exact .inl rfl | exact .inr rfl) (by simp) (by simp))⟩, rfl⟩)
                    case measure =>
                      rw [lenAt_is HR.out, lenAt_is HRN.out, List.length_drop, ← HLN.out]
                      omega
              | [a, b] =>
                have l3 : ln ≤ 4 := by rw [HLN.out]; simp
                rcases hy' with rfl | rfl
                all_goals
                  go_wp2_with (go_at_call 11; refine (takes_any (B + 1 + 1 + 1) (B + 1) o ln cap ln _ (Blk.fr0 HROW.out (by repeat (first | exact Fr.refl _ _ | apply Fr.drew))) (by omega) (by omega) (by omega)).mono ?_; rintro e w1 ⟨rfl, A', hb1, hA1, hf1⟩; have rn1 := (HR.out.fr0 (by repeat (first | exact Fr.refl _ _ | apply Fr.drew))).take HBW.out (k := ln) HLN.out (by omega) hb1 hA1 hf1)
                  all_goals
                    have HRN := Lib.hid rn1
                    go_roundw
                    case rel =>
                      first
                      | exact ⟨_, _, _, _, _, HRN.out, fun z h => by rw [HLN.out, List.drop_length] at h; cases h; exact HRUN.out _ (Run.stop (by first | exact .inl rfl | exact .inr rfl) (by simp) (by simp))⟩
                      | ((repeat apply Exists.intro); exact ⟨⟨_, _, _, _, _, HRN.out, fun z h => by rw [HLN.out, List.drop_length] at h; cases h; exact HRUN.out _ (Run.stop (by first | exact .inl rfl | exact .inr rfl) (by simp) (by simp))⟩, rfl⟩)
                    case measure =>
                      rw [lenAt_is HR.out, lenAt_is HRN.out, List.length_drop, ← HLN.out]
                      omega
              | a :: b :: d :: R5 =>
                have l3 : 5 ≤ ln := by rw [HLN.out]; simp
                have z2 : wr.cell? ⟨B + 1, o + 2, none⟩ = some (.int .i64 a) := HR.out.cell 2 a rfl
                have z3 : wr.cell? ⟨B + 1, o + 3, none⟩ = some (.int .i64 b) := HR.out.cell 3 b rfl
                have z4 : wr.cell? ⟨B + 1, o + 4, none⟩ = some (.int .i64 d) := HR.out.cell 4 d rfl
                rcases hy' with rfl | rfl
                all_goals
                  go_wp2_with (go_at_call 11; refine (takes_any (B + 1 + 1 + 1) (B + 1) o ln cap 5 _ (Blk.fr0 HROW.out (by repeat (first | exact Fr.refl _ _ | apply Fr.drew))) (by omega) (by omega) (by omega)).mono ?_; rintro e w1 ⟨rfl, A', hb1, hA1, hf1⟩; have rn1 := (HR.out.fr0 (by repeat (first | exact Fr.refl _ _ | apply Fr.drew))).take HBW.out (k := 5) HLN.out (by omega) hb1 hA1 hf1; have v2 : w1.cell? ⟨B + 1, o + 2, none⟩ = some (.int .i64 a) := (Fr.cellN hf1 _ _ (by first | omega | (simp; omega)) (by omega)).trans z2; have v3 : w1.cell? ⟨B + 1, o + 3, none⟩ = some (.int .i64 b) := (Fr.cellN hf1 _ _ (by first | omega | (simp; omega)) (by omega)).trans z3; have v4 : w1.cell? ⟨B + 1, o + 4, none⟩ = some (.int .i64 d) := (Fr.cellN hf1 _ _ (by first | omega | (simp; omega)) (by omega)).trans z4)
                  go_region_with (first
                    | (go_at_call 12; refine (set_any B ⟨cr', cf', cb', ca'⟩ _ (triP a b d) _ (Blk.fr0 rn1.pen (by repeat (first | exact Fr.refl _ _ | apply Fr.drew)))).mono ?_; rintro e w2 ⟨rfl, hb2, hf2⟩; have rn2 := (rn1.fr0 (by repeat (first | exact Fr.refl _ _ | apply Fr.drew))).paint HBW.out hb2 hf2)
                    | (go_at_call 9; refine (Colour_any _ _ _ _).mono ?_; rintro e w3 ⟨rfl, rfl⟩))
                  all_goals
                    have HRN := Lib.hid rn2
                    try go_wp2
                    go_roundw
                    case rel =>
                      first
                      | exact ⟨_, _, _, _, _, HRN.out, fun z h => HRUN.out z (Run.three (by first | exact .inl rfl | exact .inr rfl) h)⟩
                      | ((repeat apply Exists.intro); exact ⟨⟨_, _, _, _, _, HRN.out, fun z h => HRUN.out z (Run.three (by first | exact .inl rfl | exact .inr rfl) h)⟩, rfl⟩)
                    case measure =>
                      rw [lenAt_is HR.out, lenAt_is HRN.out, List.length_drop, ← HLN.out]
                      omega
            · have h2' : (x1 == 2) = false := by simp [h2]
              have hl : ln < 3 ∨ (3 ≤ ln ∧ ln < 5) ∨ 5 ≤ ln := by omega
              rcases hl with l3 | ⟨l3, l4⟩ | l3
              all_goals
                rcases hy' with rfl | rfl
                all_goals
                  go_wp2_with (go_at_call 11; refine (takes_any (B + 1 + 1 + 1) (B + 1) o ln cap ln _ (Blk.fr0 HROW.out (by repeat (first | exact Fr.refl _ _ | apply Fr.drew))) (by omega) (by omega) (by omega)).mono ?_; rintro e w1 ⟨rfl, A', hb1, hA1, hf1⟩; have rn1 := (HR.out.fr0 (by repeat (first | exact Fr.refl _ _ | apply Fr.drew))).take HBW.out (k := ln) HLN.out (by omega) hb1 hA1 hf1)
                  all_goals
                    have HRN := Lib.hid rn1
                    go_roundw
                    case rel =>
                      first
                      | exact ⟨_, _, _, _, _, HRN.out, fun z h => by rw [HLN.out, List.drop_length] at h; cases h; exact HRUN.out _ (Run.stop (by first | exact .inl rfl | exact .inr rfl) (by simp [h5]) (by simp [h2]))⟩
                      | ((repeat apply Exists.intro); exact ⟨⟨_, _, _, _, _, HRN.out, fun z h => by rw [HLN.out, List.drop_length] at h; cases h; exact HRUN.out _ (Run.stop (by first | exact .inl rfl | exact .inr rfl) (by simp [h5]) (by simp [h2]))⟩, rfl⟩)
                    case measure =>
                      rw [lenAt_is HR.out, lenAt_is HRN.out, List.length_drop, ← HLN.out]
                      omega
end Go.Proofs.Ytndjgcpaiplakaa
