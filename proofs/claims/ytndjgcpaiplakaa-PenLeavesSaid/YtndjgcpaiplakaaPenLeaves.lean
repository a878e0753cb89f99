/-
  PenLeaves: the walk.
-/
import Derived.Test.YtndjgcpaiplakaaPenLaw
import Derived.Deep.DeepCutAuto
import Derived.Deep.RegionHeld3
namespace Go.Proofs.Ytndjgcpaiplakaa
open Go.RowKit
set_option linter.unusedVariables false

theorem Blk.new1 (w : World) (o : Obj) (t : TypeId) (cs : Array Value) : Blk ((w.alloc o).alloc (.cells cs t)) (w.heap.size + 1) t cs := by
  have q := Blk.new (w.alloc o) t cs
  rw [World.size_alloc] at q
  exact q
def says (k : Int) : Prop := k ≤ 5 ∨ k = 7 ∨ (22 ≤ k ∧ k ≤ 25) ∨ k = 27 ∨ (30 ≤ k ∧ k ≤ 49) ∨ (90 ≤ k ∧ k ≤ 107)
theorem apply_one (c : Pn) (k : Int) (w : World) (h0 : 0 ≤ k) (h1 : k ≤ 1023) : Calls Try.prog 7 #[penV c, actV 4 109 0 0 1 k 0 0 0 0 0 0 0] w fun e w' => ∃ zr zf zb za, e = .returned (.agg #[.int .i32 zr, .int .u8 zf, .int .u8 zb, .int .u8 za]) ∧ Fr noneOf w w' := by
  refine (apply_any c k 0 0 0 0 0 0 0 1 w (by omega) (by simp; omega) (by omega)).mono ?_
  rintro e w' ⟨z, rfl, hr, hf⟩
  exact ⟨z.r, z.f, z.b, z.a, rfl, hf⟩
theorem apply_quiet (c : Pn) (k : Int) (w : World) (h0 : 0 ≤ k) (h1 : k ≤ 1023) (hs : ¬ says k) : Calls Try.prog 7 #[penV c, actV 4 109 0 0 1 k 0 0 0 0 0 0 0] w fun e w' => e = .returned (penV c) ∧ Fr noneOf w w' := by
  refine (apply_any c k 0 0 0 0 0 0 0 1 w (by omega) (by simp; omega) (by omega)).mono ?_
  rintro e w' ⟨z, rfl, hr, hf⟩
  have h38 : k ≠ 38 ∧ k ≠ 48 := by unfold says at hs; omega
  have := run_one c z k h38.1 h38.2 hr
  rw [one_quiet c k h0 hs] at this
  subst this
  exact ⟨rfl, hf⟩

theorem quiet_agg (r f b a : Int) (k : Int) (w : World) (h0 : 0 ≤ k) (h1 : k ≤ 1023) (hs : ¬ says k) : Calls Try.prog 7 #[penV ⟨r, f, b, a⟩, actV 4 109 0 0 1 k 0 0 0 0 0 0 0] w fun e w' => e = .returned (.agg #[.int .i32 r, .int .u8 f, .int .u8 b, .int .u8 a]) ∧ Fr noneOf w w' := apply_quiet ⟨r, f, b, a⟩ k w h0 h1 hs
theorem refuse_agg (r0 f b a : Int) (k r p m n x0 x1 x2 x3 x4 x5 x6 x7 : Int) (w : World) (h : k ≠ 4 ∨ r ≠ 109 ∨ p ≠ 0 ∨ m ≠ 0) :
    Calls Try.prog 7 #[penV ⟨r0, f, b, a⟩, actV k r p m n x0 x1 x2 x3 x4 x5 x6 x7] w fun e w' => e = .returned (.agg #[.int .i32 r0, .int .u8 f, .int .u8 b, .int .u8 a]) ∧ Fr noneOf w w' := refuse_any ⟨r0, f, b, a⟩ k r p m n x0 x1 x2 x3 x4 x5 x6 x7 w h
set_option maxHeartbeats 8000000 in
set_option maxRecDepth 100000 in
theorem penLeaves_any (r f b a : Int) (k0 r0 p0 m0 n0 x0 x1 x2 x3 x4 x5 x6 x7 : Int) (n : Int) (w : World) (hn0 : -9223372036854775808 ≤ n) (hn1 : n ≤ 9223372036854775807) :
    Calls Try.prog 3 #[.agg #[.int .i32 r, .int .u8 f, .int .u8 b, .int .u8 a], .agg #[.int .i64 k0, .int .i32 r0, .int .u8 p0, .int .u8 m0, .int .i64 n0, .int .i64 x0, .int .i64 x1, .int .i64 x2, .int .i64 x3, .int .i64 x4, .int .i64 x5, .int .i64 x6, .int .i64 x7], .int .i64 n] w fun e w' => e = .returned (.bool true) ∧ Fr noneOf w w' := by
  obtain ⟨k, hk, hk0, hk1⟩ : ∃ k : Int, bits .and .i64 n 1023 = k ∧ 0 ≤ k ∧ k ≤ 1023 := by
    refine ⟨_, rfl, ?_⟩
    have : bits .and .i64 n 1023 = IntKind.i64.wrap ((BitVec.ofInt 64 n &&& BitVec.ofInt 64 1023).toNat : Int) := rfl
    have h2 : (BitVec.ofInt 64 n &&& BitVec.ofInt 64 1023).toNat ≤ 1023 := by
      rw [BitVec.toNat_and]
      exact Nat.le_trans Nat.and_le_right (by decide)
    rw [this, IntKind.wrap_i64]
    omega
  obtain ⟨G, hG⟩ : ∃ G : Bool, (G = true ∧ k0 = 4 ∧ r0 = 109 ∧ p0 = 0 ∧ m0 = 0) ∨ (G = false ∧ (k0 ≠ 4 ∨ r0 ≠ 109 ∨ p0 ≠ 0 ∨ m0 ≠ 0)) := by
    by_cases h : k0 = 4 ∧ r0 = 109 ∧ p0 = 0 ∧ m0 = 0
    · exact ⟨true, .inl ⟨rfl, h⟩⟩
    · exact ⟨false, .inr ⟨rfl, by omega⟩⟩
  obtain ⟨S, hS⟩ : ∃ S : Bool, (S = true ∧ says k) ∨ (S = false ∧ ¬ says k) := by
    by_cases h : says k
    · exact ⟨true, .inl ⟨rfl, h⟩⟩
    · exact ⟨false, .inr ⟨rfl, h⟩⟩
  have HG := Lib.hid hG
  have HS := Lib.hid hS
  clear hG hS
  go_enter Try.func3, Try.ntmps3
  go_upto_region 2 with (go_at_call 6; refine (awake_any _).mono ?_; rintro e wa ⟨rfl, hfa⟩)
  have D : Blk wa w.heap.size 23 #[.int .i32 r, .int .u8 f, .int .u8 b, .int .u8 a] := ((Blk.new w _ _).alloc _).fr0 hfa
  have E : Blk wa (w.heap.size + 1) 26 #[.int .i64 k0, .int .i32 r0, .int .u8 p0, .int .u8 m0, .int .i64 n0, .int .i64 x0, .int .i64 x1, .int .i64 x2, .int .i64 x3, .int .i64 x4, .int .i64 x5, .int .i64 x6, .int .i64 x7] := (Blk.new1 w _ _ _).fr0 hfa
  have d0 := D.cell 0
  have d1 := D.cell 1
  have d2 := D.cell 2
  have d3 := D.cell 3
  have e0 := E.cell 0
  have e1 := E.cell 1
  have e2 := E.cell 2
  have e3 := E.cell 3
  have e4 := E.cell 4
  have e5 := E.cell 5
  have e6 := E.cell 6
  have e7 := E.cell 7
  have e8 := E.cell 8
  have e9 := E.cell 9
  have e10 := E.cell 10
  have e11 := E.cell 11
  have e12 := E.cell 12
  have fz := E.frozen 3
  go_cut [29] (fun s29 wx => s29 = .bool G ∧ wx = wa)
  case first =>
    have h' : (G = false ∧ (k0 == 4) = false) ∨ (G = false ∧ (k0 == 4) = true ∧ (r0 == 109) = false) ∨ (G = false ∧ (k0 == 4) = true ∧ (r0 == 109) = true ∧ (p0 == 0) = false) ∨ (G = false ∧ (k0 == 4) = true ∧ (r0 == 109) = true ∧ (p0 == 0) = true ∧ (m0 == 0) = false) ∨ (G = true ∧ (k0 == 4) = true ∧ (r0 == 109) = true ∧ (p0 == 0) = true ∧ (m0 == 0) = true) := by
      rcases HG.out with ⟨g, h⟩ | ⟨g, h⟩
      · simp [g, h]
      · simp only [g, beq_iff_eq, beq_eq_false_iff_ne]; simp; omega
    rcases h' with ⟨rfl, h⟩ | ⟨rfl, h, h1⟩ | ⟨rfl, h, h1, h2⟩ | ⟨rfl, h, h1, h2, h3⟩ | ⟨rfl, h, h1, h2, h3⟩
    all_goals
      go_wp2
      go_meet
      exact ⟨rfl, rfl⟩
  case rest =>
  obtain ⟨rfl, rfl⟩ := hcut
  obtain ⟨m', hm', hE, hD⟩ : ∃ m' : Int, (k0 ≠ 4 ∨ r0 ≠ 109 ∨ p0 ≠ 0 ∨ m' ≠ 0) ∧ (G = false → m' = m0) ∧ (G = true → m' = 33) := by
    rcases HG.out with ⟨g, h⟩ | ⟨g, h⟩
    · exact ⟨33, by omega, by simp [g], by simp⟩
    · exact ⟨m0, h, by simp, by simp [g]⟩
  have F0 : Fr noneOf w wc := ((Fr.refl _ _).alloc _).alloc _ |>.trans hfa
  go_upto_if 29 with fail
  go_cut [] (fun wx => Blk wx w.heap.size 23 #[.int .i32 r, .int .u8 f, .int .u8 b, .int .u8 a] ∧ Blk wx (w.heap.size + 1) 26 #[.int .i64 k0, .int .i32 r0, .int .u8 p0, .int .u8 m', .int .i64 n0, .int .i64 x0, .int .i64 x1, .int .i64 x2, .int .i64 x3, .int .i64 x4, .int .i64 x5, .int .i64 x6, .int .i64 x7] ∧ Fr noneOf w wx)
  case first =>
    cases G with
    | false =>
      have := hE rfl
      subst this
      go_wp2
      go_meet
      exact ⟨D, E, F0⟩
    | true =>
      have := hD rfl
      subst this
      go_wp2
      go_meet
      exact ⟨D.far (p := ⟨w.heap.size + 1, 3, none⟩) (by simp) _, E.set_ 3 _, Fr.setCell (p := ⟨w.heap.size + 1, 3, none⟩) F0 (.inr (by simp)) _⟩
  case rest =>
  clear D E F0 d0 d1 d2 d3 e0 e1 e2 e3 e4 e5 e6 e7 e8 e9 e10 e11 e12 fz hE hD
  obtain ⟨D, E, F0⟩ := hcut
  have HF0 := Lib.hid F0
  clear F0
  go_upto_region 5 with fail
  obtain ⟨wz, hwz⟩ : ∃ wz, wz = wc := ⟨_, rfl⟩
  go_cut [9] (fun s9 wx => s9 = .bool S ∧ wx = wc)
  case first =>
    have h' : (S = true ∧ k ≤ 5) ∨ (S = true ∧ 7 ≤ k ∧ k ≤ 7 ∧ (k == 7) = true) ∨ (S = true ∧ 22 ≤ k ∧ k ≤ 25 ∧ (k == 7) = false) ∨ (S = true ∧ 27 ≤ k ∧ k ≤ 27 ∧ (k == 7) = false ∧ (k == 27) = true) ∨ (S = true ∧ 30 ≤ k ∧ k ≤ 49 ∧ (k == 7) = false ∧ (k == 27) = false) ∨ (S = true ∧ 90 ≤ k ∧ k ≤ 107 ∧ (k == 7) = false ∧ (k == 27) = false) ∨
        (S = false ∧ 6 ≤ k ∧ k ≤ 6 ∧ (k == 7) = false ∧ (k == 27) = false) ∨ (S = false ∧ 8 ≤ k ∧ k ≤ 21 ∧ (k == 7) = false ∧ (k == 27) = false) ∨ (S = false ∧ 26 ≤ k ∧ k ≤ 26 ∧ (k == 7) = false ∧ (k == 27) = false) ∨ (S = false ∧ 28 ≤ k ∧ k ≤ 29 ∧ (k == 7) = false ∧ (k == 27) = false) ∨ (S = false ∧ 50 ≤ k ∧ k ≤ 89 ∧ (k == 7) = false ∧ (k == 27) = false) ∨ (S = false ∧ 108 ≤ k ∧ (k == 7) = false ∧ (k == 27) = false) := by
      rcases HS.out with ⟨g, h⟩ | ⟨g, h⟩
      · unfold says at h
        simp only [g, beq_iff_eq, beq_eq_false_iff_ne]; simp; omega
      · unfold says at h
        simp only [g, beq_iff_eq, beq_eq_false_iff_ne]; simp; omega
    rcases h' with ⟨rfl, q⟩ | ⟨rfl, q, q', e⟩ | ⟨rfl, q, q', e⟩ | ⟨rfl, q, q', e, e'⟩ | ⟨rfl, q, q', e, e'⟩ | ⟨rfl, q, q', e, e'⟩ | ⟨rfl, q, q', e, e'⟩ | ⟨rfl, q, q', e, e'⟩ | ⟨rfl, q, q', e, e'⟩ | ⟨rfl, q, q', e, e'⟩ | ⟨rfl, q, q', e, e'⟩ | ⟨rfl, q, e, e'⟩
    all_goals
      go_wp2
      go_meet
      exact ⟨by first | rfl | (simp; omega), rfl⟩
  case rest =>
  obtain ⟨rfl, rfl⟩ := hcut
  have dq0 := D.cell 0
  have dq1 := D.cell 1
  have dq2 := D.cell 2
  have dq3 := D.cell 3
  rcases HS.out with ⟨rfl, hsk⟩ | ⟨rfl, hsk⟩
  · have H1 := Lib.hid (apply_one ⟨r, f, b, a⟩ k)
    go_wp2_with (go_at_call 7; refine (H1.out _ hk0 hk1).mono ?_; rintro e wb ⟨zr, zf, zb, za, rfl, hfb⟩; have D2 := D.fr0 hfb; have E2 := E.fr0 hfb; have uax := D2.cell 0; have ubx := D2.cell 1; have ucx := D2.cell 2; have udx := D2.cell 3; have vax := E2.cell 0; have vbx := E2.cell 1; have vcx := E2.cell 2; have vdx := E2.cell 3; have vex := E2.cell 4; have vfx := E2.cell 5; have vgx := E2.cell 6; have vhx := E2.cell 7; have vix := E2.cell 8; have vjx := E2.cell 9; have vkx := E2.cell 10; have vlx := E2.cell 11; have vmx := E2.cell 12; have lb := E2.lt)
    have lw : w.heap.size < wb.heap.size := by omega
    have N2 : Fr noneOf wb (wb.alloc (.cells #[.int .i32 zr, .int .u8 zf, .int .u8 zb, .int .u8 za] 23)) := (Fr.refl _ _).alloc _
    have D2b := D2.fr0 N2
    have E2b := E2.fr0 N2
    have X2b := Blk.new wb 23 #[.int .i32 zr, .int .u8 zf, .int .u8 zb, .int .u8 za]
    clear X2b
    go_region_with (go_at_call 7; refine (refuse_agg r f b a _ _ _ _ _ _ _ _ _ _ _ _ _ _ hm').mono ?_; rintro e wc' ⟨rfl, hfc'⟩; have hfc : Fr noneOf (wb.alloc (.cells #[.int .i32 zr, .int .u8 zf, .int .u8 zb, .int .u8 za] 23)) wc' := (by repeat (first | exact Fr.refl _ _ | apply Fr.drew) : Fr noneOf _ _).trans hfc'; have D3 := D2b.fr0 hfc; have sa : wc'.cell? ⟨w.heap.size, 0, none⟩ = some (.int .i32 r) := D3.cell 0; have sb : wc'.cell? ⟨w.heap.size, 1, none⟩ = some (.int .u8 f) := D3.cell 1; have sc : wc'.cell? ⟨w.heap.size, 2, none⟩ = some (.int .u8 b) := D3.cell 2; have sd : wc'.cell? ⟨w.heap.size, 3, none⟩ = some (.int .u8 a) := D3.cell 3)
    all_goals
      go_wp2
      go_ret
      exact ⟨rfl, ((HF0.out.trans hfb).alloc _).trans hfc⟩
  · have H1 := Lib.hid (fun w => quiet_agg r f b a k w hk0 hk1 hsk)
    go_wp2_with (go_at_call 7; refine (H1.out _).mono ?_; rintro e wb ⟨rfl, hfb⟩; have D2 := D.fr0 hfb; have E2 := E.fr0 hfb; have uax := D2.cell 0; have ubx := D2.cell 1; have ucx := D2.cell 2; have udx := D2.cell 3; have vax := E2.cell 0; have vbx := E2.cell 1; have vcx := E2.cell 2; have vdx := E2.cell 3; have vex := E2.cell 4; have vfx := E2.cell 5; have vgx := E2.cell 6; have vhx := E2.cell 7; have vix := E2.cell 8; have vjx := E2.cell 9; have vkx := E2.cell 10; have vlx := E2.cell 11; have vmx := E2.cell 12; have lb := E2.lt)
    have lw : w.heap.size < wb.heap.size := by omega
    have N2 : Fr noneOf wb (wb.alloc (.cells #[.int .i32 r, .int .u8 f, .int .u8 b, .int .u8 a] 23)) := (Fr.refl _ _).alloc _
    have D2b := D2.fr0 N2
    have E2b := E2.fr0 N2
    have X2b := Blk.new wb 23 #[.int .i32 r, .int .u8 f, .int .u8 b, .int .u8 a]
    (go_region_held3 (fun w' => w'.cell? ⟨w.heap.size, 0, none⟩ = some (.int .i32 r) ∧ w'.cell? ⟨w.heap.size, 1, none⟩ = some (.int .u8 f) ∧ w'.cell? ⟨w.heap.size, 2, none⟩ = some (.int .u8 b) ∧ w'.cell? ⟨w.heap.size, 3, none⟩ = some (.int .u8 a) ∧ w'.cell? ⟨w.heap.size + 1, 0, none⟩ = some (.int .i64 k0) ∧ w'.cell? ⟨w.heap.size + 1, 1, none⟩ = some (.int .i32 r0) ∧ w'.cell? ⟨w.heap.size + 1, 2, none⟩ = some (.int .u8 p0) ∧ w'.cell? ⟨w.heap.size + 1, 3, none⟩ = some (.int .u8 m') ∧ w'.cell? ⟨w.heap.size + 1, 4, none⟩ = some (.int .i64 n0) ∧ w'.cell? ⟨w.heap.size + 1, 5, none⟩ = some (.int .i64 x0) ∧ w'.cell? ⟨w.heap.size + 1, 6, none⟩ = some (.int .i64 x1) ∧ w'.cell? ⟨w.heap.size + 1, 7, none⟩ = some (.int .i64 x2) ∧ w'.cell? ⟨w.heap.size + 1, 8, none⟩ = some (.int .i64 x3) ∧ w'.cell? ⟨w.heap.size + 1, 9, none⟩ = some (.int .i64 x4) ∧ w'.cell? ⟨w.heap.size + 1, 10, none⟩ = some (.int .i64 x5) ∧ w'.cell? ⟨w.heap.size + 1, 11, none⟩ = some (.int .i64 x6) ∧ w'.cell? ⟨w.heap.size + 1, 12, none⟩ = some (.int .i64 x7) ∧ w'.cell? ⟨wb.heap.size, 0, none⟩ = some (.int .i32 r) ∧ w'.cell? ⟨wb.heap.size, 1, none⟩ = some (.int .u8 f) ∧ w'.cell? ⟨wb.heap.size, 2, none⟩ = some (.int .u8 b) ∧ w'.cell? ⟨wb.heap.size, 3, none⟩ = some (.int .u8 a))
      (first
        | go_keep
        | (have D3 := D2b.fr0 hfc; have E3 := E2b.fr0 hfc; have X3 := X2b.fr0 hfc; exact ⟨D3.cell 0, D3.cell 1, D3.cell 2, D3.cell 3, E3.cell 0, E3.cell 1, E3.cell 2, E3.cell 3, E3.cell 4, E3.cell 5, E3.cell 6, E3.cell 7, E3.cell 8, E3.cell 9, E3.cell 10, E3.cell 11, E3.cell 12, X3.cell 0, X3.cell 1, X3.cell 2, X3.cell 3⟩))
      ((go_at_call 7; refine (refuse_agg r f b a _ _ _ _ _ _ _ _ _ _ _ _ _ _ hm').mono ?_; rintro e wc' ⟨rfl, hfc'⟩; have hfc : Fr noneOf (wb.alloc (.cells #[.int .i32 r, .int .u8 f, .int .u8 b, .int .u8 a] 23)) wc' := (by repeat (first | exact Fr.refl _ _ | apply Fr.drew) : Fr noneOf _ _).trans hfc')))
    all_goals
      go_wp2
      go_ret
      exact ⟨rfl, ((HF0.out.trans hfb).alloc _).trans hfc⟩
end Go.Proofs.Ytndjgcpaiplakaa
