/-
  Contracts of pen.Colour and of the two closures of pen.Apply; pen.Apply where it refuses.
-/
import Derived.Test.YtndjgcpaiplakaaPenOne
import Derived.Deep.RegionWith
import Derived.Deep.RegionHeld3
import Derived.StillTailTactics
namespace Go.Proofs.Ytndjgcpaiplakaa
open Go.RowKit
set_option linter.unusedVariables false

theorem part_any (n : Int) (w : World) : Calls Try.prog 14 #[.int .i64 n] w fun e w' => e = .returned (.int .i64 (partP n)) ∧ w = w' := by
  have h : n < 0 ∨ (0 ≤ n ∧ n ≤ 255) ∨ 255 < n := by omega
  rcases h with h | ⟨h, h'⟩ | h
  all_goals
    go_enter Try.func14, Try.ntmps14
    go_wp2
    go_ret
    exact ⟨by unfold partP; first | rw [show min (max n 0) 255 = 0 by omega]; rfl | rw [show min (max n 0) 255 = 255 by omega]; rfl | rw [show min (max n 0) 255 = n by omega]; rfl, rfl⟩
theorem takes_any (g b o len cap k : Nat) (w : World) (hb : Blk w g 30 #[.slice (some ⟨b, o, none⟩) len cap]) (hk : k ≤ len) (hl : len ≤ cap) (hc : cap ≤ 100) :
    Calls Try.prog 11 #[.int .i64 k, .pointer (some ⟨g, 0, none⟩)] w fun e w' => e = .returned (.slice (some ⟨b, o, none⟩) k cap) ∧ ∃ A', Blk w' g 30 #[.slice A' (len - k) (cap - k)] ∧ (k < cap → A' = some ⟨b, o + k, none⟩) ∧ Fr (justOf g) w w' := by
  have hg := hb.lt
  have c0 : w.cell? ⟨g, 0, none⟩ = some (.slice (some ⟨b, o, none⟩) len cap) := hb.cell 0
  have f0 := hb.frozen 0
  go_enter Try.func11, Try.ntmps11
  have HB := Lib.hid hb
  clear hb
  go_wp2
  · go_ret
    exact ⟨rfl, ⟨some ⟨b, o, none⟩, HB.out.set_ 0 (.slice (some ⟨b, o, none⟩) (len - k) 0)⟩, Fr.put g 0 _ (Fr.refl _ _)⟩
  · go_ret
    exact ⟨rfl, some ⟨b, o + k, none⟩, HB.out.set_ 0 _, fun _ => rfl, Fr.put g 0 _ (Fr.refl _ _)⟩
theorem set_any (g : Nat) (c : Pn) (n x : Int) (w : World) (hb : Blk w g 23 (penC c)) :
    Calls Try.prog 12 #[.int .i64 n, .int .u8 x, .pointer (some ⟨g, 0, none⟩)] w fun e w' => e = .returned (.tuple #[]) ∧ Blk w' g 23 (penC (setP c n x)) ∧ Fr (justOf g) w w' := by
  have hg := hb.lt
  have f1 := hb.frozen 1
  have f2 := hb.frozen 2
  have c1 : w.cell? ⟨g, 1, none⟩ = some (.int .u8 c.f) := hb.cell 1
  have c2 : w.cell? ⟨g, 2, none⟩ = some (.int .u8 c.b) := hb.cell 2
  have HB := Lib.hid hb
  clear hb
  by_cases h : n = 38
  · go_enter Try.func12, Try.ntmps12
    go_wp2
    go_end0
    exact ⟨rfl, by rw [setP, if_pos h]; exact HB.out.set_ 1 _, Fr.put g 1 _ (Fr.refl _ _)⟩
  · go_enter Try.func12, Try.ntmps12
    go_wp2
    go_end0
    exact ⟨rfl, by rw [setP, if_neg h]; exact HB.out.set_ 2 _, Fr.put g 2 _ (Fr.refl _ _)⟩
theorem partP_bd (n : Int) : 0 ≤ partP n ∧ partP n ≤ 5 := by unfold partP; omega
theorem Colour_any (x y z : Int) (w : World) : Calls Try.prog 9 #[.int .i64 x, .int .i64 y, .int .i64 z] w fun e w' => e = .returned (.int .u8 (triP x y z)) ∧ w = w' := by
  obtain ⟨a, ha⟩ : ∃ a, a = partP x := ⟨_, rfl⟩
  obtain ⟨b, hb⟩ : ∃ b, b = partP y := ⟨_, rfl⟩
  obtain ⟨d, hd⟩ : ∃ d, d = partP z := ⟨_, rfl⟩
  obtain ⟨a0, a1⟩ := partP_bd x
  obtain ⟨b0, b1⟩ := partP_bd y
  obtain ⟨d0, d1⟩ := partP_bd z
  unfold triP
  go_enter Try.func9, Try.ntmps9
  go_wp2_with (first | (go_at_call 14; refine (part_any _ _).mono ?_; rintro e w' ⟨rfl, rfl⟩) | (go_at_call 13; refine (colour_any _ _).mono ?_; rintro e w' ⟨rfl, rfl⟩))
  go_ret
  exact ⟨rfl, rfl⟩
/-- An act's cells. -/
def actV (k r p m n : Int) (x0 x1 x2 x3 x4 x5 x6 x7 : Int) : Value := .agg #[.int .i64 k, .int .i32 r, .int .u8 p, .int .u8 m, .int .i64 n, .int .i64 x0, .int .i64 x1, .int .i64 x2, .int .i64 x3, .int .i64 x4, .int .i64 x5, .int .i64 x6, .int .i64 x7]
theorem refuse_any (c : Pn) (k r p m n x0 x1 x2 x3 x4 x5 x6 x7 : Int) (w : World) (h : k ≠ 4 ∨ r ≠ 109 ∨ p ≠ 0 ∨ m ≠ 0) :
    Calls Try.prog 7 #[penV c, actV k r p m n x0 x1 x2 x3 x4 x5 x6 x7] w fun e w' => e = .returned (penV c) ∧ Fr noneOf w w' := by
  have h' : k ≠ 4 ∨ (k = 4 ∧ r ≠ 109) ∨ (k = 4 ∧ r = 109 ∧ p ≠ 0) ∨ (k = 4 ∧ r = 109 ∧ p = 0 ∧ m ≠ 0) := by omega
  clear h
  obtain ⟨cr, cf, cb, ca⟩ := c
  unfold penV actV
  rcases h' with h | ⟨h, h1⟩ | ⟨h, h1, h2⟩ | ⟨h, h1, h2, h3⟩
  all_goals
    go_enter Try.func7, Try.ntmps7
    go_wp2
    exact bodyPost_ret (v := .agg #[.int .i32 cr, .int .u8 cf, .int .u8 cb, .int .u8 ca]) (by simp [results, Try.results7, go_sem]) rfl ⟨rfl, by repeat (first | exact Fr.refl _ _ | apply Fr.drew | apply Fr.alloc)⟩
end Go.Proofs.Ytndjgcpaiplakaa
