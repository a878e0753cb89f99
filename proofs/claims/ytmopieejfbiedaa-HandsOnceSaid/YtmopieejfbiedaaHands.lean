/-
  Contracts of package hands: may, a row's put and take, a table.
  Conditions: a row's room is at most 12.
-/
import Derived.Test.YtmopieejfbiedaaSlice
import Derived.Test.YtmopieejfbiedaaChecked
import Derived.BigQuiet
import Derived.BigRegion
import Derived.Deep.RegionHeld3
import Derived.Deep.RegionLawGrows
import Derived.Deep.DrawnRows
import Derived.Deep.AppendLies
import Derived.Deep.RegionLaw
import Derived.Outline
namespace Go.Proofs.Ytmopieejfbiedaa
open Go.RowKit
set_option linter.unusedVariables false
attribute [local go_sem ↓] Go.wp_at_zero Go.wp_at_succ

/-- Hands as cells. -/
def handV (h : Int × Int) : List Value := [.int .i64 h.1, .int .i64 h.2]
def handsV (l : List (Int × Int)) : List Value := l.flatMap handV
theorem handsV_len (l : List (Int × Int)) : (handsV l).length = l.length * 2 := by
  induction l with
  | nil => rfl
  | cons h l ih => simp [handsV, handV] at ih ⊢; omega
theorem handsV_snoc (l : List (Int × Int)) (h : Int × Int) : handsV (l ++ [h]) = handsV l ++ handV h := by simp [handsV]
theorem hand_info : (Try.prog.info? 27).map (fun i => (i.zero, i.size, i.bytes)) = some (some (.agg #[.int .i64 0, .int .i64 0]), 2, 16) := by kernel_rfl

theorem Fr.cellN {b : Nat} {a w : World} (h : Fr (justOf b) a w) (g off : Nat) (hg : g < a.heap.size) (hne : b ≠ g) : w.cell? ⟨g, off, none⟩ = a.cell? ⟨g, off, none⟩ := Fr.cell (p := ⟨g, off, none⟩) h hg (fun x => hne (Eq.symm x))
theorem Fr.frozenN {b : Nat} {a w : World} (h : Fr (justOf b) a w) (g off : Nat) (hg : g < a.heap.size) (hne : b ≠ g) : w.frozen? ⟨g, off, none⟩ = a.frozen? ⟨g, off, none⟩ := Fr.frozen (p := ⟨g, off, none⟩) h hg (fun x => hne (Eq.symm x))
theorem Fr.blkN {b : Nat} {a w : World} (h : Fr (justOf b) a w) {g : Nat} {t : TypeId} {cs : Array Value} (hb : Blk a g t cs) (hne : b ≠ g) : Blk w g t cs := h.blk hb (fun x => hne (Eq.symm x))
theorem hand_new (w : World) (v k : Int) (g : Nat) (hg : g = w.heap.size) : ∀ j u, [Value.int .i64 v, Value.int .i64 k][j]? = some u → (w.alloc (.cells #[.int .i64 v, .int .i64 k] 27)).cell? ((⟨g, 0, none⟩ : Addr).add j) = some u := by
  subst hg
  intro j u hj
  match j, hj with
  | 0, hj => simp at hj; subst hj; simp [Addr.add]
  | 1, hj => simp at hj; subst hj; simp [Addr.add]
theorem hand_one (v k : Int) : ∀ u ∈ [Value.int .i64 v, Value.int .i64 k], u.oneCell' = true := by
  intro u hu
  simp at hu
  rcases hu with rfl | rfl <;> rfl
theorem holds_of {w : World} {A : Option Addr} {n size : Nat} {xs : List Value} (h : Sl w A n size xs) : ∀ b, A = some b → ∀ j u, xs[j]? = some u → w.cell? (b.add j) = some u := by
  intro b hb j u hj
  have hp : 0 < n := by
    rcases Nat.eq_zero_or_pos n with h0 | h0
    · have hl := h.1
      rw [h0, Nat.zero_mul] at hl
      have := (List.getElem?_eq_some_iff.1 hj).1
      omega
    · exact h0
  obtain ⟨g, o, e, _, hc⟩ := h.2 hp
  rw [hb] at e
  cases e
  have : (⟨g, o, none⟩ : Addr).add j = ⟨g, o + j, none⟩ := by unfold Addr.add; split <;> simp_all
  rw [this]
  exact hc j u hj
theorem row_at {w : World} {base : Nat} {e : TypeId} {size n : Nat} {v : Value} {xs : List Value} (h : w.ownsRow base e size v n xs) (hn : 0 < n) : ∃ g c, v = .slice (some ⟨g, 0, none⟩) n c ∧ n ≤ c ∧ base ≤ g := by
  rcases h.2 with ⟨_, h0⟩ | ⟨g, cap, cur, hv, hb, _, hnc, _⟩
  · omega
  · exact ⟨g, cap, hv, hnc, hb⟩
theorem put_yes (b t : Nat) (cs : Array Value) (A : Option Addr) (n c : Nat) (room : Int) (xs : List Value) (v k : Int) (w : World) (hb : Blk w b t cs) (h0 : cs[0]? = some (.int .i64 room)) (h1 : cs[1]? = some (.slice A n c))
    (hs : Sl w A n 2 xs) (hnc : n ≤ c) (hz : A = none → c = 0) (hn : (n : Int) < room) (hr : room ≤ 12) :
    Calls Try.prog 19 #[.pointer (some ⟨b, 0, none⟩), .agg #[.int .i64 v, .int .i64 k]] w fun e w' => e = .returned (.bool true) ∧
      ∃ g c', Blk w' b t (cs.setIfInBounds 1 (.slice (some ⟨g, 0, none⟩) (n + 1) c')) ∧ Fr (justOf b) w w' ∧ Sl w' (some ⟨g, 0, none⟩) (n + 1) 2 (xs ++ [.int .i64 v, .int .i64 k]) ∧ n + 1 ≤ c' ∧ g ≠ b ∧ w.heap.size ≤ g := by
  have c0 : w.cell? ⟨b, 0, none⟩ = some (.int .i64 room) := (hb.cell 0).trans h0
  have c1 : w.cell? ⟨b, 1, none⟩ = some (.slice A n c) := (hb.cell 1).trans h1
  have f1 := hb.frozen 1
  have HBL := Lib.hid hb
  clear hb h0 h1
  obtain ⟨i0, hi, hz0, hz1, hz2⟩ := info_parts hand_info
  have hbw : b < w.heap.size := World.block_lt_of_cell? _ _ c0
  have hn0 : (0 : Int) ≤ (n : Int) := by omega
  go_enter Try.func19, Try.ntmps19
  go_wp2
  have hnb : b ≠ w.heap.size := by omega
  have hzn : A = none → n = 0 ∧ n = 0 := fun h => by have := hz h; omega
  have HS := Lib.hid hs
  have HB := Lib.hid c1
  have HFB := Lib.hid f1
  clear hs hz
  go_region_law (refine step_append_grows (by rfl) (.tmp 24) (.tmp 26) 35 (by rfl) 27 i0 _ 2 16 Try.underlying35 hi hz0 hz1 hz2 (by rfl) (by decide) A n n xs (by rfl) hzn HS.out.1 (holds_of (HS.out.fr (by repeat (first | exact Fr.refl _ _ | apply Fr.drew | apply Fr.alloc)))) ⟨w.heap.size + 1, 0, none⟩ 1 1 [.int .i64 v, .int .i64 k] (by rfl) (by rfl) (hand_new _ v k _ (by simp)) (hand_one v k) (by omega) (by unfold maxLen; omega) (by omega) ?_; intro v' w1 hown hgrow; have hrow := row_at hown (by omega); obtain ⟨g, c', rfl, hnc', hg⟩ := hrow; have d1 : w1.cell? ⟨b, 1, none⟩ = some (.slice A n c) := (hgrow.cell_far ⟨b, 1, none⟩ (by simp; omega) (by simp)).trans ((Fr.cell (S := noneOf) (a := w) (by repeat (first | exact Fr.refl _ _ | apply Fr.drew | apply Fr.alloc)) (by exact hbw) (fun x => x)).trans HB.out); have d4 : w1.frozen? ⟨b, 1, none⟩ = false := (hgrow.frozen_far ⟨b, 1, none⟩ (by simp; omega) (by simp)).trans ((Fr.frozen (S := noneOf) (a := w) (by repeat (first | exact Fr.refl _ _ | apply Fr.drew | apply Fr.alloc)) (by exact hbw) (fun x => x)).trans HFB.out))
  all_goals
    go_wp2
    go_ret
    have hfr : Fr noneOf w w1 := Fr.grown (by repeat (first | exact Fr.refl _ _ | apply Fr.drew | apply Fr.alloc)) hgrow (fun _ h => by cases h)
    have hgb : g ≠ b := by simp at hg; omega
    have hgw : w.heap.size ≤ g := by simp at hg; omega
    exact ⟨rfl, g, c', (HBL.out.fr0 hfr).set_ 1 _, Fr.put b 1 _ (Fr.of0 _ hfr), (Sl.of_row hown).frS (S := justOf b) (Fr.put b 1 _ (Fr.refl _ _)) (fun g' o' e _ h => by cases e; exact hgb h), hnc', hgb, hgw⟩

theorem put_no (b : Nat) (A : Option Addr) (n c : Nat) (room : Int) (v k : Int) (w : World) (c0 : w.cell? ⟨b, 0, none⟩ = some (.int .i64 room)) (c1 : w.cell? ⟨b, 1, none⟩ = some (.slice A n c))
    (hn : ¬ (n : Int) < room) :
    Calls Try.prog 19 #[.pointer (some ⟨b, 0, none⟩), .agg #[.int .i64 v, .int .i64 k]] w fun e w' => e = .returned (.bool false) ∧ Fr noneOf w w' := by
  have hbw : b < w.heap.size := World.block_lt_of_cell? _ _ c0
  go_enter Try.func19, Try.ntmps19
  go_wp2
  go_ret
  exact ⟨rfl, (Fr.refl noneOf w).alloc _⟩

theorem take_none (b : Nat) (A : Option Addr) (c : Nat) (w : World) (c1 : w.cell? ⟨b, 1, none⟩ = some (.slice A 0 c)) :
    Calls Try.prog 20 #[.pointer (some ⟨b, 0, none⟩)] w fun e w' => e = .returned (.tuple #[.agg #[.int .i64 0, .int .i64 0], .bool false]) ∧ Fr noneOf w w' := by
  have hbw : b < w.heap.size := World.block_lt_of_cell? _ _ c1
  go_enter Try.func20, Try.ntmps20
  go_wp2
  exact bodyPost_ret (v := .tuple #[.agg #[.int .i64 0, .int .i64 0], .bool false]) (by simp [results, Try.results20, go_sem]) rfl ⟨rfl, by repeat (first | exact Fr.refl _ _ | apply Fr.drew | apply Fr.alloc)⟩
theorem take_some (b t : Nat) (cs : Array Value) (A : Option Addr) (n c : Nat) (v k : Int) (rest : List Value) (w : World) (hb : Blk w b t cs) (h1 : cs[1]? = some (.slice A (n + 1) c)) (hs : Sl w A (n + 1) 2 (.int .i64 v :: .int .i64 k :: rest)) (hsep : ∀ g o, A = some ⟨g, o, none⟩ → g ≠ b) (hnc : n + 1 ≤ c) :
    Calls Try.prog 20 #[.pointer (some ⟨b, 0, none⟩)] w fun e w' => e = .returned (.tuple #[.agg #[.int .i64 v, .int .i64 k], .bool true]) ∧
      ∃ A', Blk w' b t (cs.setIfInBounds 1 (.slice A' n (c - 1))) ∧ Fr (justOf b) w w' ∧ Sl w' A' n 2 rest ∧ A' ≠ none ∧ (∀ g o, A' = some ⟨g, o, none⟩ → g ≠ b) ∧ (∀ g o, A' = some ⟨g, o, none⟩ → ∃ o', A = some ⟨g, o', none⟩) := by
  have c1 : w.cell? ⟨b, 1, none⟩ = some (.slice A (n + 1) c) := (hb.cell 1).trans h1
  have f1 := hb.frozen 1
  obtain ⟨g, o, rfl, hgw, hc⟩ := hs.2 (by omega)
  have hv : w.cell? ⟨g, o, none⟩ = some (.int .i64 v) := hc 0 _ rfl
  have hk : w.cell? ⟨g, o + 1, none⟩ = some (.int .i64 k) := hc 1 _ rfl
  have hgb := hsep g o rfl
  have hbw : b < w.heap.size := World.block_lt_of_cell? _ _ c1
  have hnb : b ≠ w.heap.size := by omega
  have hngw : g ≠ w.heap.size := by omega
  have hlen := hs.1
  have HLEN := Lib.hid (show rest.length = n * 2 by simp at hlen; omega)
  have HBL := Lib.hid hb
  have HC := Lib.hid hc
  clear hb h1 hs hsep hc hlen
  by_cases hc1 : c = 1
  · have hn : n = 0 := by omega
    subst hn
    subst hc1
    go_enter Try.func20, Try.ntmps20
    go_wp2
    go_region
    go_wp2
    have hr0 : rest = [] := List.length_eq_zero_iff.1 (by rw [HLEN.out])
    exact bodyPost_ret (v := .tuple #[.agg #[.int .i64 v, .int .i64 k], .bool true]) (by simp [results, Try.results20, go_sem]) rfl ⟨rfl, some ⟨g, o, none⟩, ((HBL.out.set_ 1 _).alloc _).drew, ((Fr.put b 1 _ (Fr.refl _ _)).alloc _).drew, by rw [hr0]; exact Sl.empty, by simp, fun g' o' e => by cases e; exact hgb, fun g' o' e => by cases e; exact ⟨_, rfl⟩⟩
  · go_enter Try.func20, Try.ntmps20
    go_wp2
    go_region
    go_wp2
    refine bodyPost_ret (v := .tuple #[.agg #[.int .i64 v, .int .i64 k], .bool true]) (by simp [results, Try.results20, go_sem]) rfl ⟨rfl, some ⟨g, o + 2, none⟩, ((HBL.out.set_ 1 _).alloc _).drew, ((Fr.put b 1 _ (Fr.refl _ _)).alloc _).drew, ⟨HLEN.out, fun _ => ⟨g, o + 2, rfl, by simp; omega, fun j u hj => ?_⟩⟩, by simp, fun g' o' e => by cases e; exact hgb, fun g' o' e => by cases e; exact ⟨_, rfl⟩⟩
    refine (Fr.cell (S := justOf b) (a := w) (p := ⟨g, o + 2 + j, none⟩) ((Fr.put b 1 _ (Fr.refl _ _)).alloc _).drew hgw hgb).trans ?_
    rw [show o + 2 + j = o + (j + 2) from by omega]
    exact HC.out (j + 2) u hj
end Go.Proofs.Ytmopieejfbiedaa
