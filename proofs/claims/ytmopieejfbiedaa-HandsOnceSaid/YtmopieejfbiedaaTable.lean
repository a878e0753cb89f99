/-
  Contracts of package hands's table: New, Raise, Dismiss, Len, List.
  Conditions: a table's room is at most 12.
-/
import Derived.Test.YtmopieejfbiedaaHands
import Derived.Outline
import Derived.StillTailTactics
namespace Go.Proofs.Ytmopieejfbiedaa
open Go.RowKit
set_option linter.unusedVariables false
attribute [local go_sem ↓] Go.wp_at_zero Go.wp_at_succ

def intC (l : List Int) : List Value := l.map (Value.int .i64)
def tabC (room : Nat) (sl : Value) (most : List Int) : Array Value := (.int .i64 (room : Int) :: sl :: intC most).toArray
/-- BLOCK b IS A TABLE: its room, the hands that wait, the greatest number taken of each viewer. -/
def Tab (room : Nat) (L : List (Int × Int)) (most : List Int) (b : Nat) (w : World) : Prop :=
  ∃ A c, Blk w b 57 (tabC room (.slice A L.length c) most) ∧ Sl w A L.length 2 (handsV L) ∧ L.length ≤ c ∧ (A = none → c = 0) ∧ (∀ g o, A = some ⟨g, o, none⟩ → g ≠ b) ∧ most.length = 16 ∧ room ≤ 12

/-- .. and the hands that wait lie in none of the blocks of X. -/
def TabX (X : Nat → Prop) (room : Nat) (L : List (Int × Int)) (most : List Int) (b : Nat) (w : World) : Prop :=
  ∃ A c, Blk w b 57 (tabC room (.slice A L.length c) most) ∧ Sl w A L.length 2 (handsV L) ∧ L.length ≤ c ∧ (A = none → c = 0) ∧ (∀ g o, A = some ⟨g, o, none⟩ → g ≠ b) ∧ most.length = 16 ∧ room ≤ 12 ∧ (∀ g o, A = some ⟨g, o, none⟩ → 0 < L.length → ¬ X g)
theorem TabX.tab {X : Nat → Prop} {room : Nat} {L : List (Int × Int)} {most : List Int} {b : Nat} {w : World} (h : TabX X room L most b w) : Tab room L most b w := by
  obtain ⟨A, c, h1, h2, h3, h4, h5, h6, h7, _⟩ := h
  exact ⟨A, c, h1, h2, h3, h4, h5, h6, h7⟩
theorem Tab.x {room : Nat} {L : List (Int × Int)} {most : List Int} {b : Nat} {w : World} (h : Tab room L most b w) : TabX noneOf room L most b w := by
  obtain ⟨A, c, h1, h2, h3, h4, h5, h6, h7⟩ := h
  exact ⟨A, c, h1, h2, h3, h4, h5, h6, h7, fun _ _ _ _ h => h⟩
theorem TabX.mono {X Y : Nat → Prop} {room : Nat} {L : List (Int × Int)} {most : List Int} {b : Nat} {w : World} (h : TabX X room L most b w) (hxy : ∀ g, g < w.heap.size → Y g → X g) : TabX Y room L most b w := by
  obtain ⟨A, c, h1, h2, h3, h4, h5, h6, h7, h8⟩ := h
  refine ⟨A, c, h1, h2, h3, h4, h5, h6, h7, fun g o e hl hy => ?_⟩
  obtain ⟨g', o', e', hg, hc⟩ := h2.2 hl
  rw [e] at e'
  cases e'
  exact h8 g o e hl (hxy g hg hy)
theorem TabX.fr {X S : Nat → Prop} {room : Nat} {L : List (Int × Int)} {most : List Int} {b : Nat} {w w' : World} (h : TabX X room L most b w) (hf : Fr S w w') (hs : ∀ g, S g → X g) (hb : ¬ X b) : TabX X room L most b w' := by
  obtain ⟨A, c, h1, h2, h3, h4, h5, h6, h7, h8⟩ := h
  exact ⟨A, c, h1.fr hf (fun x => hb (hs _ x)), h2.frS hf (fun g o e hn x => h8 g o e hn (hs _ x)), h3, h4, h5, h6, h7, h8⟩
theorem TabX.lt {X : Nat → Prop} {room : Nat} {L : List (Int × Int)} {most : List Int} {b : Nat} {w : World} (h : TabX X room L most b w) : b < w.heap.size := by
  obtain ⟨A, c, hb, _⟩ := h
  exact hb.lt

theorem tabC_set (room : Nat) (s s' : Value) (most : List Int) : (tabC room s most).setIfInBounds 1 s' = tabC room s' most := by simp [tabC]
theorem tabC_most (room : Nat) (s : Value) (most : List Int) (v : Nat) (k : Int) : (tabC room s most).setIfInBounds (2 + v) (.int .i64 k) = tabC room s (most.set v k) := by
  simp only [tabC, List.setIfInBounds_toArray]
  rw [show 2 + v = v + 1 + 1 from by omega]
  simp [intC, List.map_set]
theorem tabC_at (room : Nat) (s : Value) (most : List Int) (v : Nat) (m : Int) (h : most[v]? = some m) : (tabC room s most)[2 + v]? = some (.int .i64 m) := by
  rw [show 2 + v = v + 1 + 1 from by omega]
  simp [tabC, intC, h]
theorem Tab.lt {room : Nat} {L : List (Int × Int)} {most : List Int} {b : Nat} {w : World} (h : Tab room L most b w) : b < w.heap.size := by
  obtain ⟨A, c, hb, _⟩ := h
  exact hb.lt
theorem Tab.fr {room : Nat} {L : List (Int × Int)} {most : List Int} {b : Nat} {w w' : World} (h : Tab room L most b w) (hf : Fr noneOf w w') : Tab room L most b w' := by
  obtain ⟨A, c, hb, hs, h1, h2, h3, h4, h5⟩ := h
  exact ⟨A, c, hb.fr0 hf, hs.fr hf, h1, h2, h3, h4, h5⟩

theorem may_yes (n : Int) (w : World) (h0 : 1 ≤ n) (h1 : n ≤ 1048576) : Calls Try.prog 18 #[.int .i64 n] w fun e w' => e = .returned (.bool true) ∧ w = w' := by
  go_enter Try.func18, Try.ntmps18
  go_wp2
  go_ret
  exact ⟨rfl, rfl⟩
theorem may_no (n : Int) (w : World) (h : n < 1 ∨ 1048576 < n) : Calls Try.prog 18 #[.int .i64 n] w fun e w' => e = .returned (.bool false) ∧ w = w' := by
  rcases h with h | h
  · go_enter Try.func18, Try.ntmps18
    go_wp2
    go_ret
    exact ⟨rfl, rfl⟩
  · have h1 : 1 ≤ n := by omega
    have h2 : ¬ n ≤ 1048576 := by omega
    go_enter Try.func18, Try.ntmps18
    go_wp2
    go_ret
    exact ⟨rfl, rfl⟩

def roomOf (n : Int) : Nat := (min (max n 1) 12).toNat
theorem roomOf_is (n : Int) : min (max n 1) 12 = (roomOf n : Int) := by unfold roomOf; omega
theorem roomOf_bd (n : Int) : 1 ≤ roomOf n ∧ roomOf n ≤ 12 := by unfold roomOf; omega
def zeros16 : List Int := List.replicate 16 0
theorem tab_new (n : Nat) (h : n ≤ 12) (w : World) : Tab n [] zeros16 w.heap.size (w.alloc (.cells (tabC n (.slice none 0 0) zeros16) 57)) :=
  ⟨none, 0, Blk.new w _ _, Sl.empty, Nat.le_refl 0, fun _ => rfl, fun _ _ h => (nomatch h), by simp [zeros16], h⟩
theorem new_any (n : Int) (w : World) : Calls Try.prog 8 #[.int .i64 n] w fun e w' => e = .returned (.pointer (some ⟨w.heap.size, 0, none⟩)) ∧ Tab (roomOf n) [] zeros16 w.heap.size w' ∧ Fr noneOf w w' := by
  by_cases h1 : n < 1
  · have HT := Lib.hid (tab_new 1 (by omega) w)
    have hr : roomOf n = 1 := by unfold roomOf; omega
    rw [hr]
    clear hr
    go_enter Try.func8, Try.ntmps8
    go_wp2
    go_ret
    exact ⟨rfl, HT.out, (Fr.refl _ _).alloc _⟩
  · by_cases h2 : 12 < n
    · have HT := Lib.hid (tab_new 12 (by omega) w)
      have hr : roomOf n = 12 := by unfold roomOf; omega
      rw [hr]
      clear hr
      go_enter Try.func8, Try.ntmps8
      go_wp2
      go_ret
      exact ⟨rfl, HT.out, (Fr.refl _ _).alloc _⟩
    · obtain ⟨r, rfl⟩ : ∃ r : Nat, n = (r : Int) := ⟨n.toNat, by omega⟩
      have r1 : r ≤ 12 := by omega
      have hr : roomOf (r : Int) = r := by unfold roomOf; omega
      have HT := Lib.hid (tab_new r (by omega) w)
      rw [hr]
      clear hr
      go_enter Try.func8, Try.ntmps8
      go_wp2
      go_ret
      exact ⟨rfl, HT.out, (Fr.refl _ _).alloc _⟩
theorem raise_old (b : Nat) (room : Nat) (L : List (Int × Int)) (most : List Int) (v : Nat) (k m : Int) (w : World) (h : Tab room L most b w) (hv : v < 16) (hm : most[v]? = some m) (h0 : 1 ≤ k) (h1 : k ≤ 1048576) (hk : k ≤ m) :
    Calls Try.prog 9 #[.pointer (some ⟨b, 0, none⟩), .agg #[.int .i64 v, .int .i64 k]] w fun e w' => e = .returned (.bool true) ∧ Fr noneOf w w' := by
  have hbw := h.lt
  obtain ⟨A, c, hb, hs, hc1, hc2, hc3, hc4, hc5⟩ := h
  have cm : w.cell? ⟨b, 2 + v, none⟩ = some (.int .i64 m) := (hb.cell (2 + v)).trans (tabC_at _ _ _ _ _ hm)
  have hnb : b ≠ w.heap.size := by omega
  have v0 : (0 : Int) ≤ (v : Int) := by omega
  have v1 : (v : Int) < 16 := by omega
  clear hb hs hc1 hc2 hc3 hc4 hc5 hm
  go_enter Try.func9, Try.ntmps9
  go_wp2_with (go_at_call 18; refine (may_yes _ _ h0 h1).mono ?_; rintro e w' ⟨rfl, rfl⟩)
  go_region
  go_wp2
  go_region
  go_wp2
  go_ret
  exact ⟨rfl, by repeat (first | exact Fr.refl _ _ | apply Fr.drew | apply Fr.alloc)⟩

theorem raise_bad (b : Nat) (v k : Int) (w : World) (h : v < 0 ∨ 16 ≤ v ∨ k < 1 ∨ 1048576 < k) :
    Calls Try.prog 9 #[.pointer (some ⟨b, 0, none⟩), .agg #[.int .i64 v, .int .i64 k]] w fun e w' => e = .returned (.bool false) ∧ Fr noneOf w w' := by
  by_cases h1 : v < 0
  · go_enter Try.func9, Try.ntmps9
    go_wp2
    go_ret
    exact ⟨rfl, by repeat (first | exact Fr.refl _ _ | apply Fr.drew | apply Fr.alloc)⟩
  · by_cases h2 : 16 ≤ v
    · go_enter Try.func9, Try.ntmps9
      go_wp2
      go_ret
      exact ⟨rfl, by repeat (first | exact Fr.refl _ _ | apply Fr.drew | apply Fr.alloc)⟩
    · have h3 : k < 1 ∨ 1048576 < k := by omega
      have H3 := Lib.hid h3
      clear h h3
      go_enter Try.func9, Try.ntmps9
      go_wp2_with (go_at_call 18; refine (may_no _ _ H3.out).mono ?_; rintro e w' ⟨rfl, rfl⟩)
      go_ret
      exact ⟨rfl, by repeat (first | exact Fr.refl _ _ | apply Fr.drew | apply Fr.alloc)⟩

theorem raise_nil (h : Value) (v k : Int) (w : World) (hv : h = .agg #[.int .i64 v, .int .i64 k]) :
    Calls Try.prog 9 #[.pointer none, h] w fun e w' => e = .returned (.bool false) ∧ Fr noneOf w w' := by
  subst hv
  go_enter Try.func9, Try.ntmps9
  go_wp2
  go_ret
  exact ⟨rfl, by repeat (first | exact Fr.refl _ _ | apply Fr.drew | apply Fr.alloc)⟩

theorem raise_full (b : Nat) (room : Nat) (L : List (Int × Int)) (most : List Int) (v : Nat) (k m : Int) (w : World) (h : Tab room L most b w) (hv : v < 16) (hm : most[v]? = some m) (h0 : 1 ≤ k) (h1 : k ≤ 1048576) (hk : m < k) (hfull : room ≤ L.length) :
    Calls Try.prog 9 #[.pointer (some ⟨b, 0, none⟩), .agg #[.int .i64 v, .int .i64 k]] w fun e w' => e = .returned (.bool false) ∧ Fr noneOf w w' := by
  have hbw := h.lt
  obtain ⟨A, c, hb, hs, hc1, hc2, hc3, hc4, hc5⟩ := h
  have cm : w.cell? ⟨b, 2 + v, none⟩ = some (.int .i64 m) := (hb.cell (2 + v)).trans (tabC_at _ _ _ _ _ hm)
  have hnb : b ≠ w.heap.size := by omega
  have v0 : (0 : Int) ≤ (v : Int) := by omega
  have v1 : (v : Int) < 16 := by omega
  have HB := Lib.hid hb
  clear hb hs hc1 hc2 hc3 hc4 hc5 hm
  go_enter Try.func9, Try.ntmps9
  go_wp2_with (go_at_call 18; refine (may_yes _ _ h0 h1).mono ?_; rintro e w' ⟨rfl, rfl⟩)
  go_region
  go_wp2
  go_region
  go_wp2
  refine wp_region_still_tail 4 (by kernel_rfl) (by kernel_rfl) ?_
  simp only [List.take_succ_cons, List.take_zero, List.drop_succ_cons, List.drop_zero]
  change wpStill _ _ (World.drew _) (fun a' => wpList _ _ _ _ a' (World.drew _)) _ _
  repeat still_step
  try refine wpStill_nil ?_
  have HF : Fr noneOf w (w.alloc (.cells #[.int .i64 v, .int .i64 k] 27)).drew.drew.drew := by repeat (first | exact Fr.refl _ _ | apply Fr.drew | apply Fr.alloc)
  have HBX := HB.out.fr0 HF
  go_wp2_with (go_at_call 19; refine (put_no b A L.length c room v k _ ((HBX.cell 0).trans rfl) ((HBX.cell 1).trans rfl) (by omega)).mono ?_; rintro e w1 ⟨rfl, hw1⟩)
  go_ret
  exact ⟨rfl, HF.trans hw1⟩
theorem raise_newX (X : Nat → Prop) (b : Nat) (room : Nat) (L : List (Int × Int)) (most : List Int) (v : Nat) (k m : Int) (w : World) (hX : ∀ g, X g → g < w.heap.size) (h : TabX X room L most b w) (hv : v < 16) (hm : most[v]? = some m) (h0 : 1 ≤ k) (h1 : k ≤ 1048576) (hk : m < k) (hroom : L.length < room) :
    Calls Try.prog 9 #[.pointer (some ⟨b, 0, none⟩), .agg #[.int .i64 v, .int .i64 k]] w fun e w' => e = .returned (.bool true) ∧ TabX X room (L ++ [((v : Int), k)]) (most.set v k) b w' ∧ Fr (justOf b) w w' := by
  have hbw := h.lt
  obtain ⟨A, c, hb, hs, hc1, hc2, hc3, hc4, hc5, _⟩ := h
  have HX := Lib.hid hX
  clear hX
  have cm : w.cell? ⟨b, 2 + v, none⟩ = some (.int .i64 m) := (hb.cell (2 + v)).trans (tabC_at _ _ _ _ _ hm)
  have hnb : b ≠ w.heap.size := by omega
  have v0 : (0 : Int) ≤ (v : Int) := by omega
  have v1 : (v : Int) < 16 := by omega
  have HB := Lib.hid hb
  have HS := Lib.hid hs
  have HC := Lib.hid hc4
  have HM := Lib.hid hm
  have HZ := Lib.hid hc2
  clear hb hs hc2 hc3 hc4 hm
  go_enter Try.func9, Try.ntmps9
  go_wp2_with (go_at_call 18; refine (may_yes _ _ h0 h1).mono ?_; rintro e w' ⟨rfl, rfl⟩)
  go_region
  go_wp2
  go_region
  go_wp2
  refine wp_region_still_tail 4 (by kernel_rfl) (by kernel_rfl) ?_
  simp only [List.take_succ_cons, List.take_zero, List.drop_succ_cons, List.drop_zero]
  change wpStill _ _ (World.drew _) (fun a' => wpList _ _ _ _ a' (World.drew _)) _ _
  repeat still_step
  try refine wpStill_nil ?_
  have HF : Fr noneOf w (w.alloc (.cells #[.int .i64 v, .int .i64 k] 27)).drew.drew.drew := by repeat (first | exact Fr.refl _ _ | apply Fr.drew | apply Fr.alloc)
  have HBX := HB.out.fr0 HF
  go_wp2_with (go_at_call 19; refine (put_yes b 57 _ A L.length c room (handsV L) v k _ HBX rfl rfl (HS.out.fr HF) hc1 HZ.out (by omega) (by omega)).mono ?_; rintro e w1 ⟨rfl, g, c', hb1, hw1, hs1, hc1', hg, hgn⟩; have d1 : w1.cell? ⟨w.heap.size, 1, none⟩ = some (.int .i64 k) := (Fr.cellN hw1 _ _ (by simp) hnb).trans (by simp); have f1 := hb1.frozen (2 + v); have hb2 : Blk w1 b 57 (tabC room (.slice (some ⟨g, 0, none⟩) (L.length + 1) c') most) := hb1; have d2 := (hb2.cell (2 + v)).trans (tabC_at _ _ _ _ _ HM.out))
  go_ret
  have HM' : (most.set v k).length = 16 := by simp [HC.out]
  have hb3 := hb2.set_ (2 + v) (.int .i64 k)
  rw [tabC_most] at hb3
  have hf3 : Fr (justOf b) w (w1.setCell ⟨b, 2 + v, none⟩ (.int .i64 k)) := Fr.put b _ _ ((Fr.of0 _ HF).trans hw1)
  refine ⟨rfl, ⟨some ⟨g, 0, none⟩, c', ?_, ?_, ?_, fun h => (nomatch h), fun g' o' e => by cases e; exact hg, HM', hc5, fun g' o' e _ x => ?_⟩, hf3⟩
  · rw [List.length_append]; exact hb3
  · rw [List.length_append, handsV_snoc]
    exact hs1.frS (S := justOf b) (Fr.put b _ _ (Fr.refl _ _)) (fun g' o' e _ h => by cases e; exact hg h)
  · rw [List.length_append]; exact hc1'
  · cases e
    have := HX.out _ x
    have := HF.size
    omega
theorem raise_new (b : Nat) (room : Nat) (L : List (Int × Int)) (most : List Int) (v : Nat) (k m : Int) (w : World) (h : Tab room L most b w) (hv : v < 16) (hm : most[v]? = some m) (h0 : 1 ≤ k) (h1 : k ≤ 1048576) (hk : m < k) (hroom : L.length < room) :
    Calls Try.prog 9 #[.pointer (some ⟨b, 0, none⟩), .agg #[.int .i64 v, .int .i64 k]] w fun e w' => e = .returned (.bool true) ∧ Tab room (L ++ [((v : Int), k)]) (most.set v k) b w' ∧ Fr (justOf b) w w' :=
  (raise_newX noneOf b room L most v k m w (fun _ h => h.elim) h.x hv hm h0 h1 hk hroom).mono fun _ _ ⟨h1, h2, h3⟩ => ⟨h1, h2.tab, h3⟩
theorem dismiss_nil (w : World) : Calls Try.prog 10 #[.pointer none] w fun e w' => e = .returned (.tuple #[.agg #[.int .i64 0, .int .i64 0], .bool false]) ∧ Fr noneOf w w' := by
  go_enter Try.func10, Try.ntmps10
  go_wp2
  exact bodyPost_ret (v := .tuple #[.agg #[.int .i64 0, .int .i64 0], .bool false]) (by simp [results, Try.results10, go_sem]) rfl ⟨rfl, by repeat (first | exact Fr.refl _ _ | apply Fr.drew | apply Fr.alloc)⟩
/-- WHAT A LOCAL OF TWO CELLS HOLDS AFTER BOTH WERE STORED. -/
theorem two_set {w1 : World} {g : Nat} {t : TypeId} {x y : Value} (h : Blk w1 g t #[x, y]) (u v : Value) : Blk ((w1.setCell ⟨g, 0, none⟩ u).setCell ⟨g, 1, none⟩ v) g t #[u, v] := (h.set_ 0 u).set_ 1 v
theorem dismiss_none (b room : Nat) (most : List Int) (w : World) (h : Tab room [] most b w) : Calls Try.prog 10 #[.pointer (some ⟨b, 0, none⟩)] w fun e w' => e = .returned (.tuple #[.agg #[.int .i64 0, .int .i64 0], .bool false]) ∧ Fr noneOf w w' := by
  have hbw := h.lt
  obtain ⟨A, c, hb, hs, hc1, hc2, hc3, hc4, hc5⟩ := h
  have HB := Lib.hid hb
  clear hb hs hc1 hc2 hc3 hc4 hc5
  go_enter Try.func10, Try.ntmps10
  go_wp2_with (go_at_call 20; refine (take_none b A c _ (((HB.out.alloc _).cell 1).trans rfl)).mono ?_; rintro e w1 ⟨rfl, hw1⟩; have d := hw1.blk (Blk.new _ _ _) (fun x => x); have d0 := d.cell 0; have d1 := d.cell 1; have f0 := d.frozen 0; have f1 := d.frozen 1)
  have E := two_set d (.int .i64 0) (.int .i64 0)
  have E0 := E.cell 0
  have E1 := E.cell 1
  refine bodyPost_ret (v := .tuple #[.agg #[.int .i64 0, .int .i64 0], .bool false]) (by simp [results, Try.results10, go_sem, E0, E1]) rfl ⟨rfl, ?_⟩
  exact (((Fr.refl _ _).alloc _).trans hw1).setCell (p := ⟨w.heap.size, 0, none⟩) (.inr (Nat.le_refl _)) _ |>.setCell (p := ⟨w.heap.size, 1, none⟩) (.inr (Nat.le_refl _)) _
theorem dismiss_someX (X : Nat → Prop) (b room : Nat) (v k : Int) (L : List (Int × Int)) (most : List Int) (w : World) (h : TabX X room ((v, k) :: L) most b w) : Calls Try.prog 10 #[.pointer (some ⟨b, 0, none⟩)] w fun e w' => e = .returned (.tuple #[.agg #[.int .i64 v, .int .i64 k], .bool true]) ∧ TabX X room L most b w' ∧ Fr (justOf b) w w' := by
  have hbw := h.lt
  have hnb : b ≠ w.heap.size := by omega
  obtain ⟨A, c, hb, hs, hc1, hc2, hc3, hc4, hc5, hc6⟩ := h
  have HB := Lib.hid hb
  have HS := Lib.hid hs
  have H1 := Lib.hid hc1
  have H2 := Lib.hid hc2
  have H3 := Lib.hid hc3
  have H6 := Lib.hid hc6
  clear hb hs hc1 hc2 hc3 hc6
  go_enter Try.func10, Try.ntmps10
  go_wp2_with (go_at_call 20; refine (take_some b 57 _ A L.length c v k (handsV L) _ (HB.out.alloc _) rfl (HS.out.fr ((Fr.refl _ _).alloc _)) H3.out H1.out).mono ?_; rintro e w1 ⟨rfl, A', hb1, hw1, hs1, hn1, hA1, hA2⟩; have d := hw1.blkN (Blk.new _ _ _) hnb; have d0 := d.cell 0; have d1 := d.cell 1; have f0 := d.frozen 0; have f1 := d.frozen 1)
  have hf1 : Fr (justOf b) w w1 := ((Fr.refl _ _).alloc _).trans hw1
  have hb2 : Blk w1 b 57 (tabC room (.slice A' L.length (c - 1)) most) := hb1
  have E := two_set d (.int .i64 v) (.int .i64 k)
  have E0 := E.cell 0
  have E1 := E.cell 1
  refine bodyPost_ret (v := .tuple #[.agg #[.int .i64 v, .int .i64 k], .bool true]) (by simp [results, Try.results10, go_sem, E0, E1]) rfl ⟨rfl, ⟨A', c - 1, ?_, ?_, ?_, fun h => absurd h hn1, hA1, hc4, hc5, fun g o e hl x => ?_⟩, ?_⟩
  · exact (hb2.far (p := ⟨w.heap.size, 0, none⟩) hnb _).far (p := ⟨w.heap.size, 1, none⟩) hnb _
  · have hff : ∀ g o, A' = some ⟨g, o, none⟩ → 0 < L.length → ¬ justOf w.heap.size g := by
      intro g o e hp hh
      obtain ⟨o', e'⟩ := hA2 g o e
      obtain ⟨g2, o2, e2, hl, _⟩ := HS.out.2 (by simp)
      rw [e'] at e2
      cases e2
      have : g = w.heap.size := hh
      omega
    exact hs1.frS (S := justOf w.heap.size) (Fr.put _ _ _ (Fr.put _ _ _ (Fr.refl _ _))) hff
  · have := H1.out
    simp at this
    omega
  · obtain ⟨o', e'⟩ := hA2 g o e
    exact H6.out g o' e' (by simp) x
  · exact hf1.setCell (p := ⟨w.heap.size, 0, none⟩) (.inr (Nat.le_refl _)) _ |>.setCell (p := ⟨w.heap.size, 1, none⟩) (.inr (Nat.le_refl _)) _
theorem dismiss_some (b room : Nat) (v k : Int) (L : List (Int × Int)) (most : List Int) (w : World) (h : Tab room ((v, k) :: L) most b w) : Calls Try.prog 10 #[.pointer (some ⟨b, 0, none⟩)] w fun e w' => e = .returned (.tuple #[.agg #[.int .i64 v, .int .i64 k], .bool true]) ∧ Tab room L most b w' ∧ Fr (justOf b) w w' :=
  (dismiss_someX noneOf b room v k L most w h.x).mono fun _ _ ⟨h1, h2, h3⟩ => ⟨h1, h2.tab, h3⟩
theorem len_is (b room : Nat) (L : List (Int × Int)) (most : List Int) (w : World) (h : Tab room L most b w) : Calls Try.prog 11 #[.pointer (some ⟨b, 0, none⟩)] w fun e w' => e = .returned (.int .i64 (L.length : Int)) ∧ w = w' := by
  have hbw := h.lt
  obtain ⟨A, c, hb, hs, hc1, hc2, hc3, hc4, hc5⟩ := h
  have c1 : w.cell? ⟨b, 1, none⟩ = some (.slice A L.length c) := (hb.cell 1).trans rfl
  clear hb hs hc1 hc2 hc3 hc4 hc5
  go_enter Try.func11, Try.ntmps11
  go_wp2
  go_ret
  exact ⟨rfl, rfl⟩
theorem len_nil (w : World) : Calls Try.prog 11 #[.pointer none] w fun e w' => e = .returned (.int .i64 0) ∧ w = w' := by
  go_enter Try.func11, Try.ntmps11
  go_wp2
  go_ret
  exact ⟨rfl, rfl⟩
theorem list_nil (w : World) : Calls Try.prog 13 #[.pointer none] w fun e w' => e = .returned (.slice none 0 0) ∧ w = w' := by
  go_enter Try.func13, Try.ntmps13
  go_wp2
  go_ret
  exact ⟨rfl, rfl⟩
end Go.Proofs.Ytmopieejfbiedaa
