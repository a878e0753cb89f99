/-
  Contracts of package hands's raiser: Len, Head, Raise, Ack.
  Conditions: at most 3 wait where one is raised.
-/
import Derived.Test.YtmopieejfbiedaaTable
import Derived.ArgAppend
namespace Go.Proofs.Ytmopieejfbiedaa
open Go.RowKit
set_option linter.unusedVariables false
attribute [local go_sem ↓] Go.wp_at_zero Go.wp_at_succ

theorem int_info : (Try.prog.info? 3).map (fun i => (i.zero, i.size, i.bytes)) = some (some (.int .i64 0), 1, 8) := by kernel_rfl
theorem intC_snoc (l : List Int) (x : Int) : intC (l ++ [x]) = intC l ++ [.int .i64 x] := by simp [intC]
theorem int_new (w : World) (k : Int) (g : Nat) (hg : g = w.heap.size) (t : TypeId) : ∀ j u, [Value.int .i64 k][j]? = some u → (w.alloc (.cells #[.int .i64 k] t)).cell? ((⟨g, 0, none⟩ : Addr).add j) = some u := by
  subst hg
  intro j u hj
  match j, hj with
  | 0, hj => simp at hj; subst hj; simp [Addr.add]
theorem int_one (k : Int) : ∀ u ∈ [Value.int .i64 k], u.oneCell' = true := by
  intro u hu
  simp at hu
  subst hu
  rfl
/-- BLOCK b IS A RAISER: the numbers that wait (in none of the blocks of X), the greatest number raised. -/
def Rai (X : Nat → Prop) (q : List Int) (most : Int) (b : Nat) (w : World) : Prop :=
  ∃ A c room, Blk w b 47 #[.int .i64 room, .slice A q.length c, .int .i64 most] ∧ Sl w A q.length 1 (intC q) ∧ q.length ≤ c ∧ (A = none → c = 0) ∧ (∀ g o, A = some ⟨g, o, none⟩ → g ≠ b) ∧ (∀ g o, A = some ⟨g, o, none⟩ → 0 < q.length → ¬ X g)
theorem Rai.lt {X : Nat → Prop} {q : List Int} {most : Int} {b : Nat} {w : World} (h : Rai X q most b w) : b < w.heap.size := by
  obtain ⟨A, c, room, hb, _⟩ := h
  exact hb.lt
theorem Rai.mono {X Y : Nat → Prop} {q : List Int} {most : Int} {b : Nat} {w : World} (h : Rai X q most b w) (hxy : ∀ g, g < w.heap.size → Y g → X g) : Rai Y q most b w := by
  obtain ⟨A, c, room, h1, h2, h3, h4, h5, h8⟩ := h
  refine ⟨A, c, room, h1, h2, h3, h4, h5, fun g o e hl hy => ?_⟩
  obtain ⟨g', o', e', hg, hc⟩ := h2.2 hl
  rw [e] at e'
  cases e'
  exact h8 g o e hl (hxy g hg hy)
theorem Rai.fr {X S : Nat → Prop} {q : List Int} {most : Int} {b : Nat} {w w' : World} (h : Rai X q most b w) (hf : Fr S w w') (hs : ∀ g, S g → X g) (hb : ¬ X b) : Rai X q most b w' := by
  obtain ⟨A, c, room, h1, h2, h3, h4, h5, h8⟩ := h
  exact ⟨A, c, room, h1.fr hf (fun x => hb (hs _ x)), h2.frS hf (fun g o e hn x => h8 g o e hn (hs _ x)), h3, h4, h5, h8⟩
theorem rai_new (X : Nat → Prop) (w : World) : Rai X [] 0 w.heap.size (w.alloc (.cells #[.int .i64 0, .slice none 0 0, .int .i64 0] 47)) :=
  ⟨none, 0, 0, Blk.new w _ _, Sl.empty, Nat.le_refl 0, fun _ => rfl, fun _ _ h => (nomatch h), fun _ _ h => (nomatch h)⟩

theorem wpList_append_new {P : Program} {ops : Array Oper} {rest : List Oper} {o : Oper} {a : Act} {w : World} {Q : Exit → Act → World → Prop}
    (hg : o.guard = none) (s x : Operand) (t : TypeId) (hop : o.op = Op.call { callee := Callee.builtin Builtin.append, args := #[s, x], argTypes := #[t, t] })
    (e : TypeId) (i : TypeInfo) (z : Value) (size bytes : Nat) (h1 : P.underlying t = some (.slice e)) (h2 : P.info? e = some i) (h3 : i.zero = some z) (h4 : i.size = size) (h5 : i.bytes = bytes) (h6 : z.cells.size = size) (h7 : 0 < size)
    (ao : Option Addr) (n cap : Nat) (olds : List Value) (hs : a.eval s = .slice ao n cap) (hnone : ao = none → n = 0 ∧ cap = 0) (hlo : olds.length = n * size) (holds : ∀ b, ao = some b → ∀ j u, olds[j]? = some u → w.cell? (b.add j) = some u)
    (ad : Addr) (m c : Nat) (news : List Value) (hx : a.eval x = .slice (some ad) m c) (hn : news.length = m * size) (hc : ∀ j u, news[j]? = some u → w.cell? (ad.add j) = some u) (h1c : ∀ u ∈ news, u.oneCell' = true)
    (hfull : cap < n + m) (b1 : n + m ≤ maxLen) (b2 : (n + m) * bytes ≤ 140737488355328)
    (h : ∀ v' w', w'.ownsRow w.heap.size e size v' (n + m) (olds ++ news) → w.grownBy w' none → wpList P ops Q rest (a.put o.dst v') w') : wpList P ops Q (o :: rest) a w := by
  refine wpList_plain hg fun K hK => ?_
  cases ao with
  | some b =>
    obtain ⟨v', w', hrun, r1, r2⟩ := run_append_arg_grows (P := P) w t o.type e i z size bytes h1 h2 h3 h4 h5 h6 h7 b n cap olds hlo (holds b rfl) ad m c news hn hc hfull b1 b2
    unfold Oper.wp
    simp [execOp, hop, resolve, invoke, builtin, hs, hx, hrun, Result.andThen]
    exact hK _ _ (h v' w' r1 r2)
  | none =>
    obtain ⟨rfl, rfl⟩ := hnone rfl
    obtain rfl : olds = [] := List.eq_nil_of_length_eq_zero (by simpa using hlo)
    obtain ⟨v', w', hrun, r1, r2, _⟩ := run_append_own (P := P) w w.heap.size t o.type e i z size bytes h1 h2 h3 h4 h5 h6 h7 (.slice none 0 0) 0 [] (World.ownsRow_nil w _ e size) ad m c news hn hc h1c b1 b2 (Nat.le_refl _)
    unfold Oper.wp
    simp [execOp, hop, resolve, invoke, builtin, hs, hx, hrun, Result.andThen]
    exact hK _ _ (h v' w' r1 r2)
theorem iput_yes (b t : Nat) (cs : Array Value) (A : Option Addr) (n c : Nat) (room : Int) (xs : List Value) (k : Int) (w : World) (hb : Blk w b t cs) (h0 : cs[0]? = some (.int .i64 room)) (h1 : cs[1]? = some (.slice A n c))
    (hs : Sl w A n 1 xs) (hnc : n ≤ c) (hz : A = none → c = 0) (hn : (n : Int) < room) (hr : room ≤ 12) :
    Calls Try.prog 22 #[.pointer (some ⟨b, 0, none⟩), .int .i64 k] w fun e w' => e = .returned (.bool true) ∧
      ∃ g c', Blk w' b t (cs.setIfInBounds 1 (.slice (some ⟨g, 0, none⟩) (n + 1) c')) ∧ Fr (justOf b) w w' ∧ Sl w' (some ⟨g, 0, none⟩) (n + 1) 1 (xs ++ [.int .i64 k]) ∧ n + 1 ≤ c' ∧ g ≠ b ∧ w.heap.size ≤ g := by
  have c0 : w.cell? ⟨b, 0, none⟩ = some (.int .i64 room) := (hb.cell 0).trans h0
  have c1 : w.cell? ⟨b, 1, none⟩ = some (.slice A n c) := (hb.cell 1).trans h1
  have f1 := hb.frozen 1
  have HBL := Lib.hid hb
  clear hb h0 h1
  obtain ⟨i0, hi, hz0, hz1, hz2⟩ := info_parts int_info
  have hbw : b < w.heap.size := World.block_lt_of_cell? _ _ c0
  have hn0 : (0 : Int) ≤ (n : Int) := by omega
  have hnb : b ≠ w.heap.size := by omega
  have HS := Lib.hid hs
  cases A with
  | none =>
    have hc0 := hz rfl
    subst hc0
    obtain rfl : n = 0 := by omega
    have HB := Lib.hid c1
    have HFB := Lib.hid f1
    clear hs hz
    go_enter Try.func22, Try.ntmps22
    go_wp2_with (at_builtin; refine wpList_append_new rfl (.tmp 24) (.tmp 26) 41 (by rfl) 3 i0 _ 1 8 Try.underlying41 hi hz0 hz1 hz2 (by rfl) (by decide) none 0 0 xs (by rfl) (fun _ => ⟨rfl, rfl⟩) HS.out.1 (fun _ h => nomatch h) ⟨w.heap.size, 0, none⟩ 1 1 [.int .i64 k] (by rfl) (by rfl) (int_new _ k _ (by simp) _) (int_one k) (by omega) (by unfold maxLen; omega) (by omega) ?_; intro v' w1 hown hgrow; have hrow := row_at hown (by omega); obtain ⟨g, c', rfl, hnc', hg⟩ := hrow; have d1 : w1.cell? ⟨b, 1, none⟩ = some (.slice none 0 0) := (hgrow.cell_far ⟨b, 1, none⟩ (by simp; omega) (by simp)).trans ((Fr.cell (S := noneOf) (a := w) (by repeat (first | exact Fr.refl _ _ | apply Fr.drew | apply Fr.alloc)) (by exact hbw) (fun x => x)).trans HB.out); have d4 : w1.frozen? ⟨b, 1, none⟩ = false := (hgrow.frozen_far ⟨b, 1, none⟩ (by simp; omega) (by simp)).trans ((Fr.frozen (S := noneOf) (a := w) (by repeat (first | exact Fr.refl _ _ | apply Fr.drew | apply Fr.alloc)) (by exact hbw) (fun x => x)).trans HFB.out))
    go_ret
    have hfr : Fr noneOf w w1 := Fr.grown (by repeat (first | exact Fr.refl _ _ | apply Fr.drew | apply Fr.alloc)) hgrow (fun _ h => by cases h)
    have hgb : g ≠ b := by simp at hg; omega
    have hgw : w.heap.size ≤ g := by simp at hg; omega
    exact ⟨rfl, g, c', (HBL.out.fr0 hfr).set_ 1 _, Fr.put b 1 _ (Fr.of0 _ hfr), (Sl.of_row hown).frS (S := justOf b) (Fr.put b 1 _ (Fr.refl _ _)) (fun g' o' e _ h => by cases e; exact hgb h), hnc', hgb, hgw⟩
  | some a0 =>
    have HB := Lib.hid c1
    have HFB := Lib.hid f1
    clear hs hz
    go_enter Try.func22, Try.ntmps22
    go_wp2_with (at_builtin; refine wpList_append_new rfl (.tmp 24) (.tmp 26) 41 (by rfl) 3 i0 _ 1 8 Try.underlying41 hi hz0 hz1 hz2 (by rfl) (by decide) (some a0) n n xs (by rfl) (fun h => nomatch h) HS.out.1 (holds_of (HS.out.fr (by repeat (first | exact Fr.refl _ _ | apply Fr.drew | apply Fr.alloc)))) ⟨w.heap.size, 0, none⟩ 1 1 [.int .i64 k] (by rfl) (by rfl) (int_new _ k _ (by simp) _) (int_one k) (by omega) (by unfold maxLen; omega) (by omega) ?_; intro v' w1 hown hgrow; have hrow := row_at hown (by omega); obtain ⟨g, c', rfl, hnc', hg⟩ := hrow; have d1 : w1.cell? ⟨b, 1, none⟩ = some (.slice (some a0) n c) := (hgrow.cell_far ⟨b, 1, none⟩ (by simp; omega) (by simp)).trans ((Fr.cell (S := noneOf) (a := w) (by repeat (first | exact Fr.refl _ _ | apply Fr.drew | apply Fr.alloc)) (by exact hbw) (fun x => x)).trans HB.out); have d4 : w1.frozen? ⟨b, 1, none⟩ = false := (hgrow.frozen_far ⟨b, 1, none⟩ (by simp; omega) (by simp)).trans ((Fr.frozen (S := noneOf) (a := w) (by repeat (first | exact Fr.refl _ _ | apply Fr.drew | apply Fr.alloc)) (by exact hbw) (fun x => x)).trans HFB.out))
    go_ret
    have hfr : Fr noneOf w w1 := Fr.grown (by repeat (first | exact Fr.refl _ _ | apply Fr.drew | apply Fr.alloc)) hgrow (fun _ h => by cases h)
    have hgb : g ≠ b := by simp at hg; omega
    have hgw : w.heap.size ≤ g := by simp at hg; omega
    exact ⟨rfl, g, c', (HBL.out.fr0 hfr).set_ 1 _, Fr.put b 1 _ (Fr.of0 _ hfr), (Sl.of_row hown).frS (S := justOf b) (Fr.put b 1 _ (Fr.refl _ _)) (fun g' o' e _ h => by cases e; exact hgb h), hnc', hgb, hgw⟩

theorem itake_some (b t : Nat) (cs : Array Value) (A : Option Addr) (n c : Nat) (k : Int) (rest : List Value) (w : World) (hb : Blk w b t cs) (h1 : cs[1]? = some (.slice A (n + 1) c)) (hs : Sl w A (n + 1) 1 (.int .i64 k :: rest)) (hsep : ∀ g o, A = some ⟨g, o, none⟩ → g ≠ b) (hnc : n + 1 ≤ c) :
    Calls Try.prog 23 #[.pointer (some ⟨b, 0, none⟩)] w fun e w' => e = .returned (.tuple #[.int .i64 k, .bool true]) ∧
      ∃ A', Blk w' b t (cs.setIfInBounds 1 (.slice A' n (c - 1))) ∧ Fr (justOf b) w w' ∧ Sl w' A' n 1 rest ∧ A' ≠ none ∧ (∀ g o, A' = some ⟨g, o, none⟩ → g ≠ b) ∧ (∀ g o, A' = some ⟨g, o, none⟩ → ∃ o', A = some ⟨g, o', none⟩) := by
  have c1 : w.cell? ⟨b, 1, none⟩ = some (.slice A (n + 1) c) := (hb.cell 1).trans h1
  have f1 := hb.frozen 1
  obtain ⟨g, o, rfl, hgw, hc⟩ := hs.2 (by omega)
  have hk : w.cell? ⟨g, o, none⟩ = some (.int .i64 k) := hc 0 _ rfl
  have hgb := hsep g o rfl
  have hbw : b < w.heap.size := World.block_lt_of_cell? _ _ c1
  have hnb : b ≠ w.heap.size := by omega
  have hngw : g ≠ w.heap.size := by omega
  have hlen := hs.1
  have HLEN := Lib.hid (show rest.length = n * 1 by simp at hlen; omega)
  have HBL := Lib.hid hb
  have HC := Lib.hid hc
  clear hb h1 hs hsep hc hlen
  by_cases hc1 : c = 1
  · have hn : n = 0 := by omega
    subst hn
    subst hc1
    go_enter Try.func23, Try.ntmps23
    go_wp2
    go_region
    go_wp2
    have hr0 : rest = [] := List.length_eq_zero_iff.1 (by rw [HLEN.out])
    exact bodyPost_ret (v := .tuple #[.int .i64 k, .bool true]) (by simp [results, Try.results23, go_sem]) rfl ⟨rfl, some ⟨g, o, none⟩, (HBL.out.set_ 1 _).drew, (Fr.put b 1 _ (Fr.refl _ _)).drew, by rw [hr0]; exact Sl.empty, by simp, fun g' o' e => by cases e; exact hgb, fun g' o' e => by cases e; exact ⟨_, rfl⟩⟩
  · go_enter Try.func23, Try.ntmps23
    go_wp2
    go_region
    go_wp2
    refine bodyPost_ret (v := .tuple #[.int .i64 k, .bool true]) (by simp [results, Try.results23, go_sem]) rfl ⟨rfl, some ⟨g, o + 1, none⟩, (HBL.out.set_ 1 _).drew, (Fr.put b 1 _ (Fr.refl _ _)).drew, ⟨HLEN.out, fun _ => ⟨g, o + 1, rfl, by simp; omega, fun j u hj => ?_⟩⟩, by simp, fun g' o' e => by cases e; exact hgb, fun g' o' e => by cases e; exact ⟨_, rfl⟩⟩
    refine (Fr.cell (S := justOf b) (a := w) (p := ⟨g, o + 1 + j, none⟩) (Fr.put b 1 _ (Fr.refl _ _)).drew hgw hgb).trans ?_
    rw [show o + 1 + j = o + (j + 1) from by omega]
    exact HC.out (j + 1) u hj

theorem rlen_is (X : Nat → Prop) (b : Nat) (q : List Int) (most : Int) (w : World) (h : Rai X q most b w) : Calls Try.prog 14 #[.pointer (some ⟨b, 0, none⟩)] w fun e w' => e = .returned (.int .i64 (q.length : Int)) ∧ w = w' := by
  have hbw := h.lt
  obtain ⟨A, c, room, hb, hs, hc1, hc2, hc3, hc4⟩ := h
  have c1 : w.cell? ⟨b, 1, none⟩ = some (.slice A q.length c) := (hb.cell 1).trans rfl
  clear hb hs hc1 hc2 hc3 hc4
  go_enter Try.func14, Try.ntmps14
  go_wp2
  go_ret
  exact ⟨rfl, rfl⟩
theorem rhead_none (X : Nat → Prop) (b : Nat) (most : Int) (w : World) (h : Rai X [] most b w) : Calls Try.prog 16 #[.pointer (some ⟨b, 0, none⟩)] w fun e w' => e = .returned (.tuple #[.int .i64 0, .bool false]) ∧ w = w' := by
  have hbw := h.lt
  have H := Lib.hid h
  clear h
  go_enter Try.func16, Try.ntmps16
  go_wp2_with (go_at_call 14; refine (rlen_is X b [] most _ H.out).mono ?_; rintro e w' ⟨rfl, rfl⟩)
  exact bodyPost_ret (v := .tuple #[.int .i64 0, .bool false]) (by simp [results, Try.results16, go_sem]) rfl ⟨rfl, rfl⟩
theorem rhead_some (X : Nat → Prop) (b : Nat) (x : Int) (q : List Int) (most : Int) (w : World) (h : Rai X (x :: q) most b w) : Calls Try.prog 16 #[.pointer (some ⟨b, 0, none⟩)] w fun e w' => e = .returned (.tuple #[.int .i64 x, .bool true]) ∧ Fr noneOf w w' := by
  have hbw := h.lt
  have H := Lib.hid h
  obtain ⟨A, c, room, hb, hs, hc1, hc2, hc3, hc4⟩ := h
  obtain ⟨g, o, rfl, hgw, hc⟩ := hs.2 (by simp)
  have c1 : w.cell? ⟨b, 1, none⟩ = some (.slice (some ⟨g, o, none⟩) (q.length + 1) c) := (hb.cell 1).trans rfl
  have hx : w.cell? ⟨g, o, none⟩ = some (.int .i64 x) := hc 0 _ rfl
  have hl := rlen_is X b (x :: q) most w H.out
  rw [List.length_cons] at hl
  have HL := Lib.hid hl
  clear hb hs hc1 hc2 hc3 hc4 hc hl
  go_enter Try.func16, Try.ntmps16
  go_wp2_with (go_at_call 14; refine HL.out.mono ?_; rintro e w' ⟨rfl, rfl⟩)
  exact bodyPost_ret (v := .tuple #[.int .i64 x, .bool true]) (by simp [results, Try.results16, go_sem]) rfl ⟨rfl, by repeat (first | exact Fr.refl _ _ | apply Fr.drew | apply Fr.alloc)⟩
theorem rraise_no (X : Nat → Prop) (b : Nat) (k : Int) (q : List Int) (most : Int) (w : World) (h : Rai X q most b w) (hk : k < 1 ∨ (1 ≤ k ∧ k ≤ 1048576 ∧ k ≤ most)) : Calls Try.prog 15 #[.pointer (some ⟨b, 0, none⟩), .int .i64 k] w fun e w' => e = .returned (.bool false) ∧ Fr noneOf w w' := by
  have hbw := h.lt
  obtain ⟨A, c, room, hb, hs, hc1, hc2, hc3, hc4⟩ := h
  have c2 : w.cell? ⟨b, 2, none⟩ = some (.int .i64 most) := (hb.cell 2).trans rfl
  clear hb hs hc1 hc2 hc3 hc4
  rcases hk with hk | ⟨hk1, hk2, hk3⟩
  · go_enter Try.func15, Try.ntmps15
    go_wp2_with (go_at_call 18; refine (may_no _ _ (.inl hk)).mono ?_; rintro e w' ⟨rfl, rfl⟩)
    go_ret
    exact ⟨rfl, Fr.refl _ _⟩
  · go_enter Try.func15, Try.ntmps15
    go_wp2_with (go_at_call 18; refine (may_yes _ _ hk1 hk2).mono ?_; rintro e w' ⟨rfl, rfl⟩)
    go_ret
    exact ⟨rfl, Fr.refl _ _⟩
theorem rraise_yes (X : Nat → Prop) (b : Nat) (k : Int) (q : List Int) (most : Int) (w : World) (hX : ∀ g, X g → g < w.heap.size) (h : Rai X q most b w) (hk1 : 1 ≤ k) (hk2 : k ≤ 1048576) (hk3 : most < k) (hq : q.length < 4) : Calls Try.prog 15 #[.pointer (some ⟨b, 0, none⟩), .int .i64 k] w fun e w' => e = .returned (.bool true) ∧ Rai X (q ++ [k]) k b w' ∧ Fr (justOf b) w w' := by
  have hbw := h.lt
  obtain ⟨A, c, room, hb, hs, hc1, hc2, hc3, hc4⟩ := h
  have c2 : w.cell? ⟨b, 2, none⟩ = some (.int .i64 most) := (hb.cell 2).trans rfl
  have c0 : w.cell? ⟨b, 0, none⟩ = some (.int .i64 room) := (hb.cell 0).trans rfl
  have f0 := hb.frozen 0
  have f2 := hb.frozen 2
  have HB := Lib.hid (hb.set_ 0 (.int .i64 4))
  have HS := Lib.hid hs
  have HZ := Lib.hid hc2
  have HX := Lib.hid hX
  have hsep := hc3
  clear hb hs hc2 hc3 hc4 hX
  have HF : Fr (justOf b) w (w.setCell ⟨b, 0, none⟩ (.int .i64 4)) := Fr.put b 0 _ (Fr.refl _ _)
  have hnj : ∀ g o, A = some ⟨g, o, none⟩ → 0 < q.length → ¬ justOf b g := fun g o e _ x => hsep g o e x
  have HS4 := Lib.hid (HS.out.frS HF hnj)
  go_enter Try.func15, Try.ntmps15
  go_wp2_with (first
    | (go_at_call 22; refine (iput_yes b 47 _ A q.length c 4 (intC q) k _ HB.out rfl rfl HS4.out hc1 HZ.out (by omega) (by omega)).mono ?_; rintro e w1 ⟨rfl, g, c', hb1, hw1, hs1, hc1', hg, hgn⟩; have d2 : w1.cell? ⟨b, 2, none⟩ = some (.int .i64 most) := (hb1.cell 2).trans rfl; have e2 := hb1.frozen 2)
    | (go_at_call 18; refine (may_yes _ _ hk1 hk2).mono ?_; rintro e w' ⟨rfl, rfl⟩))
  go_ret
  have hf3 : Fr (justOf b) w (w1.setCell ⟨b, 2, none⟩ (.int .i64 k)) := Fr.put b _ _ (HF.trans hw1)
  refine ⟨rfl, ⟨some ⟨g, 0, none⟩, c', 4, ?_, ?_, ?_, fun h => (nomatch h), fun g' o' e => by cases e; exact hg, fun g' o' e _ x => ?_⟩, hf3⟩
  · rw [List.length_append]; exact hb1.set_ 2 _
  · rw [List.length_append, intC_snoc]
    exact hs1.frS (S := justOf b) (Fr.put b _ _ (Fr.refl _ _)) (fun g' o' e _ h => by cases e; exact hg h)
  · rw [List.length_append]; exact hc1'
  · cases e
    have h1 := HX.out _ x
    have h2 := HF.size
    omega
theorem rack_yes (X : Nat → Prop) (b : Nat) (x : Int) (q : List Int) (most : Int) (w : World) (h : Rai X (x :: q) most b w) : Calls Try.prog 17 #[.pointer (some ⟨b, 0, none⟩), .int .i64 x] w fun e w' => e = .returned (.bool true) ∧ Rai X q most b w' ∧ Fr (justOf b) w w' := by
  have hbw := h.lt
  have H := Lib.hid h
  clear h
  go_enter Try.func17, Try.ntmps17
  go_wp2_with (go_at_call 16; refine (rhead_some X b x q most _ H.out).mono ?_; rintro e w1 ⟨rfl, hw1⟩)
  obtain ⟨A, c, room, hb, hs, hc1, hc2, hc3, hc4⟩ := H.out
  have HB := Lib.hid (hb.fr0 hw1)
  have HS := Lib.hid (hs.fr hw1)
  have H3 := Lib.hid hc3
  have H4 := Lib.hid hc4
  clear hb hs hc2 hc3 hc4
  go_wp2_with (go_at_call 23; refine (itake_some b 47 _ A q.length c x (intC q) _ HB.out rfl HS.out H3.out hc1).mono ?_; rintro e w2 ⟨rfl, A', hb1, hw2, hs1, hn1, hA1, hA2⟩)
  go_ret
  refine ⟨rfl, ⟨A', c - 1, room, hb1, hs1, ?_, fun h => absurd h hn1, hA1, fun g o e hl hx => ?_⟩, (Fr.of0 _ hw1).trans hw2⟩
  · simp at hc1
    omega
  · obtain ⟨o', e'⟩ := hA2 g o e
    exact H4.out g o' e' (by simp) hx
end Go.Proofs.Ytmopieejfbiedaa
