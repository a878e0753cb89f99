/-
  What HandsReach's rounds keep of memory: the table, the raiser, the numbers raised.
-/
import Derived.Test.YtmopieejfbiedaaRaiser
import Derived.Test.YtmopieejfbiedaaReachP
import Derived.Test.YtmopieejfbiedaaList
import Derived.Test.YtmopieejfbiedaaOpHand
import Derived.Test.YtmopieejfbiedaaLaw21
namespace Go.Proofs.Ytmopieejfbiedaa
open Go.RowKit
set_option linter.unusedVariables false

def sepT (rb : Nat) (v : Value) : Nat → Prop := fun g => g = rb ∨ v.ownBlock = some g
def sepR (b : Nat) (v : Value) : Nat → Prop := fun g => g = b ∨ v.ownBlock = some g
def two (b rb : Nat) : Nat → Prop := fun g => g = b ∨ g = rb

structure RSt (w0 : World) (b rb N : Nat) (v : Value) (k g d : Nat) (want : List Int) (wr : World) : Prop where
  wt : Want want k
  kN : k ≤ N
  dg : d ≤ g
  gd : g ≤ d + 1
  gw : g ≤ want.length
  w4 : want.length ≤ d + 4
  tab : ∃ most, TabX (sepT rb v) 12 (sent (want.take g)) most b wr ∧ most[2]? = some (lastD (want.take g))
  rai : Rai (sepR b v) (want.drop d) (lastD want) rb wr
  own : wr.ownsRow w0.heap.size 3 1 v want.length (intC want)
  fr : Fr (two b rb) w0 wr
  ne : b ≠ rb
  lb : b < w0.heap.size
  lr : rb < w0.heap.size

variable {w0 : World} {b rb N : Nat} {v : Value} {k g d : Nat} {want : List Int} {wr w' : World}
theorem TabX.any {X Y : Nat → Prop} {room : Nat} {most : List Int} {b : Nat} {w : World} (h : TabX X room [] most b w) : TabX Y room [] most b w := by
  obtain ⟨A, c, h1, h2, h3, h4, h5, h6, h7, _⟩ := h
  exact ⟨A, c, h1, h2, h3, h4, h5, h6, h7, fun _ _ _ h => by simp at h⟩
theorem RSt.own_ge (h : RSt w0 b rb N v k g d want wr) {x : Nat} (hx : v.ownBlock = some x) : w0.heap.size ≤ x ∧ x < wr.heap.size := h.own.lt x hx
theorem RSt.nb (h : RSt w0 b rb N v k g d want wr) : ¬ sepT rb v b := by
  rintro (e | e)
  · exact h.ne e
  · have := (h.own_ge e).1; have := h.lb; omega
theorem RSt.nr (h : RSt w0 b rb N v k g d want wr) : ¬ sepR b v rb := by
  rintro (e | e)
  · exact h.ne e.symm
  · have := (h.own_ge e).1; have := h.lr; omega
theorem RSt.sep_lt (h : RSt w0 b rb N v k g d want wr) : ∀ x, sepR b v x → x < wr.heap.size := by
  rintro x (e | e)
  · subst e; have := h.lb; have := h.fr.size; omega
  · exact (h.own_ge e).2
theorem RSt.sepT_lt (h : RSt w0 b rb N v k g d want wr) : ∀ x, sepT rb v x → x < wr.heap.size := by
  rintro x (e | e)
  · subst e; have := h.lr; have := h.fr.size; omega
  · exact (h.own_ge e).2
theorem ownsRow_frS {S : Nat → Prop} {base : Nat} {e : TypeId} {size n : Nat} {xs : List Value} (h : wr.ownsRow base e size v n xs) (hf : Fr S wr w') (hs : ∀ x, v.ownBlock = some x → ¬ S x) : w'.ownsRow base e size v n xs := by
  rcases h with ⟨h1, ⟨h2, h3⟩ | ⟨g, cap, cur, rfl, hb, hh, h4, h5⟩⟩
  · exact ⟨h1, .inl ⟨h2, h3⟩⟩
  · refine ⟨h1, .inr ⟨g, cap, cur, rfl, hb, ?_, h4, h5⟩⟩
    have hg : g < wr.heap.size := by
      by_cases hg : g < wr.heap.size
      · exact hg
      · rw [Array.getElem?_eq_none (by omega)] at hh; cases hh
    exact (hf.block g hg (hs g rfl)).trans hh
/-- Nothing older turned. -/
theorem RSt.fr0 (h : RSt w0 b rb N v k g d want wr) (hf : Fr noneOf wr w') : RSt w0 b rb N v k g d want w' := by
  obtain ⟨most, ht, hm⟩ := h.tab
  exact ⟨h.wt, h.kN, h.dg, h.gd, h.gw, h.w4, ⟨most, ht.fr hf (fun _ x => x.elim) h.nb, hm⟩, h.rai.fr hf (fun _ x => x.elim) h.nr, ownsRow_frS h.own hf (fun _ _ x => x), h.fr.trans (Fr.of0 _ hf), h.ne, h.lb, h.lr⟩
theorem RSt.skip (h : RSt w0 b rb N v k g d want wr) (hk : k < N) : RSt w0 b rb N v (k + 1) g d want wr :=
  ⟨h.wt.more, by omega, h.dg, h.gd, h.gw, h.w4, h.tab, h.rai, h.own, h.fr, h.ne, h.lb, h.lr⟩
theorem RSt.raise (h : RSt w0 b rb N v k g d want wr) (hk : k < N) {n : Int} (hn0 : 1 ≤ n) (hn1 : n ≤ 63) (hn2 : lastD want < n) (hw : want.length < d + 4)
    {w1 w2 w3 : World} (hf1 : Fr (justOf rb) wr w1) (hr : Rai (sepR b v) (want.drop d ++ [n]) n rb w1) (hf2 : Fr noneOf w1 w2) {v' : Value} (hg : w2.grownBy w3 v.ownBlock)
    (hv : v'.ownBlock = v.ownBlock ∨ v'.ownBlock = some w2.heap.size) (hown : w3.ownsRow w0.heap.size 3 1 v' (want.length + 1) (intC want ++ [.int .i64 n])) : RSt w0 b rb N v' (k + 1) g d (want ++ [n]) w3 := by
  obtain ⟨most, ht, hm⟩ := h.tab
  have hf3 : Fr (fun x => v.ownBlock = some x) w2 w3 := Fr.of_grown hg (fun x hx => .inl hx)
  have hs12 := hf2.size
  have hs01 := hf1.size
  have hs23 := hf3.size
  have mid : ∀ {T : Nat → Prop} {o : Nat}, True := trivial
  have t1 : TabX (sepT rb v) 12 (sent (want.take g)) most b w1 := ht.fr hf1 (fun x hx => .inl hx) h.nb
  have t2 : TabX (sepT rb v) 12 (sent (want.take g)) most b w2 := t1.fr hf2 (fun _ x => x.elim) h.nb
  have t3 : TabX (sepT rb v) 12 (sent (want.take g)) most b w3 := t2.fr hf3 (fun x hx => .inr hx) h.nb
  have r2 : Rai (sepR b v) (want.drop d ++ [n]) n rb w2 := hr.fr hf2 (fun _ x => x.elim) h.nr
  have r3 : Rai (sepR b v) (want.drop d ++ [n]) n rb w3 := r2.fr hf3 (fun x hx => .inr hx) h.nr
  have h2 : ∀ {g : Nat}, g < w2.heap.size → v'.ownBlock = some g → v.ownBlock = some g := by
    intro g hg e
    rcases hv with hv | hv
    · rw [← hv]; exact e
    · rw [hv] at e; cases e; omega
  have t3' : TabX (sepT rb v') 12 (sent (want.take g)) most b w3 := by
    have q := t2.mono (Y := fun x => sepT rb v x ∨ sepT rb v' x) (by
      rintro x hx (y | y | y)
      · exact y
      · exact .inl y
      · exact .inr (h2 hx y))
    refine (q.fr hf3 (fun x hx => .inl (.inr hx)) ?_).mono (fun x _ hx => .inr hx)
    rintro (y | y | y)
    · exact h.nb y
    · exact h.ne y
    · exact h.nb (.inr (h2 t2.lt y))
  have r3' : Rai (sepR b v') (want.drop d ++ [n]) n rb w3 := by
    have q := r2.mono (Y := fun x => sepR b v x ∨ sepR b v' x) (by
      rintro x hx (y | y | y)
      · exact y
      · exact .inl y
      · exact .inr (h2 hx y))
    refine (q.fr hf3 (fun x hx => .inl (.inr hx)) ?_).mono (fun x _ hx => .inr hx)
    rintro (y | y | y)
    · exact h.nr y
    · exact h.ne y.symm
    · exact h.nr (.inr (h2 r2.lt y))
  have hgw := h.gw
  have hdg := h.dg
  refine ⟨h.wt.snoc hn0 hn1 hn2, by omega, h.dg, h.gd, by simp; omega, by simp; omega, ⟨most, ?_, ?_⟩, ?_, ?_, ?_, h.ne, h.lb, h.lr⟩
  · rw [List.take_append_of_le_length hgw]; exact t3'
  · rw [List.take_append_of_le_length hgw]; exact hm
  · rw [List.drop_append_of_le_length (by omega), lastD_snoc]; exact r3'
  · rw [List.length_append, intC_snoc]; exact hown
  · refine ((h.fr.trans' hf1 (fun x _ hx => .inr hx)).trans (Fr.of0 _ hf2)).trans' hf3 (fun x hx e => ?_)
    have := (h.own_ge e).1
    omega
theorem RSt.take_new (h : RSt w0 b rb N v k g d want wr) (hgd : g = d) {x : Int} (hx : want[d]? = some x) (hN : N ≤ 12) : ∃ most m, TabX (sepT rb v) 12 (sent (want.take g)) most b wr ∧ most[2]? = some m ∧ m < x ∧ 1 ≤ x ∧ x ≤ 63 ∧ (sent (want.take g)).length < 12 := by
  obtain ⟨most, ht, hm⟩ := h.tab
  have hlow := h.wt.low x (List.mem_of_getElem? hx)
  have hlt := h.wt.take_lt hx
  have hd := (List.getElem?_eq_some_iff.1 hx).1
  have := h.wt.le
  have := h.kN
  refine ⟨most, _, ht, hm, by rw [hgd]; exact hlt, by omega, by omega, ?_⟩
  rw [sent_len, List.length_take]
  omega
theorem RSt.took (h : RSt w0 b rb N v k g d want wr) (hgd : g = d) {x : Int} (hx : want[d]? = some x) {most : List Int} (hm16 : most.length = 16) {w1 w2 : World} (hf1 : Fr noneOf wr w1) (hf : Fr (justOf b) w1 w2)
    (ht : TabX (sepT rb v) 12 (sent (want.take g) ++ [(((2 : Nat) : Int), x)]) (most.set 2 x) b w2) : RSt w0 b rb N v k (d + 1) d want w2 := by
  have hd := (List.getElem?_eq_some_iff.1 hx).1
  refine ⟨h.wt, h.kN, by omega, by omega, by omega, h.w4, ⟨most.set 2 x, ?_, ?_⟩, ?_, ?_, ?_, h.ne, h.lb, h.lr⟩
  · rw [take_snoc hx, sent_snoc, ← hgd]; exact ht
  · rw [lastD_take hx, List.getElem?_set_self (by omega)]
  · exact (h.rai.fr hf1 (fun _ x => x.elim) h.nr).fr hf (fun x hx => .inl hx) h.nr
  · refine ownsRow_frS (ownsRow_frS h.own hf1 (fun _ _ x => x)) hf (fun x hx y => ?_)
    have := (h.own_ge hx).1
    have := h.lb
    have : x = b := y
    omega
  · exact (h.fr.trans (Fr.of0 _ hf1)).trans' hf (fun x _ hx => .inl hx)
theorem RSt.acked (h : RSt w0 b rb N v k (d + 1) d want wr) {x : Int} (hx : want[d]? = some x) {w1 : World} (hf : Fr (justOf rb) wr w1) (hr : Rai (sepR b v) (want.drop (d + 1)) (lastD want) rb w1) : RSt w0 b rb N v k (d + 1) (d + 1) want w1 := by
  obtain ⟨most, ht, hm⟩ := h.tab
  have hw4 := h.w4
  refine ⟨h.wt, h.kN, by omega, by omega, h.gw, by omega, ⟨most, ht.fr hf (fun x hx => .inl hx) h.nb, hm⟩, hr, ?_, ?_, h.ne, h.lb, h.lr⟩
  · refine ownsRow_frS h.own hf (fun x hx y => ?_)
    have := (h.own_ge hx).1
    have := h.lr
    have : x = rb := y
    omega
  · exact h.fr.trans' hf (fun x _ hx => .inr hx)
theorem RSt.traise (h : RSt w0 b rb N v k g d want wr) {x : Int} (hx : want[d]? = some x) (hN : N ≤ 12) :
    Calls Try.prog 9 #[.pointer (some ⟨b, 0, none⟩), .agg #[.int .i64 2, .int .i64 x]] wr fun e w' => e = .returned (.bool true) ∧ RSt w0 b rb N v k (d + 1) d want w' := by
  have hlow := h.wt.low x (List.mem_of_getElem? hx)
  by_cases hgd : g = d
  · obtain ⟨most, m, ht, hm, hmx, hx1, hx2, hl⟩ := h.take_new hgd hx hN
    have h16 : most.length = 16 := by
      obtain ⟨_, _, _, _, _, _, _, h16, _⟩ := ht
      exact h16
    refine (raise_newX (sepT rb v) b 12 (sent (want.take g)) most 2 x m wr h.sepT_lt ht (by omega) hm (by omega) (by omega) hmx hl).mono ?_
    rintro e w' ⟨rfl, ht', hf⟩
    exact ⟨rfl, h.took hgd hx h16 (Fr.refl _ _) hf ht'⟩
  · have hg1 : g = d + 1 := by have := h.dg; have := h.gd; omega
    obtain ⟨most, ht, hm⟩ := h.tab
    rw [hg1, lastD_take hx] at hm
    refine (raise_old b 12 _ most 2 x x wr ht.tab (by omega) hm (by omega) (by omega) (Int.le_refl _)).mono ?_
    rintro e w' ⟨rfl, hf⟩
    exact ⟨rfl, by rw [← hg1]; exact h.fr0 hf⟩
theorem RSt.rack (h : RSt w0 b rb N v k (d + 1) d want wr) {x : Int} (hx : want[d]? = some x) :
    Calls Try.prog 17 #[.pointer (some ⟨rb, 0, none⟩), .int .i64 x] wr fun e w' => e = .returned (.bool true) ∧ RSt w0 b rb N v k (d + 1) (d + 1) want w' := by
  have hr := h.rai
  rw [drop_at hx] at hr
  refine (rack_yes _ rb x _ _ wr hr).mono ?_
  rintro e w' ⟨rfl, hr', hf⟩
  exact ⟨rfl, h.acked hx hf hr'⟩
theorem RSt.left28 (h : RSt w0 b rb N v k g d want wr) (hN : N ≤ 12) : left N k want.length d ≤ 28 := by
  have := h.w4
  unfold left
  omega
theorem addr0 (g j : Nat) : (⟨g, 0, none⟩ : Addr).add j = ⟨g, j, none⟩ := by unfold Addr.add; split <;> simp_all
theorem one_sl (w : World) (n : Int) (t : TypeId) : Sl (w.alloc (.cells #[.int .i64 n] t)) (some ⟨w.heap.size, 0, none⟩) 1 1 [.int .i64 n] := by
  refine ⟨rfl, fun _ => ⟨_, _, rfl, by simp, fun j u hj => ?_⟩⟩
  have := int_new w n w.heap.size rfl t j u hj
  simpa [addr0] using this
/-- The last of a row of numbers. -/
theorem last_cell {A : Option Addr} {w : World} {l : List Int} (h : Sl w A l.length 1 (intC l)) (hl : 0 < l.length) : ∃ g o, A = some ⟨g, o, none⟩ ∧ g < w.heap.size ∧ w.cell? ⟨g, o + (l.length - 1), none⟩ = some (.int .i64 (lastD l)) := by
  obtain ⟨g, o, e, hg, hc⟩ := h.2 hl
  refine ⟨g, o, e, hg, hc _ _ ?_⟩
  simp [intC, lastD_at l hl]
end Go.Proofs.Ytmopieejfbiedaa
