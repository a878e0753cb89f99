/-
  What HandsOnce's rounds keep of memory: the table, what was raised, the hands that went.
-/
import Derived.Test.YtmopieejfbiedaaList
import Derived.Test.YtmopieejfbiedaaOpHand
import Derived.Test.YtmopieejfbiedaaLaw21
import Derived.Test.YtmopieejfbiedaaOnceP
namespace Go.Proofs.Ytmopieejfbiedaa
open Go.RowKit
set_option linter.unusedVariables false

/-- What was raised, as cells: four rows of sixteen. -/
def rC (f : Nat → Bool) : Array Value := ((List.range 64).map fun i => Value.bool (f i)).toArray
def upd (f : Nat → Bool) (k : Nat) : Nat → Bool := fun i => if i = k then true else f i
theorem rC_set (f : Nat → Bool) (k : Nat) : (rC f).setIfInBounds k (.bool true) = rC (upd f k) := by
  simp only [rC, List.setIfInBounds_toArray]
  congr 1
  apply List.ext_getElem
  · simp
  · intro i h1 h2
    simp only [List.length_set, List.length_map, List.length_range] at h1
    rw [List.getElem_set]
    simp only [List.getElem_map, List.getElem_range, upd]
    by_cases e : k = i
    · rw [if_pos e, if_pos e.symm]
    · rw [if_neg e, if_neg (fun z => e z.symm)]
theorem rC_at (f : Nat → Bool) (k : Nat) (h : k < 64) : (rC f)[k]? = some (.bool (f k)) := by
  simp [rC, h]
def wasR (f : Nat → Bool) (v k : Nat) : Prop := f (v * 16 + k) = true
theorem wasR_upd {f : Nat → Bool} {j v k : Nat} (h : wasR f v k) : wasR (upd f j) v k := by
  unfold wasR upd at *
  split
  · rfl
  · exact h

def sepO (R : Nat) (v : Value) : Nat → Prop := fun g => g = R ∨ v.ownBlock = some g
def two (b R : Nat) : Nat → Prop := fun g => g = b ∨ g = R
structure OSt (w0 : World) (b R room : Nat) (f g : Nat → Bool) (v : Value) (gone L : List (Int × Int)) (most : List Int) (wr : World) : Prop where
  once : Once (gone ++ L) most (wasR g)
  tab : TabX (sepO R v) room L most b wr
  blk : Blk wr R 34 (rC f)
  own : wr.ownsRow w0.heap.size 27 2 v gone.length (handsV gone)
  fr : Fr (two b R) w0 wr
  ne : b ≠ R
  lb : b < w0.heap.size
  lR : R < w0.heap.size
  room : L.length ≤ room

variable {w0 : World} {b R room : Nat} {f g : Nat → Bool} {v : Value} {gone L : List (Int × Int)} {most : List Int} {wr w' : World}
theorem TabX.any {X Y : Nat → Prop} {room : Nat} {most : List Int} {b : Nat} {w : World} (h : TabX X room [] most b w) : TabX Y room [] most b w := by
  obtain ⟨A, c, h1, h2, h3, h4, h5, h6, h7, _⟩ := h
  exact ⟨A, c, h1, h2, h3, h4, h5, h6, h7, fun _ _ _ h => by simp at h⟩
theorem OSt.pick (h : OSt w0 b R room f f v gone L most wr) {j : Nat} {all : List (Int × Int)} (ha : all = gone ++ L) (hj : j < all.length) : ∃ a e : Nat, all[j]? = some ((a : Int), (e : Int)) ∧ a ≤ 3 ∧ 1 ≤ e ∧ e ≤ 15 ∧ f (a * 16 + e) = true := by
  subst ha
  have hx : (gone ++ L)[j]? = some ((gone ++ L)[j]) := List.getElem?_eq_getElem hj
  have hl := h.once.low _ (List.mem_of_getElem? hx)
  refine ⟨((gone ++ L)[j]).1.toNat, ((gone ++ L)[j]).2.toNat, ?_, by omega, by omega, by omega, hl.2.2.2.2⟩
  rw [hx]
  congr 1
  exact Prod.ext (by simp; omega) (by simp; omega)
theorem OSt.own_ge (h : OSt w0 b R room f g v gone L most wr) {x : Nat} (hx : v.ownBlock = some x) : w0.heap.size ≤ x ∧ x < wr.heap.size := h.own.lt x hx
theorem OSt.nb (h : OSt w0 b R room f g v gone L most wr) : ¬ sepO R v b := by
  rintro (e | e)
  · exact h.ne e
  · have := (h.own_ge e).1; have := h.lb; omega
theorem OSt.sep_lt (h : OSt w0 b R room f g v gone L most wr) : ∀ x, sepO R v x → x < wr.heap.size := by
  rintro x (e | e)
  · subst e; have := h.lR; have := h.fr.size; omega
  · exact (h.own_ge e).2
theorem OSt.nR (h : OSt w0 b R room f g v gone L most wr) : ∀ x, v.ownBlock = some x → R ≠ x := by
  rintro x e rfl
  have := (h.own_ge e).1
  have := h.lR
  omega
theorem ownsRow_frS {S : Nat → Prop} {base : Nat} {e : TypeId} {size n : Nat} {xs : List Value} (h : wr.ownsRow base e size v n xs) (hf : Fr S wr w') (hs : ∀ x, v.ownBlock = some x → ¬ S x) : w'.ownsRow base e size v n xs := by
  rcases h with ⟨h1, ⟨h2, h3⟩ | ⟨g, cap, cur, rfl, hb, hh, h4, h5⟩⟩
  · exact ⟨h1, .inl ⟨h2, h3⟩⟩
  · refine ⟨h1, .inr ⟨g, cap, cur, rfl, hb, ?_, h4, h5⟩⟩
    have hg : g < wr.heap.size := by
      by_cases hg : g < wr.heap.size
      · exact hg
      · rw [Array.getElem?_eq_none (by omega)] at hh; cases hh
    exact (hf.block g hg (hs g rfl)).trans hh
theorem OSt.fr0 (h : OSt w0 b R room f g v gone L most wr) (hf : Fr noneOf wr w') : OSt w0 b R room f g v gone L most w' :=
  ⟨h.once, h.tab.fr hf (fun _ x => x.elim) h.nb, h.blk.fr0 hf, ownsRow_frS h.own hf (fun _ _ x => x), h.fr.trans (Fr.of0 _ hf), h.ne, h.lb, h.lR, h.room⟩
/-- A hand is raised: whatever comes of it. -/
theorem OSt.traise (h : OSt w0 b R room f f v gone L most wr) (nv nk : Nat) (hv : nv ≤ 3) (hk : nk ≤ 15) :
    Calls Try.prog 9 #[.pointer (some ⟨b, 0, none⟩), .agg #[.int .i64 nv, .int .i64 nk]] wr fun e w' => ∃ r L' most', e = .returned (.bool r) ∧ OSt w0 b R room f (upd f (nv * 16 + nk)) v gone L' most' w' ∧ Fr (justOf b) wr w' := by
  have hR : wasR (upd f (nv * 16 + nk)) nv nk := by unfold wasR upd; rw [if_pos rfl]
  have hmore := h.once.more (S := wasR (upd f (nv * 16 + nk))) (fun _ _ x => wasR_upd x)
  obtain ⟨m, hm⟩ : ∃ m, most[nv]? = some m := ⟨most[nv]'(by rw [h.once.len]; omega), List.getElem?_eq_getElem _⟩
  have stay : ∀ w', Fr noneOf wr w' → OSt w0 b R room f (upd f (nv * 16 + nk)) v gone L most w' := fun w' hf => by
    have q := h.fr0 hf
    exact ⟨hmore, q.tab, q.blk, q.own, q.fr, q.ne, q.lb, q.lR, q.room⟩
  by_cases hk0 : nk < 1
  · refine (raise_bad b nv nk wr (by omega)).mono ?_
    rintro e w' ⟨rfl, hf⟩
    exact ⟨_, _, _, rfl, stay _ hf, Fr.of0 _ hf⟩
  · by_cases hkm : (nk : Int) ≤ m
    · refine (raise_old b room L most nv nk m wr h.tab.tab (by omega) hm (by omega) (by omega) hkm).mono ?_
      rintro e w' ⟨rfl, hf⟩
      exact ⟨_, _, _, rfl, stay _ hf, Fr.of0 _ hf⟩
    · by_cases hrm : L.length < room
      · refine (raise_newX (sepO R v) b room L most nv nk m wr h.sep_lt h.tab (by omega) hm (by omega) (by omega) (by omega) hrm).mono ?_
        rintro e w' ⟨rfl, ht, hf⟩
        refine ⟨_, _, _, rfl, ⟨?_, ht, h.blk.fr hf (fun x => h.ne (Eq.symm x)), ownsRow_frS h.own hf (fun x hx y => ?_), h.fr.trans' hf (fun x _ hx => .inl hx), h.ne, h.lb, h.lR, by simp; omega⟩, hf⟩
        · rw [← List.append_assoc]
          exact hmore.raise nv nk m hv hk (by omega) hm (by omega) hR
        · have := (h.own_ge hx).1
          have := h.lb
          have : x = b := y
          omega
      · refine (raise_full b room L most nv nk m wr h.tab.tab (by omega) hm (by omega) (by omega) (by omega) (by omega)).mono ?_
        rintro e w' ⟨rfl, hf⟩
        exact ⟨_, _, _, rfl, stay _ hf, Fr.of0 _ hf⟩
/-- .. and marked. -/
theorem OSt.marked {k : Nat} (h : OSt w0 b R room f (upd f k) v gone L most wr) (hf : w' = wr.setCell ⟨R, k, none⟩ (.bool true)) : OSt w0 b R room (upd f k) (upd f k) v gone L most w' := by
  subst hf
  have hfr : Fr (justOf R) wr (wr.setCell ⟨R, k, none⟩ (.bool true)) := Fr.put R k _ (Fr.refl _ _)
  refine ⟨h.once, h.tab.fr hfr (fun x hx => .inl hx) h.nb, ?_, ownsRow_frS h.own hfr (fun x hx y => h.nR x hx (Eq.symm y)), h.fr.trans' hfr (fun x _ hx => .inr hx), h.ne, h.lb, h.lR, h.room⟩
  have := h.blk.set_ k (.bool true)
  rw [rC_set] at this
  exact this
/-- The first one went. -/
theorem OSt.went {x y : Int} (h : OSt w0 b R room f f v gone ((x, y) :: L) most wr) {w1 w2 w3 : World} {v' : Value} (hf1 : Fr (justOf b) wr w1) (ht : TabX (sepO R v) room L most b w1) (hf2 : Fr noneOf w1 w2)
    (hg : w2.grownBy w3 v.ownBlock) (hv : v'.ownBlock = v.ownBlock ∨ v'.ownBlock = some w2.heap.size) (hown : w3.ownsRow w0.heap.size 27 2 v' (gone.length + 1) (handsV gone ++ [.int .i64 x, .int .i64 y])) :
    OSt w0 b R room f f v' (gone ++ [(x, y)]) L most w3 := by
  have hf3 : Fr (fun x => v.ownBlock = some x) w2 w3 := Fr.of_grown hg (fun x hx => .inl hx)
  have t2 : TabX (sepO R v) room L most b w2 := ht.fr hf2 (fun _ x => x.elim) h.nb
  have h2 : ∀ {g : Nat}, g < w2.heap.size → v'.ownBlock = some g → v.ownBlock = some g := by
    intro g hg e
    rcases hv with hv | hv
    · rw [← hv]; exact e
    · rw [hv] at e; cases e; omega
  have t3' : TabX (sepO R v') room L most b w3 := by
    have q := t2.mono (Y := fun x => sepO R v x ∨ sepO R v' x) (by
      rintro x hx (y | y | y)
      · exact y
      · exact .inl y
      · exact .inr (h2 hx y))
    refine (q.fr hf3 (fun x hx => .inl (.inr hx)) ?_).mono (fun x _ hx => .inr hx)
    rintro (y | y | y)
    · exact h.nb y
    · exact h.ne y
    · exact h.nb (.inr (h2 t2.lt y))
  refine ⟨by simpa using h.once, t3', ?_, ?_, ?_, h.ne, h.lb, h.lR, by have := h.room; simp at this; omega⟩
  · exact ((h.blk.fr hf1 (fun x => h.ne (Eq.symm x))).fr0 hf2).fr hf3 (fun e => h.nR R e rfl)
  · rw [List.length_append, handsV_snoc]; exact hown
  · refine ((h.fr.trans' hf1 (fun x _ hx => .inl hx)).trans (Fr.of0 _ hf2)).trans' hf3 (fun x hx e => ?_)
    have := (h.own_ge e).1
    omega
theorem handsV_app (a c : List (Int × Int)) : handsV (a ++ c) = handsV a ++ handsV c := by simp [handsV]
theorem two_sl (w : World) (x y : Int) (t : TypeId) : Sl (w.alloc (.cells #[.int .i64 x, .int .i64 y] t)) (some ⟨w.heap.size, 0, none⟩) 1 2 [.int .i64 x, .int .i64 y] := by
  refine ⟨rfl, fun _ => ⟨_, _, rfl, by simp, fun j u hj => ?_⟩⟩
  match j, hj with
  | 0, hj => simp at hj; subst hj; simp
  | 1, hj => simp at hj; subst hj; simp
theorem two_sl1 (w : World) (x y : Int) (t t' : TypeId) : Sl ((w.alloc (.cells #[.int .i64 x, .int .i64 y] t)).alloc (.cells #[.int .i64 x, .int .i64 y] t')) (some ⟨w.heap.size + 1, 0, none⟩) 1 2 [.int .i64 x, .int .i64 y] := by
  have := two_sl (w.alloc (.cells #[.int .i64 x, .int .i64 y] t)) x y t'
  rw [World.size_alloc] at this
  exact this
end Go.Proofs.Ytmopieejfbiedaa
