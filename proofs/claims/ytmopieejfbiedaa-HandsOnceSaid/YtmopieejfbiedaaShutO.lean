/-
  An argument that is a slice of steps (an int, a hand, a bool: four cells), opened to what it holds.
  Conditions: none.
-/
import Derived.Test.YtmopieejfbiedaaShut
import Derived.Test.YtmopieejfbiedaaSlice
import Derived.Deep.Slices
namespace Go.Proofs.Ytmopieejfbiedaa
open Go.ChangeShapes Go.WideShapes Go.ChangeAt Go.RowKit Go.Joins Go.Deep
set_option linter.unusedVariables false

/-- A step's cells. -/
def opV (x : Int × Int × Int × Bool) : List Value := [.int .i64 x.1, .int .i64 x.2.1, .int .i64 x.2.2.1, .bool x.2.2.2]
theorem split4 (L : List Value) (h : L.length = 4) : L = L.take 1 ++ (((L.drop 1).take 2) ++ ((L.drop 3).take 1)) := by
  match L, h with
  | [_, _, _, _], _ => rfl
theorem split2 (L : List Value) (h : L.length = 2) : L = L.take 1 ++ ((L.drop 1).take 1) := by
  match L, h with
  | [_, _], _ => rfl
theorem trod_op {H : Type} {enc : TypeId × Value → H} {P : Program} {W : World} {base : Nat} {sp : Nat → Bool} {held : Bool} {t : TypeId} {f0 f1 f2 g0 g1 : Field} {fuel : Nat} {cs : List Value} {x : DataW H × List MemPlace}
    (hs : P.underlying t = some (.struct #[f0, f1, f2])) (ho : f0.offset = 0 ∧ f1.offset = 1 ∧ f2.offset = 3) (hk : P.cellsOf f0.type = 1 ∧ P.cellsOf f1.type = 2 ∧ P.cellsOf f2.type = 1)
    (h0 : P.underlying f0.type = some (.int .i64)) (h1 : P.underlying f1.type = some (.struct #[g0, g1])) (h2 : P.underlying f2.type = some .bool) (hg : g0.offset = 0 ∧ g1.offset = 1 ∧ P.cellsOf g0.type = 1 ∧ P.cellsOf g1.type = 1)
    (k0 : P.underlying g0.type = some (.int .i64)) (k1 : P.underlying g1.type = some (.int .i64)) (hl : cs.length = 4)
    (h : DataW.trod enc P W base sp held fuel t cs = some x) : ∃ y, cs = opV y := by
  obtain ⟨y0, y1, y2, n, _, _, t0, t1, t2⟩ := trod_struct3 hs h
  obtain ⟨o0, o1, o2⟩ := ho
  obtain ⟨c0, c1, c2⟩ := hk
  obtain ⟨p0, p1, q0, q1⟩ := hg
  rw [o0, c0] at t0
  rw [o1, c1] at t1
  rw [o2, c2] at t2
  obtain ⟨a, e0, _, _⟩ := DataW.trod_int h0 t0
  obtain ⟨z0, z1, m, _, _, u0, u1⟩ := trod_struct2 h1 t1
  rw [p0, q0] at u0
  rw [p1, q1] at u1
  obtain ⟨b, e1, _, _⟩ := DataW.trod_int k0 u0
  obtain ⟨c, e2, _, _⟩ := DataW.trod_int k1 u1
  obtain ⟨d, e3, _⟩ := DataW.trod_bool h2 t2
  refine ⟨(a, b, c, d), ?_⟩
  have s2 := split2 ((cs.drop 1).take 2) (by simp; omega)
  have s4 := split4 cs hl
  rw [List.drop_zero] at e0 e1
  rw [e1, e2] at s2
  rw [e0, s2, e3] at s4
  exact s4
theorem list_of {p : Nat → (Int × Int × Int × Bool) → Prop} : ∀ n, (∀ i, i < n → ∃ y, p i y) → ∃ l : List (Int × Int × Int × Bool), l.length = n ∧ ∀ i y, l[i]? = some y → p i y
  | 0, _ => ⟨[], rfl, fun i y h => by simp at h⟩
  | n + 1, h => by
    obtain ⟨l, hl, hp⟩ := list_of n (fun i hi => h i (by omega))
    obtain ⟨y, hy⟩ := h n (by omega)
    refine ⟨l ++ [y], by simp [hl], fun i z hz => ?_⟩
    by_cases hi : i < n
    · rw [List.getElem?_append_left (by omega)] at hz
      exact hp i z hz
    · have hb := (List.getElem?_eq_some_iff.1 hz).1
      simp at hb
      have : i = n := by omega
      subst this
      rw [List.getElem?_append_right (by omega)] at hz
      simp [hl] at hz
      subst hz
      exact hy
theorem open_ops0 {H : Type} {enc : TypeId × Value → H} {P : Program} {W : World} {base b0 : Nat} {sp : Nat → Bool} {held : Bool} {r : Reach} {t e : TypeId} {f0 f1 f2 g0 g1 : Field} {v : Value} {d : DataW H} {ps : List MemPlace}
    (ht : P.underlying t = some (.slice e)) (hs : P.underlying e = some (.struct #[f0, f1, f2])) (hce : P.cellsOf e = 4) (ho : f0.offset = 0 ∧ f1.offset = 1 ∧ f2.offset = 3) (hk : P.cellsOf f0.type = 1 ∧ P.cellsOf f1.type = 2 ∧ P.cellsOf f2.type = 1)
    (h0 : P.underlying f0.type = some (.int .i64)) (h1 : P.underlying f1.type = some (.struct #[g0, g1])) (h2 : P.underlying f2.type = some .bool) (hg : g0.offset = 0 ∧ g1.offset = 1 ∧ P.cellsOf g0.type = 1 ∧ P.cellsOf g1.type = 1)
    (k0 : P.underlying g0.type = some (.int .i64)) (k1 : P.underlying g1.type = some (.int .i64))
    (hval : Value.okWide P W r b0 t v) (h : DataW.Trod enc P W base sp held t v d ps) :
    ∃ (A : Option Addr) (c : Nat) (l : List (Int × Int × Int × Bool)), v = .slice A l.length c ∧ l.length ≤ c ∧ c ≤ maxLen ∧ (A = none → c = 0) ∧
      ∀ a, A = some a → ∀ i y, l[i]? = some y → ∀ j u, (opV y)[j]? = some u → W.cell? ((a.add (i * 4)).add j) = some u := by
  obtain ⟨a0, len, cap, rfl⟩ := okWide_slice ht hval
  obtain ⟨fuel, hf⟩ := h
  rcases open_slice ht hf with ⟨hcs, _⟩ | ⟨a, len', cap', m, n, D, Pl, hcs, _, hl, hm, hmm, _, hx⟩
  · simp [Value.cells] at hcs
    obtain ⟨rfl, rfl, rfl⟩ := hcs
    exact ⟨none, 0, [], rfl, by simp, by simp, fun _ => rfl, fun a h => (nomatch h)⟩
  · simp [Value.cells] at hcs
    obtain ⟨rfl, rfl, rfl⟩ := hcs
    have hlm : len ≤ m := by rw [hmm]; split <;> omega
    rw [hce] at hx
    obtain ⟨l, hll, hp⟩ := list_of (p := fun i y => ∀ j u, (opV y)[j]? = some u → W.cell? ((a.add (i * 4)).add j) = some u) len (fun i hi => by
      obtain ⟨cs', q1, q2⟩ := hx i (by omega)
      obtain ⟨_, hlen, hcell⟩ := World.cells?_some q1
      obtain ⟨y, rfl⟩ := trod_op hs ho hk h0 h1 h2 hg k0 k1 hlen q2
      refine ⟨y, fun j u hj => ?_⟩
      have hj4 : j < 4 := by
        have := (List.getElem?_eq_some_iff.1 hj).1
        simp [opV] at this
        omega
      have := hcell j hj4
      rw [this]
      exact hj)
    exact ⟨some a, cap, l, by rw [hll], by omega, hm, fun h => (nomatch h), fun a' ha i y hy => by cases ha; exact hp i y hy⟩
/-- The steps, as a walk reads them. -/
def OpsAt (w : World) (A : Option Addr) (l : List (Int × Int × Int × Bool)) : Prop := 0 < l.length → ∃ g o, A = some ⟨g, o, none⟩ ∧ g < w.heap.size ∧ ∀ i y, l[i]? = some y → ∀ j u, (opV y)[j]? = some u → w.cell? ⟨g, o + i * 4 + j, none⟩ = some u
theorem addr_add (g o j : Nat) : (⟨g, o, none⟩ : Addr).add j = ⟨g, o + j, none⟩ := by unfold Addr.add; split <;> simp_all
theorem opsAt_of {w : World} {A : Option Addr} {c : Nat} {l : List (Int × Int × Int × Bool)} (hl : l.length ≤ c) (hz : A = none → c = 0) (h : ∀ a, A = some a → ∀ i y, l[i]? = some y → ∀ j u, (opV y)[j]? = some u → w.cell? ((a.add (i * 4)).add j) = some u) : OpsAt w A l := by
  intro hp
  cases A with
  | none => have := hz rfl; omega
  | some a =>
    have h0 := h a rfl 0 _ (List.getElem?_eq_getElem hp) 0 _ rfl
    have hadd : (a.add (0 * 4)).add 0 = a := by simp [Addr.add]
    rw [hadd] at h0
    have ha : a = ⟨a.block, a.off, none⟩ := by
      have hs : a.spot = none := by
        cases hsp : a.spot with
        | none => rfl
        | some x =>
          unfold World.cell? at h0
          simp [hsp] at h0
          split at h0 <;> simp_all
      cases a
      simp at hs
      subst hs
      rfl
    refine ⟨a.block, a.off, by rw [← ha], World.block_lt_of_cell? _ _ h0, fun i y hy j u hu => ?_⟩
    have := h a rfl i y hy j u hu
    rw [ha, addr_add, addr_add] at this
    exact this
end Go.Proofs.Ytmopieejfbiedaa
