/-
  Slices as lists, of whatever program: a slice value that reads as a list of cells (nil and empty ones too), and append onto a row of the call's own from such a slice.
  Conditions: sums of lengths within 2^47 bytes.
-/
import Derived.Test.YtblnmghbcgbgdaaDoorBase
import Derived.Maps.AppendAt
import Derived.Laws.AppendOwnNone
namespace Go.Proofs.YtblnmghbcgbgdaaDoor
open Go.RowKit

/-- THE SLICE AT ADDRESS A OF n ELEMENTS, size CELLS EACH, HOLDS THE CELLS xs. -/
def Sl (w : World) (A : Option Addr) (n size : Nat) (xs : List Value) : Prop :=
  xs.length = n * size ∧ (0 < n → ∃ g o, A = some ⟨g, o, none⟩ ∧ g < w.heap.size ∧ ∀ j v, xs[j]? = some v → w.cell? ⟨g, o + j, none⟩ = some v)

namespace Sl
variable {w w' : World} {A : Option Addr} {n size : Nat} {xs : List Value}
theorem empty : Sl w A 0 size [] := ⟨by simp, fun h => absurd h (by omega)⟩
/-- Whatever turns no older block (but those of S, in which it does not lie) leaves it. -/
theorem frS {S : Nat → Prop} (h : Sl w A n size xs) (hf : Fr S w w') (hs : ∀ g o, A = some ⟨g, o, none⟩ → 0 < n → ¬ S g) : Sl w' A n size xs :=
  ⟨h.1, fun hn => by
    obtain ⟨g, o, e, hg, hc⟩ := h.2 hn
    exact ⟨g, o, e, Nat.lt_of_lt_of_le hg hf.size, fun j v hj => (hf.cell (p := ⟨g, o + j, none⟩) hg (hs g o e hn)).trans (hc j v hj)⟩⟩
theorem fr (h : Sl w A n size xs) (hf : Fr noneOf w w') : Sl w' A n size xs := h.frS hf (fun _ _ _ _ x => x)
theorem of_row {base : Nat} {e : TypeId} {c : Nat} (h : w.ownsRow base e size (.slice A n c) n xs) : Sl w A n size xs := by
  refine ⟨h.1, fun hn => ?_⟩
  rcases h.2 with ⟨hv, h0⟩ | ⟨g, cap, cur, hv, _, hg, hnc, _, hcur, ht⟩
  · omega
  · have hA : A = some ⟨g, 0, none⟩ := by injection hv
    refine ⟨g, 0, hA, ?_, fun j v hj => ?_⟩
    · rcases Nat.lt_or_ge g w.heap.size with hlt | hge
      · exact hlt
      · rw [Array.getElem?_eq_none hge] at hg; cases hg
    · have hjl := (List.getElem?_eq_some_iff.1 hj).1
      rw [h.1] at hjl
      rw [cell_of_row w g (0 + j) cur e (0, 0) hg, Nat.zero_add]
      rw [← ht, List.getElem?_take, if_pos hjl] at hj
      simpa using hj
end Sl

section
variable {P : Program} {w : World}
theorem run_append_sl (base : Nat) (t ty e : TypeId) (i : TypeInfo) (z : Value) (size bytes : Nat) (ht : P.underlying t = some (.slice e)) (hi : P.info? e = some i) (hz : i.zero = some z)
    (hsize : i.size = size) (hby : i.bytes = bytes) (hzs : z.cells.size = size) (hsz : 0 < size) (v : Value) (n : Nat) (xs : List Value) (hown : w.ownsRow base e size v n xs)
    (A : Option Addr) (m c : Nat) (news : List Value) (hs : Sl w A m size news) (h1 : ∀ u ∈ news, u.oneCell' = true) (hnc : A = none → c = 0)
    (h63 : n + m ≤ maxLen) (hbytes : (n + m) * bytes ≤ 140737488355328) (hbase : base ≤ w.heap.size) :
    ∃ v' w', (Builtin.append_ #[t, t] ty #[v, .slice A m c]).run P w = .ok v' w' ∧ w'.ownsRow base e size v' (n + m) (xs ++ news) ∧ w.grownBy w' v.ownBlock ∧ (v'.ownBlock = v.ownBlock ∨ v'.ownBlock = some w.heap.size) := by
  cases A with
  | none =>
    have hm : m = 0 := by
      rcases Nat.eq_zero_or_pos m with h0 | h0
      · exact h0
      · obtain ⟨g, o, e, _⟩ := hs.2 h0
        cases e
    subst hm
    have hnews : news = [] := List.length_eq_zero_iff.1 (by rw [hs.1]; simp)
    subst hnews
    have hc := hnc rfl
    subst hc
    exact ⟨v, w, run_append_owned_none (P := P) (w := w) base t ty e i size ht hi v n xs hown, by simpa using hown, World.grownBy.refl w _, .inl rfl⟩
  | some a =>
    obtain ⟨v', w', hr, h2, h3, _, h5⟩ := run_append_own_at (P := P) w base t ty e i z size bytes ht hi hz hsize hby hzs hsz v n xs hown a m c news hs.1 (fun j u hj => by
      have hpos : 0 < m := by
        rcases Nat.eq_zero_or_pos m with h0 | h0
        · have hl := hs.1
          rw [h0, Nat.zero_mul] at hl
          have := (List.getElem?_eq_some_iff.1 hj).1
          omega
        · exact h0
      obtain ⟨g, o, ea, _, hc⟩ := hs.2 hpos
      cases ea
      have : (⟨g, o, none⟩ : Addr).add j = ⟨g, o + j, none⟩ := by unfold Addr.add; split <;> simp_all
      rw [this]
      exact hc j u hj) h1 h63 hbytes hbase
    exact ⟨v', w', hr, h2, h3, h5⟩

theorem wp_append_sl {o : Oper} {a : Act} {K : Act → World → Prop} {Q : Exit → Act → World → Prop} (s x : Operand) (t : TypeId) (ho : o.op = .call { callee := .builtin .append, args := #[s, x], argTypes := #[t, t] })
    (base : Nat) (e : TypeId) (i : TypeInfo) (z : Value) (size bytes : Nat) (ht : P.underlying t = some (.slice e)) (hi : P.info? e = some i) (hz : i.zero = some z)
    (hsize : i.size = size) (hby : i.bytes = bytes) (hzs : z.cells.size = size) (hsz : 0 < size) (v : Value) (n : Nat) (xs : List Value) (hv : a.eval s = v) (hown : w.ownsRow base e size v n xs)
    (A : Option Addr) (m c : Nat) (news : List Value) (hx : a.eval x = .slice A m c) (hs : Sl w A m size news) (h1 : ∀ u ∈ news, u.oneCell' = true) (hnc : A = none → c = 0)
    (h63 : n + m ≤ maxLen) (hbytes : (n + m) * bytes ≤ 140737488355328) (hbase : base ≤ w.heap.size)
    (h : ∀ v' w', w'.ownsRow base e size v' (n + m) (xs ++ news) → w.grownBy w' v.ownBlock → (v'.ownBlock = v.ownBlock ∨ v'.ownBlock = some w.heap.size) → K (a.put o.dst v') w') : o.wp P a w K Q := by
  obtain ⟨v', w', hr, h2, h3, h4⟩ := run_append_sl (P := P) base t o.type e i z size bytes ht hi hz hsize hby hzs hsz v n xs hown A m c news hs h1 hnc h63 hbytes hbase
  unfold Oper.wp
  simp [execOp, ho, resolve, invoke, builtin, hv, hx, hr, Result.andThen]
  exact h v' w' h2 h3 h4

theorem wpList_append_sl {ops : Array Oper} {rest : List Oper} {o : Oper} {a : Act} {Q : Exit → Act → World → Prop} (hg : o.guard = none) (s x : Operand) (t : TypeId) (ho : o.op = .call { callee := .builtin .append, args := #[s, x], argTypes := #[t, t] })
    (base : Nat) (e : TypeId) (i : TypeInfo) (z : Value) (size bytes : Nat) (ht : P.underlying t = some (.slice e)) (hi : P.info? e = some i) (hz : i.zero = some z)
    (hsize : i.size = size) (hby : i.bytes = bytes) (hzs : z.cells.size = size) (hsz : 0 < size) (v : Value) (n : Nat) (xs : List Value) (hv : a.eval s = v) (hown : w.ownsRow base e size v n xs)
    (A : Option Addr) (m c : Nat) (news : List Value) (hx : a.eval x = .slice A m c) (hs : Sl w A m size news) (h1 : ∀ u ∈ news, u.oneCell' = true) (hnc : A = none → c = 0)
    (h63 : n + m ≤ maxLen) (hbytes : (n + m) * bytes ≤ 140737488355328) (hbase : base ≤ w.heap.size)
    (h : ∀ v' w', w'.ownsRow base e size v' (n + m) (xs ++ news) → w.grownBy w' v.ownBlock → (v'.ownBlock = v.ownBlock ∨ v'.ownBlock = some w.heap.size) → wpList P ops Q rest (a.put o.dst v') w') : wpList P ops Q (o :: rest) a w :=
  wpList_plain hg fun _ hK => wp_append_sl s x t ho base e i z size bytes ht hi hz hsize hby hzs hsz v n xs hv hown A m c news hx hs h1 hnc h63 hbytes hbase fun v' w' h2 h3 h4 => hK _ _ (h v' w' h2 h3 h4)

/-- The form of a row that is owned. -/
theorem row_form {base : Nat} {e : TypeId} {size n : Nat} {v : Value} {xs : List Value} (h : w.ownsRow base e size v n xs) : ∃ A c, v = .slice A n c ∧ n ≤ c ∧ (A = none → c = 0) ∧ (∀ g o, A = some ⟨g, o, none⟩ → base ≤ g) := by
  rcases h.2 with ⟨rfl, rfl⟩ | ⟨g, cap, cur, rfl, hb, _, hnc, _⟩
  · exact ⟨none, 0, rfl, by omega, fun _ => rfl, fun _ _ h => by cases h⟩
  · exact ⟨some ⟨g, 0, none⟩, cap, rfl, hnc, fun h => (by cases h), fun _ _ h => by cases h; exact hb⟩
end
end Go.Proofs.YtblnmghbcgbgdaaDoor
