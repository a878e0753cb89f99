/-
  Packets as data, and rows of cells that are stored into at many places at once.
  Conditions: none.
-/
import Derived.Test.YtblnmghbcgbgdaaNetFull
namespace Go.Proofs.Ytblnmghbcgbgdaa
open Go.RowKit
set_option linter.unusedVariables false

/-- A packet: from, to, its bytes. -/
structure Pk where
  x : Int
  y : Int
  s : ByteArray
def Pk.cells (p : Pk) : List Value := [.int .i64 p.x, .int .i64 p.y, .string p.s]
def pkCells (L : List Pk) : List Value := L.flatMap Pk.cells
theorem pkCells_nil : pkCells [] = [] := rfl
theorem pkCells_cons (p : Pk) (L : List Pk) : pkCells (p :: L) = p.cells ++ pkCells L := rfl
theorem pkCells_append (L M : List Pk) : pkCells (L ++ M) = pkCells L ++ pkCells M := by simp [pkCells]
theorem pkCells_snoc (L : List Pk) (x y : Int) (s : ByteArray) : pkCells (L ++ [⟨x, y, s⟩]) = pkCells L ++ [.int .i64 x, .int .i64 y, .string s] := by rw [pkCells_append]; rfl
theorem pkCells_len (L : List Pk) : (pkCells L).length = L.length * 3 := by
  induction L with
  | nil => rfl
  | cons a L ih => rw [pkCells_cons, List.length_append, ih]; simp [Pk.cells]; omega
theorem pkCells_take (L : List Pk) (i : Nat) : (pkCells L).take (i * 3) = pkCells (L.take i) := by
  induction L generalizing i with
  | nil => simp [pkCells]
  | cons a L ih =>
    cases i with
    | zero => simp [pkCells]
    | succ i =>
      rw [pkCells_cons, List.take_succ_cons, pkCells_cons, show (i + 1) * 3 = a.cells.length + i * 3 by simp [Pk.cells]; omega, List.take_length_add_append, ih]
theorem pkCells_drop (L : List Pk) (i : Nat) : (pkCells L).drop (i * 3) = pkCells (L.drop i) := by
  induction L generalizing i with
  | nil => simp [pkCells]
  | cons a L ih =>
    cases i with
    | zero => simp
    | succ i =>
      rw [pkCells_cons, List.drop_succ_cons, show (i + 1) * 3 = a.cells.length + i * 3 by simp [Pk.cells]; omega, List.drop_length_add_append, ih]
theorem pkCells_at (L : List Pk) (i : Nat) (p : Pk) (h : L[i]? = some p) : (pkCells L)[i * 3]? = some (.int .i64 p.x) ∧ (pkCells L)[i * 3 + 1]? = some (.int .i64 p.y) ∧ (pkCells L)[i * 3 + 2]? = some (.string p.s) := by
  induction L generalizing i with
  | nil => simp at h
  | cons a L ih =>
    cases i with
    | zero => simp at h; subst h; exact ⟨rfl, rfl, rfl⟩
    | succ i =>
      have e : ∀ k, (pkCells (a :: L))[(i + 1) * 3 + k]? = (pkCells L)[i * 3 + k]? := fun k => by
        rw [pkCells_cons, List.getElem?_append_right (by simp [Pk.cells]; omega)]
        congr 1
        simp [Pk.cells]; omega
      have := ih i (by simpa using h)
      exact ⟨(e 0).trans this.1, (e 1).trans this.2.1, (e 2).trans this.2.2⟩
theorem pkCells_one (L : List Pk) : ∀ u ∈ pkCells L, u.oneCell' = true := by
  intro u hu
  simp only [pkCells, List.mem_flatMap] at hu
  obtain ⟨p, _, hp⟩ := hu
  simp [Pk.cells] at hp
  rcases hp with rfl | rfl | rfl <;> rfl
theorem eraseIdx_parts {α : Type} (L : List α) (i : Nat) : L.take i ++ L.drop (i + 1) = L.eraseIdx i := by
  induction L generalizing i with
  | nil => simp
  | cons a L ih =>
    cases i with
    | zero => simp
    | succ i => simp [ih]

/-- A block of which many cells are stored into. -/
theorem heap_setCells_same (g : Nat) (t : TypeId) : ∀ (vs : List Value) (o : Nat) (w : World) (cur : Array Value), w.heap[g]? = some (.cells cur t (0, 0)) → o + vs.length ≤ cur.size →
    ∃ cur', (w.setCells g o vs).heap[g]? = some (.cells cur' t (0, 0)) ∧ cur'.size = cur.size ∧ cur'.toList = cur.toList.take o ++ vs ++ cur.toList.drop (o + vs.length)
  | [], o, w, cur, h, _ => ⟨cur, h, rfl, by simp⟩
  | v :: vs, o, w, cur, h, hl => by
    obtain ⟨c', h1, h2, h3⟩ := heap_setCells_same g t vs (o + 1) (w.setCell ⟨g, o, none⟩ v) (cur.setIfInBounds o v) (heap_setCell_same w g o cur t v h) (by simp at hl ⊢; omega)
    refine ⟨c', h1, by simpa using h2, ?_⟩
    have ho : o < cur.size := by simp at hl; omega
    rw [h3]
    have e : (cur.setIfInBounds o v).toList = cur.toList.set o v := by simp
    rw [e, List.take_set, List.drop_set]
    rw [if_pos (by omega)]
    have ht : (cur.toList.take (o + 1)).set o v = cur.toList.take o ++ [v] := by
      rw [List.take_succ_eq_append_getElem (by simpa using ho)]
      rw [List.set_append_right _ _ (by simp; omega)]
      simp [Nat.min_eq_left (Nat.le_of_lt ho)]
    rw [ht, show o + 1 + vs.length = o + (v :: vs).length by simp; omega]
    simp
theorem Fr.setCells {S : Nat → Prop} {a : World} (g : Nat) (hp : S g ∨ a.heap.size ≤ g) : ∀ (vs : List Value) (o : Nat) (w : World), Fr S a w → Fr S a (w.setCells g o vs)
  | [], _, _, h => h
  | v :: vs, o, _, h => Fr.setCells g hp vs (o + 1) _ (h.setCell (p := ⟨g, o, none⟩) hp v)
end Go.Proofs.Ytblnmghbcgbgdaa
