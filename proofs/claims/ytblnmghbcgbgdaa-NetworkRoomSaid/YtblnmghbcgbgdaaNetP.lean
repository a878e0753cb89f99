/-
  How many packets lie between two nodes: plain laws.
-/
import Derived.Test.YtblnmghbcgbgdaaTakeNo
namespace Go.Proofs.Ytblnmghbcgbgdaa
open Go.RowKit
set_option linter.unusedVariables false

/-- How many of L go from x to y. -/
def cnt : List Pk → Int → Int → Int
  | [], _, _ => 0
  | p :: L, x, y => (if p.x = x ∧ p.y = y then 1 else 0) + cnt L x y
theorem cnt_app (L M : List Pk) (x y : Int) : cnt (L ++ M) x y = cnt L x y + cnt M x y := by
  induction L with
  | nil => simp [cnt]
  | cons p L ih => simp only [List.cons_append, cnt, ih]; omega
theorem cnt_pos (L : List Pk) (x y : Int) : 0 ≤ cnt L x y := by
  induction L with
  | nil => simp [cnt]
  | cons p L ih => simp only [cnt]; split <;> omega
theorem cnt_le (L : List Pk) (x y : Int) : cnt L x y ≤ L.length := by
  induction L with
  | nil => simp [cnt]
  | cons p L ih => simp only [cnt, List.length_cons]; split <;> omega
theorem cnt_snoc (L : List Pk) (p : Pk) : upd (cnt L) p.x p.y (cnt L p.x p.y + 1) = cnt (L ++ [p]) := by
  funext x y
  rw [cnt_app]
  simp only [upd, cnt]
  by_cases h : x = p.x ∧ y = p.y
  · obtain ⟨rfl, rfl⟩ := h
    simp
  · rw [if_neg h, if_neg (fun e => h ⟨e.1.symm, e.2.symm⟩)]
    omega
theorem cnt_split (L : List Pk) (i : Nat) (p : Pk) (h : L[i]? = some p) : L = L.take i ++ p :: L.drop (i + 1) := by
  obtain ⟨hlt, he⟩ := List.getElem?_eq_some_iff.1 h
  rw [← he, List.getElem_cons_drop, List.take_append_drop]
theorem cnt_erase (L : List Pk) (i : Nat) (p : Pk) (h : L[i]? = some p) : upd (cnt L) p.x p.y (cnt L p.x p.y - 1) = cnt (L.eraseIdx i) := by
  have hs := cnt_split L i p h
  rw [← eraseIdx_parts]
  funext x y
  have e : ∀ a b, cnt L a b = cnt (L.take i ++ L.drop (i + 1)) a b + (if p.x = a ∧ p.y = b then 1 else 0) := fun a b => by
    conv => lhs; rw [hs]
    simp only [cnt_app, cnt]
    omega
  simp only [upd]
  by_cases hh : x = p.x ∧ y = p.y
  · obtain ⟨rfl, rfl⟩ := hh
    rw [if_pos ⟨rfl, rfl⟩, e, if_pos ⟨rfl, rfl⟩]
    omega
  · rw [if_neg hh, e, if_neg (fun e => hh ⟨e.1.symm, e.2.symm⟩)]
    omega
theorem cnt_at (L : List Pk) (i : Nat) (p : Pk) (h : L[i]? = some p) : 1 ≤ cnt L p.x p.y := by
  have hs := cnt_split L i p h
  rw [hs, cnt_app]
  have h1 := cnt_pos (L.take i) p.x p.y
  have h2 := cnt_pos (L.drop (i + 1)) p.x p.y
  simp [cnt]
  omega
/-- What a packet of the law's is. -/
def okPk (p : Pk) : Prop := (0 ≤ p.x ∧ p.x ≤ 3) ∧ (0 ≤ p.y ∧ p.y ≤ 3) ∧ p.x ≠ p.y ∧ p.s.size ≤ 4100
theorem cnt_same (L : List Pk) (h : ∀ p ∈ L, okPk p) (x : Int) : cnt L x x = 0 := by
  induction L with
  | nil => rfl
  | cons p L ih =>
    have hp := (h p (by simp)).2.2.1
    simp only [cnt, ih (fun q hq => h q (by simp [hq]))]
    rw [if_neg (fun e => hp (e.1.trans e.2.symm))]
    rfl
/-- The sum of the first j links, of 16. -/
def psum (L : List Pk) : Nat → Int
  | 0 => 0
  | j + 1 => psum L j + cnt L ((j / 4 : Nat) : Int) ((j % 4 : Nat) : Int)
theorem psum_nil (j : Nat) : psum [] j = 0 := by
  induction j with
  | zero => rfl
  | succ j ih => simp [psum, ih, cnt]
theorem psum_cons (p : Pk) (L : List Pk) (hp : okPk p) (j : Nat) : psum (p :: L) j = psum L j + (if 4 * p.x + p.y < j then 1 else 0) := by
  obtain ⟨⟨a1, a2⟩, ⟨b1, b2⟩, _⟩ := hp
  induction j with
  | zero => rw [if_neg (by omega)]; rfl
  | succ j ih =>
    simp only [psum, cnt, ih]
    by_cases h : p.x = ((j / 4 : Nat) : Int) ∧ p.y = ((j % 4 : Nat) : Int)
    · rw [if_pos h, if_neg (by omega), if_pos (by omega)]; omega
    · rw [if_neg h]
      by_cases h2 : 4 * p.x + p.y < (j : Int)
      · rw [if_pos h2, if_pos (by omega)]; omega
      · rw [if_neg h2, if_neg (by omega)]; omega
theorem psum_all (L : List Pk) (h : ∀ p ∈ L, okPk p) : psum L 16 = L.length := by
  induction L with
  | nil => rw [psum_nil]; rfl
  | cons p L ih =>
    have hp := h p (by simp)
    rw [psum_cons p L hp, ih (fun q hq => h q (by simp [hq]))]
    obtain ⟨⟨a1, a2⟩, ⟨b1, b2⟩, _⟩ := hp
    rw [if_pos (by omega)]
    simp
theorem psum_le (L : List Pk) (h : ∀ p ∈ L, okPk p) (j : Nat) : 0 ≤ psum L j ∧ psum L j ≤ L.length := by
  induction L with
  | nil => rw [psum_nil]; simp
  | cons p L ih =>
    have := ih (fun q hq => h q (by simp [hq]))
    rw [psum_cons p L (h p (by simp))]
    simp only [List.length_cons]
    split <;> omega
theorem mayBe_ok (x y : Int) (n : Nat) (h : mayBe x y n = true) : 0 ≤ x ∧ 0 ≤ y ∧ x ≠ y ∧ n ≤ 4100 := by
  simp only [mayBe, Bool.and_eq_true, decide_eq_true_eq, Bool.not_eq_true', beq_eq_false_iff_ne] at h
  omega
theorem mayBe_of (p : Pk) (h : okPk p) : mayBe p.x p.y p.s.size = true := by
  obtain ⟨⟨a1, a2⟩, ⟨b1, b2⟩, c, d⟩ := h
  simp only [mayBe, Bool.and_eq_true, decide_eq_true_eq, Bool.not_eq_true', beq_eq_false_iff_ne]
  omega
/-- A NETWORK OF THE LAW'S: n packets under way, behind k steps at most. -/
def Net (base : Nat) (room : Int) (k n : Nat) (b : Nat) (w : World) : Prop :=
  ∃ (L : List Pk) (lost : Int), L.length = n ∧ Nt base room lost L.length (pkCells L) (cnt L) b w ∧ (∀ p ∈ L, okPk p) ∧ (∀ x y, cnt L x y ≤ room) ∧ 0 ≤ lost ∧ lost ≤ k ∧ n ≤ k ∧ base ≤ w.heap.size
theorem Net.fr {base : Nat} {room : Int} {k n b : Nat} {w w' : World} (h : Net base room k n b w) (hf : Fr noneOf w w') : Net base room k n b w' := by
  obtain ⟨L, lost, h1, h2, h3, h4, h5, h6, h7, h8⟩ := h
  exact ⟨L, lost, h1, h2.fr hf, h3, h4, h5, h6, h7, Nat.le_trans h8 hf.size⟩
theorem Net.more {base : Nat} {room : Int} {k k' n b : Nat} {w : World} (h : Net base room k n b w) (hk : k ≤ k') : Net base room k' n b w := by
  obtain ⟨L, lost, h1, h2, h3, h4, h5, h6, h7, h8⟩ := h
  exact ⟨L, lost, h1, h2, h3, h4, h5, by omega, by omega, h8⟩
end Go.Proofs.Ytblnmghbcgbgdaa
