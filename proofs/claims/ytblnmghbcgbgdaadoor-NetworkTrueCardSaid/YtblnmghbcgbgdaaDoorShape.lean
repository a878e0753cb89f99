/-
  Arguments whose types are flat (numbers, texts, truths, arrays and structs of these), opened by their shape: what each cell is.
  Conditions: none.
-/
import Derived.Test.YtblnmghbcgbgdaaDoorShut
import Derived.Test.YtblnmghbcgbgdaaDoorNetQa
import Derived.Deep.Slices
namespace Go.Proofs.YtblnmghbcgbgdaaDoor
open Go.ChangeShapes Go.WideShapes Go.ChangeAt Go.RowKit Go.Joins Go.Deep
set_option linter.unusedVariables false
set_option linter.unusedSimpArgs false

/-- What a cell is. -/
inductive FK where
  | num (k : IntKind)
  | str
  | boo
def FK.Fits : FK → Value → Prop
  | .num k, v => ∃ n, v = .int k n ∧ (Lit.int k n).wf = true
  | .str, v => ∃ s : ByteArray, v = .string s ∧ s.size ≤ maxLen
  | .boo, v => ∃ b, v = .bool b
/-- Each cell is what its place says. -/
inductive Fits : List FK → List Value → Prop where
  | nil : Fits [] []
  | cons {k : FK} {v : Value} {ks : List FK} {vs : List Value} : k.Fits v → Fits ks vs → Fits (k :: ks) (v :: vs)
theorem Fits.app {a b : List FK} {x y : List Value} (h : Fits a x) (g : Fits b y) : Fits (a ++ b) (x ++ y) := by
  induction h with
  | nil => exact g
  | cons h1 _ ih => exact .cons h1 ih
theorem Fits.len {a : List FK} {x : List Value} (h : Fits a x) : x.length = a.length := by
  induction h with
  | nil => rfl
  | cons _ _ ih => simp [ih]
/-- The shapes of a struct's fields, one behind the other, from a place on. -/
def shapeFields (sh : TypeId → Option (List FK)) (cells : TypeId → Nat) : Nat → List Field → Option (List FK)
  | _, [] => some []
  | o, f :: fs => match sh f.type with
    | none => none
    | some s => if f.offset = o ∧ cells f.type = s.length then (shapeFields sh cells (o + s.length) fs).map (s ++ ·) else none
def shape (P : Program) : Nat → TypeId → Option (List FK)
  | 0, _ => none
  | n + 1, t => match P.underlying t with
    | some (.int k) => some [.num k]
    | some .string => some [.str]
    | some .bool => some [.boo]
    | some (.array m e) => match shape P n e with
      | none => none
      | some s => if P.cellsOf e = s.length ∧ P.cellsOf t = m * s.length then some (List.replicate m s).flatten else none
    | some (.struct fs) => match shapeFields (shape P n) P.cellsOf 0 fs.toList with
      | none => none
      | some s => if P.cellsOf t = s.length then some s else none
    | _ => none
section
variable {H : Type} {enc : TypeId × Value → H} {P : Program} {W : World} {base : Nat} {sp : Nat → Bool} {held : Bool}
theorem fits_fields (sh : TypeId → Option (List FK)) (n : Nat) (cs : List Value)
    (ih : ∀ t s, sh t = some s → ∀ cs x, cs.length = s.length → DataW.trod enc P W base sp held n t cs = some x → Fits s cs) :
    ∀ (fs : List Field) (o : Nat) (s : List FK), shapeFields sh P.cellsOf o fs = some s → o + s.length ≤ cs.length →
      (∀ f ∈ fs, ∃ x, DataW.trod enc P W base sp held n f.type ((cs.drop f.offset).take (P.cellsOf f.type)) = some x) → Fits s ((cs.drop o).take s.length)
  | [], o, s, h, hl, hx => by
    simp [shapeFields] at h
    subst h
    simp
    exact .nil
  | f :: fs, o, s, h, hl, hx => by
    simp only [shapeFields] at h
    split at h
    · cases h
    · rename_i s0 hs0
      split at h
      · rename_i hc
        obtain ⟨h1, h2⟩ := hc
        obtain ⟨s1, hs1, rfl⟩ := Option.map_eq_some_iff.1 h
        obtain ⟨x, hx0⟩ := hx f (by simp)
        rw [h1, h2] at hx0
        simp only [List.length_append] at hl
        have f0 := ih f.type s0 hs0 _ x (by simp; omega) hx0
        have f1 := fits_fields sh n cs ih fs (o + s0.length) s1 hs1 (by omega) (fun g hg => hx g (by simp [hg]))
        have e : (cs.drop o).take (s0 ++ s1).length = (cs.drop o).take s0.length ++ (cs.drop (o + s0.length)).take s1.length := by
          rw [List.length_append, List.take_add, List.drop_drop]
        rw [e]
        exact f0.app f1
      · cases h
theorem fits_array (s : List FK) (cs : List Value) : ∀ (m : Nat), cs.length = m * s.length → (∀ i, i < m → Fits s ((cs.drop (i * s.length)).take s.length)) → Fits (List.replicate m s).flatten cs
  | 0, hl, _ => by
    have : cs = [] := List.length_eq_zero_iff.1 (by simpa using hl)
    subst this
    exact .nil
  | m + 1, hl, h => by
    have e : (List.replicate (m + 1) s).flatten = (List.replicate m s).flatten ++ s := by
      rw [List.replicate_succ', List.flatten_append]
      simp
    rw [e]
    have hm : cs.take (m * s.length) ++ cs.drop (m * s.length) = cs := List.take_append_drop _ _
    rw [← hm]
    have hl' : cs.length = m * s.length + s.length := by rw [hl, Nat.succ_mul]
    refine Fits.app (fits_array s (cs.take (m * s.length)) m (by simp; omega) (fun i hi => ?_)) ?_
    · have hle : i * s.length + s.length ≤ m * s.length := by
        have := Nat.mul_le_mul_right s.length (show i + 1 ≤ m by omega)
        rw [Nat.succ_mul] at this
        exact this
      have := h i (by omega)
      rw [List.drop_take, List.take_take, Nat.min_eq_left (by omega)]
      exact this
    · have := h m (by omega)
      rw [List.take_of_length_le (by simp; omega)] at this
      exact this
theorem fits_of_trod : ∀ (n : Nat) (t : TypeId) (s : List FK), shape P n t = some s → ∀ (fuel : Nat) (cs : List Value) (x : DataW H × List MemPlace), cs.length = s.length → DataW.trod enc P W base sp held fuel t cs = some x → Fits s cs
  | 0, t, s, h, _, _, _, _, _ => by simp [shape] at h
  | n + 1, t, s, h, fuel, cs, x, hl, hx => by
    simp only [shape] at h
    split at h
    · rename_i k hk
      obtain ⟨v, rfl, _, hw⟩ := DataW.trod_int hk hx
      cases h
      exact .cons ⟨v, rfl, hw⟩ .nil
    · rename_i hk
      obtain ⟨v, rfl, _, hw⟩ := DataW.trod_string hk hx
      cases h
      exact .cons ⟨v, rfl, hw⟩ .nil
    · rename_i hk
      obtain ⟨v, rfl, _⟩ := DataW.trod_bool hk hx
      cases h
      exact .cons ⟨v, rfl⟩ .nil
    · rename_i m e hk
      split at h
      · cases h
      · rename_i s0 hs0
        split at h
        · rename_i hc
          obtain ⟨h1, h2⟩ := hc
          cases h
          obtain ⟨xs, q, _, _, hlen, hxs, hg⟩ := DataW.trod_array hk hx
          rw [h1] at hg
          have hlc : cs.length = m * s0.length := by rw [hl]; simp
          refine fits_array s0 cs m hlc (fun i hi => ?_)
          have hy : xs[i]? = some (xs[i]'(by omega)) := List.getElem?_eq_getElem _
          have := hg i (by omega)
          rw [hy] at this
          refine fits_of_trod n e s0 hs0 _ _ _ ?_ this
          have hle : i * s0.length + s0.length ≤ m * s0.length := by
            have := Nat.mul_le_mul_right s0.length (show i + 1 ≤ m by omega)
            rw [Nat.succ_mul] at this
            exact this
          simp
          omega
        · cases h
    · rename_i fs hk
      split at h
      · cases h
      · rename_i s0 hs0
        split at h
        · rename_i hc
          cases h
          obtain ⟨xs, q, _, _, _, hlen, hg⟩ := DataW.trod_struct hk hx
          have := fits_fields (enc := enc) (P := P) (W := W) (base := base) (sp := sp) (held := held) (shape P n) q cs (fun t s hs cs x hl hx => fits_of_trod n t s hs q cs x hl hx) fs.toList 0 s hs0 (by omega) (fun f hf => by
            obtain ⟨i, hi⟩ := List.mem_iff_getElem?.1 hf
            have hi' : fs[i]? = some f := by simpa using hi
            have hlt := (Array.getElem?_eq_some_iff.1 hi').1
            have hgi := hg i f hi'
            rw [List.getElem?_eq_getElem (by omega)] at hgi
            exact ⟨_, hgi⟩)
          rw [List.drop_zero, List.take_of_length_le (by omega)] at this
          exact this
        · cases h
    · cases h
theorem lists_of {p : Nat → List Value → Prop} : ∀ n, (∀ i, i < n → ∃ y, p i y) → ∃ l : List (List Value), l.length = n ∧ ∀ i y, l[i]? = some y → p i y
  | 0, _ => ⟨[], rfl, fun i y h => by simp at h⟩
  | n + 1, h => by
    obtain ⟨l, hl, hp⟩ := lists_of n (fun i hi => h i (by omega))
    obtain ⟨y, hy⟩ := h n (by omega)
    refine ⟨l ++ [y], by simp [hl], fun i z hz => ?_⟩
    by_cases hi : i < n
    · rw [List.getElem?_append_left (by omega)] at hz
      exact hp i z hz
    · have hb := (List.getElem?_eq_some_iff.1 hz).1
      simp at hb
      have : i = n := by omega
      subst this
      rw [List.getElem?_append_right (by omega)] at hz
      simp [hl] at hz
      subst hz
      exact hy
/-- The rows of k cells each that a slice holds, as a walk reads them. -/
def RowsAt (w : World) (A : Option Addr) (k : Nat) (L : List (List Value)) : Prop := 0 < L.length → ∃ g o, A = some ⟨g, o, none⟩ ∧ g < w.heap.size ∧ ∀ i l, L[i]? = some l → ∀ j u, l[j]? = some u → w.cell? ⟨g, o + i * k + j, none⟩ = some u
theorem addr_add (g o j : Nat) : (⟨g, o, none⟩ : Addr).add j = ⟨g, o + j, none⟩ := by unfold Addr.add; split <;> simp_all
theorem rowsAt_of {w : World} {A : Option Addr} {k c : Nat} {L : List (List Value)} (hk : ∀ l ∈ L, 0 < l.length) (hl : L.length ≤ c) (hz : A = none → c = 0) (h : ∀ a, A = some a → ∀ i l, L[i]? = some l → ∀ j u, l[j]? = some u → w.cell? ((a.add (i * k)).add j) = some u) : RowsAt w A k L := by
  intro hp
  cases A with
  | none => have := hz rfl; omega
  | some a =>
    have hpos : 0 < L[0].length := hk _ (List.getElem_mem _)
    have h0 := h a rfl 0 _ (List.getElem?_eq_getElem hp) 0 _ (List.getElem?_eq_getElem hpos)
    have hadd : (a.add (0 * k)).add 0 = a := by simp [Addr.add]
    rw [hadd] at h0
    have ha : a = ⟨a.block, a.off, none⟩ := by
      have hs : a.spot = none := by
        cases hsp : a.spot with
        | none => rfl
        | some x =>
          unfold World.cell? at h0
          simp [hsp] at h0
          split at h0 <;> simp_all
      cases a
      simp at hs
      subst hs
      rfl
    refine ⟨a.block, a.off, by rw [← ha], World.block_lt_of_cell? _ _ h0, fun i y hy j u hu => ?_⟩
    have := h a rfl i y hy j u hu
    rw [ha, addr_add, addr_add] at this
    exact this
/-- An argument that is a slice of flat things. -/
theorem open_flats {b0 : Nat} {r : Reach} {t e : TypeId} {v : Value} {d : DataW H} {ps : List MemPlace} {s : List FK} (n : Nat) (ht : P.underlying t = some (.slice e)) (hs : shape P n e = some s) (hk : P.cellsOf e = s.length) (hpos : 0 < s.length)
    (hval : Value.okWide P W r b0 t v) (h : DataW.Trod enc P W base sp held t v d ps) :
    ∃ (A : Option Addr) (c : Nat) (L : List (List Value)), v = .slice A L.length c ∧ L.length ≤ c ∧ c ≤ maxLen ∧ (∀ l ∈ L, Fits s l) ∧ RowsAt W A s.length L := by
  obtain ⟨a0, len, cap, rfl⟩ := okWide_slice ht hval
  obtain ⟨fuel, hf⟩ := h
  rcases open_slice ht hf with ⟨hcs, _⟩ | ⟨a, len', cap', m, q, D, Pl, hcs, _, hl, hm, hmm, _, hx⟩
  · simp [Value.cells] at hcs
    obtain ⟨rfl, rfl, rfl⟩ := hcs
    exact ⟨none, 0, [], rfl, by simp, by simp, by simp, fun h => absurd h (by simp)⟩
  · simp [Value.cells] at hcs
    obtain ⟨rfl, rfl, rfl⟩ := hcs
    have hlm : len ≤ m := by rw [hmm]; split <;> omega
    rw [hk] at hx
    obtain ⟨L, hll, hp⟩ := lists_of (p := fun i y => Fits s y ∧ ∀ j u, y[j]? = some u → W.cell? ((a.add (i * s.length)).add j) = some u) len (fun i hi => by
      obtain ⟨cs', q1, q2⟩ := hx i (by omega)
      obtain ⟨_, hlen, hcell⟩ := World.cells?_some q1
      refine ⟨cs', fits_of_trod n e s hs _ _ _ hlen q2, fun j u hj => ?_⟩
      have hj4 : j < s.length := by
        have := (List.getElem?_eq_some_iff.1 hj).1
        omega
      exact (hcell j hj4).trans hj)
    have hF : ∀ l ∈ L, Fits s l := fun l hl => by
      obtain ⟨i, hi⟩ := List.mem_iff_getElem?.1 hl
      exact (hp i l hi).1
    exact ⟨some a, cap, L, by rw [hll], by omega, hm, hF, rowsAt_of (c := cap) (fun l hl => by rw [(hF l hl).len]; exact hpos) (by omega) (fun h => nomatch h) (fun a' ha i y hy => by cases ha; exact (hp i y hy).2)⟩
/-- An argument that is a flat struct. -/
theorem open_flat {b0 : Nat} {r : Reach} {t : TypeId} {fs : Array Field} {v : Value} {d : DataW H} {ps : List MemPlace} {s : List FK} (n : Nat) (ht : P.underlying t = some (.struct fs)) (hs : shape P n t = some s) (hk : P.cellsOf t = s.length)
    (hval : Value.okWide P W r b0 t v) (h : DataW.Trod enc P W base sp held t v d ps) : ∃ L : List Value, v = .agg L.toArray ∧ Fits s L := by
  obtain ⟨cs, rfl, hsz⟩ := okWide_struct ht hval
  obtain ⟨fuel, hf⟩ := h
  exact ⟨cs.toList, rfl, fits_of_trod n t s hs _ _ _ (by simp [Value.cells]; omega) hf⟩
end
theorem Fits.num {k : IntKind} {ks : List FK} {vs : List Value} (h : Fits (.num k :: ks) vs) : ∃ n vs', vs = .int k n :: vs' ∧ (Lit.int k n).wf = true ∧ Fits ks vs' := by
  cases h with
  | cons h1 h2 => obtain ⟨n, rfl, hw⟩ := h1; exact ⟨n, _, rfl, hw, h2⟩
theorem Fits.str {ks : List FK} {vs : List Value} (h : Fits (.str :: ks) vs) : ∃ (s : ByteArray) (vs' : _), vs = .string s :: vs' ∧ s.size ≤ 9223372036854775807 ∧ Fits ks vs' := by
  cases h with
  | cons h1 h2 => obtain ⟨n, rfl, hw⟩ := h1; exact ⟨n, _, rfl, by simpa [maxLen] using hw, h2⟩
theorem Fits.boo {ks : List FK} {vs : List Value} (h : Fits (.boo :: ks) vs) : ∃ b vs', vs = .bool b :: vs' ∧ Fits ks vs' := by
  cases h with
  | cons h1 h2 => obtain ⟨n, rfl⟩ := h1; exact ⟨n, _, rfl, h2⟩
theorem Fits.done {vs : List Value} (h : Fits [] vs) : vs = [] := by cases h; rfl
end Go.Proofs.YtblnmghbcgbgdaaDoor
