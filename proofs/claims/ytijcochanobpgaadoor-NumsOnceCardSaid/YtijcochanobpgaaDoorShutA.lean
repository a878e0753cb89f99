/-
  An argument that is an array of ints, by value, opened to the numbers that it holds.
  Conditions: none.
-/
import Derived.Test.YtijcochanobpgaaDoorShut
namespace Go.Proofs.YtijcochanobpgaaDoor
open Go.ChangeShapes Go.WideShapes Go.ChangeAt Go.RowKit
set_option linter.unusedVariables false

theorem open_int_array {H : Type} {enc : TypeId × Value → H} {P : Program} {W : World} {base b0 : Nat} {sp : Nat → Bool} {held : Bool} {r : Reach} {t e : TypeId} {v : Value} {d : DataW H} {ps : List MemPlace} (n : Nat) (ht : P.underlying t = some (.array n e)) (he : P.underlying e = some (.int .i64)) (hce : P.cellsOf e = 1) (hct : P.cellsOf t = n)
    (hval : Value.okWide P W r b0 t v) (h : DataW.Trod enc P W base sp held t v d ps) :
    ∃ l : List Int, l.length = n ∧ v = .agg (l.map (Value.int .i64)).toArray ∧ ∀ x ∈ l, -9223372036854775808 ≤ x ∧ x ≤ 9223372036854775807 := by
  obtain ⟨fuel, hf⟩ := h
  obtain ⟨cs, rfl⟩ : ∃ cs, v = .agg cs := by
    cases v <;> simp [Value.okWide, ht] at hval ⊢
  obtain ⟨xs, m, _, hx, hlen, hxs, hg⟩ := DataW.trod_array ht hf
  simp only [Value.cells, hce, hct, Nat.mul_one] at hlen hg
  have get : ∀ i, i < n → ∃ x : Int, cs[i]? = some (.int .i64 x) ∧ -9223372036854775808 ≤ x ∧ x ≤ 9223372036854775807 := by
    intro i hi
    have h1 := hg i hi
    have hy : xs[i]? = some (xs[i]'(by omega)) := List.getElem?_eq_getElem _
    rw [hy] at h1
    obtain ⟨x, hc, _, wn⟩ := DataW.trod_int he h1
    exact ⟨x, by simpa using cell_of_cut hc, wf_int wn⟩
  have hsz : cs.size = n := by simpa using hlen
  have hall : ∀ c ∈ cs.toList, ∃ x : Int, c = .int .i64 x ∧ -9223372036854775808 ≤ x ∧ x ≤ 9223372036854775807 := by
    intro c hc
    obtain ⟨i, hi, rfl⟩ := List.mem_iff_getElem.1 hc
    obtain ⟨x, hx, hb⟩ := get i (by simpa [hsz] using hi)
    refine ⟨x, ?_, hb⟩
    have hi' : i < cs.size := by simpa using hi
    rw [Array.getElem?_eq_getElem hi'] at hx
    simpa using hx
  have main : ∀ L : List Value, (∀ c ∈ L, ∃ x : Int, c = .int .i64 x ∧ -9223372036854775808 ≤ x ∧ x ≤ 9223372036854775807) → ∃ l : List Int, L = l.map (Value.int .i64) ∧ ∀ x ∈ l, -9223372036854775808 ≤ x ∧ x ≤ 9223372036854775807 := by
    intro L
    induction L with
    | nil => intro _; exact ⟨[], rfl, by simp⟩
    | cons c L ih =>
      intro hL
      obtain ⟨x, rfl, hb⟩ := hL c (by simp)
      obtain ⟨l, rfl, hl⟩ := ih (fun c hc => hL c (by simp [hc]))
      exact ⟨x :: l, rfl, fun y hy => by
        rcases List.mem_cons.1 hy with rfl | hy
        · exact hb
        · exact hl y hy⟩
  obtain ⟨l, hl, hb⟩ := main cs.toList hall
  refine ⟨l, ?_, ?_, hb⟩
  · have := congrArg List.length hl
    simp at this
    omega
  · rw [← hl]
theorem list2 {l : List Int} (h : l.length = 2) : ∃ x y, l = [x, y] := by
  match l, h with
  | [x, y], _ => exact ⟨x, y, rfl⟩
theorem list3 {l : List Int} (h : l.length = 3) : ∃ x y z, l = [x, y, z] := by
  match l, h with
  | [x, y, z], _ => exact ⟨x, y, z, rfl⟩
end Go.Proofs.YtijcochanobpgaaDoor
