/-
  An argument that is a struct of two ints, by value, opened to its numbers.
  Conditions: none.
-/
import Derived.Test.YtmopieejfbiedaaShut
namespace Go.Proofs.Ytmopieejfbiedaa
open Go.ChangeShapes Go.WideShapes Go.ChangeAt Go.RowKit Go.Joins Go.Deep
set_option linter.unusedVariables false

theorem open_int_pair {H : Type} {enc : TypeId × Value → H} {P : Program} {W : World} {base b0 : Nat} {sp : Nat → Bool} {held : Bool} {r : Reach} {t : TypeId} {f0 f1 : Field} {v : Value} {d : DataW H} {ps : List MemPlace}
    (hs : P.underlying t = some (.struct #[f0, f1])) (hone : oneCellFields P #[f0, f1] = true) (hC : P.cellsOf t = 2) (h0 : P.underlying f0.type = some (.int .i64)) (h1 : P.underlying f1.type = some (.int .i64))
    (hval : Value.okWide P W r b0 t v) (h : DataW.Trod enc P W base sp held t v d ps) :
    ∃ x y : Int, v = .agg #[.int .i64 x, .int .i64 y] ∧ (-9223372036854775808 ≤ x ∧ x ≤ 9223372036854775807) ∧ (-9223372036854775808 ≤ y ∧ y ≤ 9223372036854775807) := by
  obtain ⟨c0, c1, y0, y1, n, rfl, hd, hp, t0, t1⟩ := open_agg2 hs hone hC hval h
  obtain ⟨x, hx, _, wx⟩ := DataW.trod_int h0 t0
  obtain ⟨y, hy, _, wy⟩ := DataW.trod_int h1 t1
  cases hx
  cases hy
  exact ⟨x, y, rfl, wf_int wx, wf_int wy⟩
end Go.Proofs.Ytmopieejfbiedaa
