/-
  An argument that is a packet (two ints, a string), by value, opened.
  Conditions: none.
-/
import Derived.Test.YtblnmghbcgbgdaaShut
namespace Go.Proofs.Ytblnmghbcgbgdaa
open Go.ChangeShapes Go.WideShapes Go.ChangeAt Go.RowKit Go.Joins Go.Deep
set_option linter.unusedVariables false

theorem open_packet {H : Type} {enc : TypeId × Value → H} {P : Program} {W : World} {base b0 : Nat} {sp : Nat → Bool} {held : Bool} {r : Reach} {t : TypeId} {f0 f1 f2 : Field} {v : Value} {d : DataW H} {ps : List MemPlace}
    (hs : P.underlying t = some (.struct #[f0, f1, f2])) (hone : oneCellFields P #[f0, f1, f2] = true) (hC : P.cellsOf t = 3) (h0 : P.underlying f0.type = some (.int .i64)) (h1 : P.underlying f1.type = some (.int .i64)) (h2 : P.underlying f2.type = some .string)
    (hval : Value.okWide P W r b0 t v) (h : DataW.Trod enc P W base sp held t v d ps) :
    ∃ (x y : Int) (s : ByteArray), v = .agg #[.int .i64 x, .int .i64 y, .string s] ∧ (-9223372036854775808 ≤ x ∧ x ≤ 9223372036854775807) ∧ (-9223372036854775808 ≤ y ∧ y ≤ 9223372036854775807) ∧ s.size ≤ maxLen := by
  obtain ⟨c0, c1, c2, y0, y1, y2, n, rfl, hd, hp, t0, t1, t2⟩ := open_agg3 hs hone hC hval h
  obtain ⟨x, hx, _, wx⟩ := DataW.trod_int h0 t0
  obtain ⟨y, hy, _, wy⟩ := DataW.trod_int h1 t1
  obtain ⟨s, hs2, _, ws⟩ := DataW.trod_string h2 t2
  cases hx
  cases hy
  cases hs2
  exact ⟨x, y, s, rfl, wf_int wx, wf_int wy, ws⟩
end Go.Proofs.Ytblnmghbcgbgdaa
