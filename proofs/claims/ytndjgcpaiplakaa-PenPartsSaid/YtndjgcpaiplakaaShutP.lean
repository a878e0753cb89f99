/-
  Arguments that are a pen (four numbers) or an act (five numbers and eight), by value, opened.
  Conditions: none.
-/
import Derived.Test.YtndjgcpaiplakaaShut
import Derived.Test.YtndjgcpaiplakaaPenP
namespace Go.Proofs.Ytndjgcpaiplakaa
open Go.ChangeShapes Go.WideShapes Go.ChangeAt Go.RowKit Go.Joins Go.Deep
set_option linter.unusedVariables false

theorem open_pen {H : Type} {enc : TypeId × Value → H} {P : Program} {W : World} {base b0 : Nat} {sp : Nat → Bool} {held : Bool} {r : Reach} {t : TypeId} {f0 f1 f2 f3 : Field} {v : Value} {d : DataW H} {ps : List MemPlace}
    (hs : P.underlying t = some (.struct #[f0, f1, f2, f3])) (hone : oneCellFields P #[f0, f1, f2, f3] = true) (hC : P.cellsOf t = 4) (h0 : P.underlying f0.type = some (.int .i32)) (h1 : P.underlying f1.type = some (.int .u8)) (h2 : P.underlying f2.type = some (.int .u8)) (h3 : P.underlying f3.type = some (.int .u8))
    (hval : Value.okWide P W r b0 t v) (h : DataW.Trod enc P W base sp held t v d ps) : ∃ c : Pn, v = penV c := by
  obtain ⟨c0, c1, c2, c3, y0, y1, y2, y3, n, rfl, hd, hp, t0, t1, t2, t3⟩ := open_agg4 hs hone hC hval h
  obtain ⟨x0, hx0, _, _⟩ := DataW.trod_int h0 t0
  obtain ⟨x1, hx1, _, _⟩ := DataW.trod_int h1 t1
  obtain ⟨x2, hx2, _, _⟩ := DataW.trod_int h2 t2
  obtain ⟨x3, hx3, _, _⟩ := DataW.trod_int h3 t3
  cases hx0
  cases hx1
  cases hx2
  cases hx3
  exact ⟨⟨x0, x1, x2, x3⟩, rfl⟩

theorem split13 (L : List Value) (h : L.length = 13) : L = L.take 1 ++ ((L.drop 1).take 1 ++ ((L.drop 2).take 1 ++ ((L.drop 3).take 1 ++ ((L.drop 4).take 1 ++ (L.drop 5).take 8)))) := by
  match L, h with
  | [_, _, _, _, _, _, _, _, _, _, _, _, _], _ => rfl
theorem list8 {l : List Int} (h : l.length = 8) : ∃ x0 x1 x2 x3 x4 x5 x6 x7, l = [x0, x1, x2, x3, x4, x5, x6, x7] := by
  match l, h with
  | [a, b, c, d, e, f, g, i], _ => exact ⟨a, b, c, d, e, f, g, i, rfl⟩
theorem trod_nums {H : Type} {enc : TypeId × Value → H} {P : Program} {W : World} {base : Nat} {sp : Nat → Bool} {held : Bool} {t e : TypeId} {fuel n : Nat} {cs : List Value} {x : DataW H × List MemPlace} (ht : P.underlying t = some (.array n e)) (he : P.underlying e = some (.int .i64)) (hce : P.cellsOf e = 1) (hcs : cs.length = n)
    (hf : DataW.trod enc P W base sp held fuel t cs = some x) : ∃ l : List Int, l.length = n ∧ cs = l.map (Value.int .i64) := by
  obtain ⟨xs, m, _, hx, hlen, hxs, hg⟩ := DataW.trod_array ht hf
  simp only [hce, Nat.mul_one] at hlen hg
  have get : ∀ c ∈ cs, ∃ x : Int, c = .int .i64 x := by
    intro c hc
    obtain ⟨i, hi, rfl⟩ := List.mem_iff_getElem.1 hc
    have h1 := hg i (by omega)
    have hy : xs[i]? = some (xs[i]'(by omega)) := List.getElem?_eq_getElem _
    rw [hy] at h1
    obtain ⟨x, hc, _, _⟩ := DataW.trod_int he h1
    have := cell_of_cut hc
    rw [List.getElem?_eq_getElem hi] at this
    exact ⟨x, by simpa using this⟩
  have main : ∀ L : List Value, (∀ c ∈ L, ∃ x : Int, c = .int .i64 x) → ∃ l : List Int, L = l.map (Value.int .i64) := by
    intro L
    induction L with
    | nil => intro _; exact ⟨[], rfl⟩
    | cons c L ih =>
      intro hL
      obtain ⟨x, rfl⟩ := hL c (by simp)
      obtain ⟨l, rfl⟩ := ih (fun c hc => hL c (by simp [hc]))
      exact ⟨x :: l, rfl⟩
  obtain ⟨l, hl⟩ := main cs get
  refine ⟨l, ?_, hl⟩
  have := congrArg List.length hl
  simp at this
  omega
theorem open_act {H : Type} {enc : TypeId × Value → H} {P : Program} {W : World} {base b0 : Nat} {sp : Nat → Bool} {held : Bool} {r : Reach} {t e : TypeId} {f0 f1 f2 f3 f4 f5 : Field} {v : Value} {d : DataW H} {ps : List MemPlace}
    (hs : P.underlying t = some (.struct #[f0, f1, f2, f3, f4, f5])) (hC : P.cellsOf t = 13) (ho : f0.offset = 0 ∧ f1.offset = 1 ∧ f2.offset = 2 ∧ f3.offset = 3 ∧ f4.offset = 4 ∧ f5.offset = 5)
    (hk : P.cellsOf f0.type = 1 ∧ P.cellsOf f1.type = 1 ∧ P.cellsOf f2.type = 1 ∧ P.cellsOf f3.type = 1 ∧ P.cellsOf f4.type = 1 ∧ P.cellsOf f5.type = 8)
    (h0 : P.underlying f0.type = some (.int .i64)) (h1 : P.underlying f1.type = some (.int .i32)) (h2 : P.underlying f2.type = some (.int .u8)) (h3 : P.underlying f3.type = some (.int .u8)) (h4 : P.underlying f4.type = some (.int .i64)) (h5 : P.underlying f5.type = some (.array 8 e)) (he : P.underlying e = some (.int .i64)) (hce : P.cellsOf e = 1)
    (hval : Value.okWide P W r b0 t v) (h : DataW.Trod enc P W base sp held t v d ps) :
    ∃ k r p m n x0 x1 x2 x3 x4 x5 x6 x7 : Int, v = .agg #[.int .i64 k, .int .i32 r, .int .u8 p, .int .u8 m, .int .i64 n, .int .i64 x0, .int .i64 x1, .int .i64 x2, .int .i64 x3, .int .i64 x4, .int .i64 x5, .int .i64 x6, .int .i64 x7] := by
  obtain ⟨cs, rfl, hsz⟩ := okWide_struct hs hval
  obtain ⟨fuel, hf⟩ := h
  obtain ⟨xs, n, _, hx, hl, hlen, hg⟩ := DataW.trod_struct hs hf
  obtain ⟨o0, o1, o2, o3, o4, o5⟩ := ho
  obtain ⟨k0, k1, k2, k3, k4, k5⟩ := hk
  have hL : cs.toList.length = 13 := by simpa using hsz.trans hC
  match xs, hlen with
  | [y0, y1, y2, y3, y4, y5], _ =>
    have g0 := hg 0 f0 rfl
    have g1 := hg 1 f1 rfl
    have g2 := hg 2 f2 rfl
    have g3 := hg 3 f3 rfl
    have g4 := hg 4 f4 rfl
    have g5 := hg 5 f5 rfl
    simp only [Value.cells, o0, o1, o2, o3, o4, o5, k0, k1, k2, k3, k4, k5] at g0 g1 g2 g3 g4 g5
    obtain ⟨a0, e0, _, _⟩ := DataW.trod_int h0 g0
    obtain ⟨a1, e1, _, _⟩ := DataW.trod_int h1 g1
    obtain ⟨a2, e2, _, _⟩ := DataW.trod_int h2 g2
    obtain ⟨a3, e3, _, _⟩ := DataW.trod_int h3 g3
    obtain ⟨a4, e4, _, _⟩ := DataW.trod_int h4 g4
    obtain ⟨l, hl8, e5⟩ := trod_nums h5 he hce (by simp; omega) g5
    obtain ⟨x0, x1, x2, x3, x4, x5, x6, x7, rfl⟩ := list8 hl8
    have hs13 := split13 _ hL
    rw [List.drop_zero] at e0
    rw [e0, e1, e2, e3, e4, e5] at hs13
    refine ⟨a0, a1, a2, a3, a4, x0, x1, x2, x3, x4, x5, x6, x7, ?_⟩
    obtain ⟨L⟩ := cs
    simp at hs13
    subst hs13
    rfl
end Go.Proofs.Ytndjgcpaiplakaa
