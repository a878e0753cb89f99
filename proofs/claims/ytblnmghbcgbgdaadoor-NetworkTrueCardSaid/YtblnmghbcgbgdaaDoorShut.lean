/-
  The last step of every law's row, once: a call that answers true and has turned nothing that was there before meets the row's end; and what the small kinds of arguments open to.
  Conditions: the law returns one bool; its specification hands the arguments back as they were.
-/
import Derived.Test.YtblnmghbcgbgdaaDoorBase
import Derived.ProofKit
import Derived.OpenShut
import Derived.Carry
import Derived.Lib.SmallJoins
namespace Go.Proofs.YtblnmghbcgbgdaaDoor
open Go.ChangeShapes Go.WideShapes Go.ChangeAt Go.RowKit
set_option linter.unusedVariables false

section
variable {H : Type} {enc : TypeId × Value → H} {P : Program}

theorem trodAll_same (hl : laidOutB P = true) : ∀ {ts : List TypeId} {W W' : World} {sp : Nat → Bool} {vs : List Value} {ds : List (DataW H)} {ps : List MemPlace},
    (∀ t ∈ ts, P.readableRec t = true ∧ t < P.types.size) → DataW.TrodAll enc P W 0 (fun _ => true) true ts vs ds ps → Below W.heap.size W W' →
    (∀ p ∈ ps, p.block < W.heap.size) → (∀ p ∈ ps, sp p.block = true) → DataW.TrodAll enc P W' 0 sp true ts vs ds ps
  | [], _, _, _, _, _, _, _, h, _, _, _ => by
    obtain ⟨rfl, rfl, rfl⟩ := trodAll_nil h
    exact trodAll_mk0
  | t :: ts, W, W', sp, vs, ds, ps, hr, h, hb, hlt, hs => by
    obtain ⟨v0, vs0, d0, ds0, p0, q0, rfl, rfl, rfl, h0, r0⟩ := trodAll_cons h
    exact trodAll_cons_mk (WideElems.Trod_stays hl (hr t (by simp)).1 (hr t (by simp)).2 h0 (fun x hx => hb.same (hlt x (by simp [hx]))) (fun x hx => hs x (by simp [hx])))
      (trodAll_same hl (fun t' ht => hr t' (by simp [ht])) r0 hb (fun x hx => hlt x (by simp [hx])) (fun x hx => hs x (by simp [hx])))

/-- A LAW'S END. -/
theorem law_post (hl : laidOutB P = true) {f : Func} {s : ChangeSpec} {W W' : World} {args : Array Value} {ds gs : List (DataW H)} {before : List MemPlace} {tb : TypeId}
    (hr : ∀ t ∈ f.params.toList, P.readableRec t = true ∧ t < P.types.size) (hres : f.resultTypes = #[tb]) (htb : P.underlying tb = some .bool) (hvars : s.vars = [])
    (hW : DataW.Whole enc P f.params.toList s.vars false W args.toList ds gs before)
    (hspec : s.fn H (ds ++ gs) = { results := [.lit (.bool true)], args := ds }) (hb : Below W.heap.size W W') :
    s.post enc P f false true false false W args (.bool true) W' := by
  have hlt : ∀ p ∈ before, p.block < W.heap.size := fun p hp => hW.lt p hp
  have hW' := hW
  obtain ⟨p, q, hA, hV, hpq, hfz, hnd⟩ := hW
  have hV' : DataW.TrodVars enc P W (fun _ => true) [] gs q := by rw [← hvars]; exact hV
  obtain ⟨rfl, rfl⟩ := trodVars_none hV'
  simp only [List.append_nil] at hpq
  subst hpq
  refine ⟨ds, [], before, [], before, [], hW', ?_, ?_, ?_, World.keptBut_mono (fun x hx => ⟨hx, .inr (.inl hx)⟩) (hb.frame (· ∈ before)), fun h => by cases h⟩
  · rw [hspec, hres]
    exact trodAll_mk1 (shut_bool htb true)
  · rw [hspec]
    exact trodAll_same hl hr hA hb hlt (fun x hx => by simpa using hlt x hx)
  · rw [hspec, hvars]
    exact rfl

/-- Bounds of an int. -/
theorem wf_int {n : Int} (h : (Lit.int .i64 n).wf = true) : -9223372036854775808 ≤ n ∧ n ≤ 9223372036854775807 := by
  simpa [Lit.wf, IntKind.min, IntKind.max, IntKind.signed, IntKind.bits] using h
theorem wf_u8 {n : Int} (h : (Lit.int .u8 n).wf = true) : ∃ b : UInt8, n = (b.toNat : Int) := by
  have h' : 0 ≤ n ∧ n ≤ 255 := by simpa [Lit.wf, IntKind.min, IntKind.max, IntKind.signed, IntKind.bits] using h
  refine ⟨UInt8.ofNat n.toNat, ?_⟩
  rw [UInt8.toNat_ofNat']
  omega

/-- An array of four bytes, by value. -/
theorem open_bytes4 {W : World} {base b0 : Nat} {sp : Nat → Bool} {held : Bool} {r : Reach} {t e : TypeId} {v : Value} {d : DataW H} {ps : List MemPlace} (ht : P.underlying t = some (.array 4 e)) (he : P.underlying e = some (.int .u8)) (hce : P.cellsOf e = 1) (hct : P.cellsOf t = 4)
    (hval : Value.okWide P W r b0 t v) (h : DataW.Trod enc P W base sp held t v d ps) : ∃ x0 x1 x2 x3 : UInt8, v = .agg #[V8 x0, V8 x1, V8 x2, V8 x3] := by
  obtain ⟨fuel, hf⟩ := h
  obtain ⟨cs, rfl⟩ : ∃ cs, v = .agg cs := by
    cases v <;> simp [Value.okWide, ht] at hval ⊢
  obtain ⟨xs, m, _, hx, hlen, hxs, hg⟩ := DataW.trod_array ht hf
  simp only [Value.cells, hce, hct, Nat.mul_one] at hlen hg
  have get : ∀ i, i < 4 → ∃ x : UInt8, cs[i]? = some (V8 x) := by
    intro i hi
    have h1 := hg i hi
    have hy : xs[i]? = some (xs[i]'(by omega)) := List.getElem?_eq_getElem _
    rw [hy] at h1
    obtain ⟨n, hc, _, wn⟩ := DataW.trod_int he h1
    obtain ⟨b, rfl⟩ := wf_u8 wn
    refine ⟨b, ?_⟩
    have := cell_of_cut hc
    simpa [V8] using this
  obtain ⟨x0, h0⟩ := get 0 (by omega)
  obtain ⟨x1, h1⟩ := get 1 (by omega)
  obtain ⟨x2, h2⟩ := get 2 (by omega)
  obtain ⟨x3, h3⟩ := get 3 (by omega)
  refine ⟨x0, x1, x2, x3, ?_⟩
  congr 1
  have hsz : cs.size = 4 := by simpa using hlen
  obtain ⟨c0, c1, c2, c3, rfl⟩ := Joins.array4 hsz
  simp at h0 h1 h2 h3
  subst h0; subst h1; subst h2; subst h3
  rfl
end
end Go.Proofs.YtblnmghbcgbgdaaDoor
