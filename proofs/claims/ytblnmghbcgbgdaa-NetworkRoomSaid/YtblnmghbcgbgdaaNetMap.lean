/-
  A map keyed by two numbers, as a function of these: looked up, an entry made, stored into.
-/
import Derived.Test.YtblnmghbcgbgdaaBase
import Derived.Test.YtblnmghbcgbgdaaChecked
import Derived.WideKeyEntry
import Derived.DeepKeys4
namespace Go.Proofs.Ytblnmghbcgbgdaa
open Go.MapKept Go.ChangeShapes Go.WideShapes Go.WideMaps
open Go.ChangeMaps (setBlock keptBut_setBlock heap_setBlock_same)
set_option linter.unusedVariables false

def I64 (a : Int) : Prop := -9223372036854775808 ≤ a ∧ a ≤ 9223372036854775807
def pairK (a b : Int) : Value := .agg #[.int .i64 a, .int .i64 b]
theorem pairK_inj {a b c d : Int} (h : pairK a b = pairK c d) : a = c ∧ b = d := by simpa [pairK] using h
theorem pairLaw : KeyLaw Try.prog 46 := deep_law_laid (show laidOutB Try.prog = true by kernel_rfl) (m := 2) (by omega) (of_decide_eq_true (by kernel_rfl)) (by kernel_rfl) (by kernel_rfl)
theorem pairReads {a b : Int} (ha : I64 a) (hb : I64 b) : ∃ l, keyOf Try.prog 46 (pairK a b) = some l := by
  have hk : Try.prog.keyType 46 = true := by kernel_rfl
  have hc : Try.prog.cellsOf 46 = 2 := by kernel_rfl
  have hce : Try.prog.cellsOf 3 = 1 := by kernel_rfl
  have wa : (Lit.int .i64 a).wf = true := WalkArith.wf_i64 ha
  have wb : (Lit.int .i64 b).wf = true := WalkArith.wf_i64 hb
  obtain ⟨d, hd⟩ : ∃ d, Try.prog.types.size = d + 1 := ⟨Try.prog.types.size - 1, by have : 0 < Try.prog.types.size := of_decide_eq_true (by kernel_rfl); omega⟩
  simp [keyOf, Try.underlying46, hk, Value.formed, pairK, hc, hd, Program.keyLits, hce, Try.underlying3, wa, wb, Value.cells, List.range_succ]
def LkO (es : Array MapEntry) (clock : Nat) (f : Int → Int → Int) : Prop :=
  Stamped es clock ∧ (∀ x ∈ es.toList, ∃ a b, I64 a ∧ I64 b ∧ x.key = pairK a b ∧ x.val = .int .i64 (f a b)) ∧ (∀ a b, (∀ x ∈ es.toList, x.key ≠ pairK a b) → f a b = 0)
/-- BLOCK g IS A MAP THAT ANSWERS AS f. -/
def Lk (w : World) (g : Nat) (f : Int → Int → Int) : Prop := ∃ es clock, w.heap[g]? = some (.map es clock) ∧ LkO es clock f
theorem lk_made (w : World) : Lk (w.alloc (.map #[] 0)) w.heap.size (fun _ _ => 0) := ⟨#[], 0, (heap_alloc w _).1, stamped_empty 0, by simp, fun _ _ _ => rfl⟩
theorem LkO.reads {es : Array MapEntry} {clock : Nat} {f : Int → Int → Int} (h : LkO es clock f) : ∀ x ∈ es.toList, ∃ l, keyOf Try.prog 46 x.key = some l := fun x hx => by
  obtain ⟨a, b, ha, hb, hk, _⟩ := h.2.1 x hx
  rw [hk]; exact pairReads ha hb
theorem zeroInt (w : World) : (zeroValue 3).run Try.prog w = .ok (.int .i64 0) w := by kernel_rfl
theorem lk_look {w : World} {g : Nat} {f : Int → Int → Int} (h : Lk w g f) {a b : Int} (ha : I64 a) (hb : I64 b) : (Instr.lookup 42 (.map (some g)) (pairK a b) false).run Try.prog w = .ok (.int .i64 (f a b)) w := by
  obtain ⟨es, clock, hg, hO⟩ := h
  obtain ⟨l, hl⟩ := pairReads ha hb
  rcases pairLaw.find w hl es.toList hO.reads with ⟨h1, h2⟩ | ⟨j, e0, h1, h2, h3⟩
  · have hz := hO.2.2 a b h2
    simp [Instr.lookup, run_underlying Try.underlying42, MapKept.run_getObj_map hg, pairLaw.check w _ hl, h1, Result.andThen, hz]
  · obtain ⟨c, d, _, _, hk, hv⟩ := hO.2.1 e0 (List.mem_of_getElem? h2)
    obtain ⟨rfl, rfl⟩ := pairK_inj (hk.symm.trans h3)
    simp [Instr.lookup, run_underlying Try.underlying42, MapKept.run_getObj_map hg, pairLaw.check w _ hl, h1, Result.andThen, hv]
/-- An entry made ready: what it is read as stays. -/
theorem lk_entry {w : World} {g : Nat} {es : Array MapEntry} {clock : Nat} {f : Int → Int → Int} (hg : w.heap[g]? = some (.map es clock)) (hO : LkO es clock f) {a b : Int} (ha : I64 a) (hb : I64 b) :
    ∃ (v : Value) (st : Nat) (es1 : Array MapEntry) (clock1 : Nat), (Instr.mapEntry 42 (.map (some g)) (pairK a b)).run Try.prog w = .ok (.tuple #[v, goInt st]) (setBlock w g (.map es1 clock1)) ∧ LkO es1 clock1 f ∧ ∃ (j : Nat) (e0 : MapEntry), es1.toList[j]? = some e0 ∧ e0.born = st ∧ e0.key = pairK a b := by
  obtain ⟨l, hl⟩ := pairReads ha hb
  rcases pairLaw.find w hl es.toList hO.reads with ⟨h1, h2⟩ | ⟨j, e0, h1, h2, h3⟩
  · refine ⟨.int .i64 0, clock, es.push ⟨pairK a b, .int .i64 0, clock⟩, clock + 1, ?_, ⟨stamped_push hO.1 h2, ?_, ?_⟩, es.size, ⟨pairK a b, .int .i64 0, clock⟩, by simp, rfl, rfl⟩
    · simp [Instr.mapEntry, run_underlying Try.underlying42, MapKept.run_getObj_map hg, pairLaw.check w false hl, h1, MapKept.run_setObj_map _ hg, Result.andThen, setBlock]
    · intro x hx
      simp only [Array.toList_push, List.mem_append, List.mem_singleton] at hx
      rcases hx with hx | rfl
      · exact hO.2.1 x hx
      · exact ⟨a, b, ha, hb, rfl, by rw [hO.2.2 a b h2]⟩
    · intro c d h
      exact hO.2.2 c d (fun x hx => h x (by simp [hx]))
  · have hj : es[j]? = some e0 := by simpa using h2
    have hsame : es.modify j (fun e => { e with key := pairK a b }) = es := by
      apply Array.ext'
      rw [Array.toList_modify, Go.ChangeMaps.modify_eq_set _ _ _ _ h2]
      have : ({ e0 with key := pairK a b } : MapEntry) = e0 := by rw [← h3]
      rw [this]
      exact WideElems.set_self _ _ _ h2
    refine ⟨e0.val, e0.born, es, clock, ?_, hO, j, e0, h2, rfl, h3⟩
    simp [Instr.mapEntry, run_underlying Try.underlying42, MapKept.run_getObj_map hg, pairLaw.check w false hl, h1, hj, h3, pairLaw.stays w hl, hsame, MapKept.run_setObj_map _ hg, Result.andThen, setBlock]
/-- f, but v at (a, b). -/
def upd (f : Int → Int → Int) (a b v : Int) : Int → Int → Int := fun c d => if c = a ∧ d = b then v else f c d
theorem lk_store {w : World} {g : Nat} {es : Array MapEntry} {clock : Nat} {f : Int → Int → Int} (hg : w.heap[g]? = some (.map es clock)) (hO : LkO es clock f) {a b : Int} {st j : Nat} {e0 : MapEntry} (h2 : es.toList[j]? = some e0) (hst : e0.born = st) (hk : e0.key = pairK a b) (v : Int) :
    ∃ es', (Instr.entryStore 42 (.map (some g)) (goInt st) (.int .i64 v)).run Try.prog w = .ok () (setBlock w g (.map es' clock)) ∧ LkO es' clock (upd f a b v) := by
  subst hst
  have hidx : es.findIdx? (fun e => ((e.born : Nat) : Int) == ((e0.born : Nat) : Int)) = some j := by
    rw [WideElems.findIdx_arr]
    exact WideElems.findIdx_born hO.1.2.1 h2
  have hnd := hO.1.2.2
  refine ⟨es.modify j (fun e => { e with val := .int .i64 v }), ?_, stamped_modify hO.1 _ _ (fun _ _ => rfl) (fun _ _ _ => rfl), ?_, ?_⟩
  · simp [Instr.entryStore, MapKept.run_getObj_map hg, asInt, asIntOf, goInt, hidx, MapKept.run_setObj_map _ hg, Result.andThen, setBlock]
  · intro x hx
    rw [Array.toList_modify, Go.ChangeMaps.modify_eq_set _ _ _ _ h2] at hx
    obtain ⟨i, hi⟩ := List.mem_iff_getElem?.1 hx
    rw [List.getElem?_set] at hi
    split at hi
    · rename_i hij
      split at hi
      · obtain ⟨c, d, hc, hd, hk0, _⟩ := hO.2.1 e0 (List.mem_of_getElem? h2)
        obtain ⟨rfl, rfl⟩ := pairK_inj (hk0.symm.trans hk)
        have hi := Option.some.inj hi
        subst hi
        exact ⟨c, d, hc, hd, hk, by simp [upd]⟩
      · cases hi
    · rename_i hij
      obtain ⟨c, d, hc, hd, hk0, hv⟩ := hO.2.1 x (List.mem_of_getElem? hi)
      refine ⟨c, d, hc, hd, hk0, ?_⟩
      have hne : ¬ (c = a ∧ d = b) := by
        rintro ⟨rfl, rfl⟩
        have e1 : (es.toList.map (·.key))[i]? = some (pairK c d) := by rw [List.getElem?_map, hi]; simp [hk0]
        have e2 : (es.toList.map (·.key))[j]? = some (pairK c d) := by rw [List.getElem?_map, h2]; simp [hk]
        have := List.getElem?_inj (i := j) (j := i) (by have := (List.getElem?_eq_some_iff.1 e2).1; exact this) hnd |>.1 (by rw [e1, e2])
        exact hij this
      rw [hv, upd, if_neg hne]
  · intro c d h
    by_cases hcd : c = a ∧ d = b
    · obtain ⟨rfl, rfl⟩ := hcd
      have hlt := (List.getElem?_eq_some_iff.1 h2).1
      refine absurd hk (h { e0 with val := .int .i64 v } ?_)
      rw [Array.toList_modify, Go.ChangeMaps.modify_eq_set _ _ _ _ h2]
      exact List.mem_set hlt _
    · rw [upd, if_neg hcd]
      refine hO.2.2 c d (fun x hx hxk => ?_)
      obtain ⟨i, hi⟩ := List.mem_iff_getElem?.1 hx
      by_cases hij : j = i
      · subst hij
        have hi : x = e0 := Option.some.inj (hi.symm.trans h2)
        subst hi
        exact hcd (by obtain ⟨rfl, rfl⟩ := pairK_inj (hxk.symm.trans hk); exact ⟨rfl, rfl⟩)
      · refine h x ?_ hxk
        rw [Array.toList_modify, Go.ChangeMaps.modify_eq_set _ _ _ _ h2]
        exact List.mem_of_getElem? (i := i) (by rw [List.getElem?_set_ne hij]; exact hi)
end Go.Proofs.Ytblnmghbcgbgdaa
