/-
  A network of packets: its map, the network that is none, New.
  Conditions: none.
-/
import Derived.Test.YtblnmghbcgbgdaaDoorBase
import Derived.Test.YtblnmghbcgbgdaaDoorChecked
import Derived.WideKeyEntry
import Derived.DeepKeys4
import Derived.Deep.QuietTactic
import Derived.BigQuiet
import Derived.BigRegion
import Derived.Deep.RegionHeld3
import Derived.Outline
import Derived.Maps.AppendAt
import Derived.Laws.AppendOwnNone
namespace Go.Proofs.YtblnmghbcgbgdaaDoor
open Go.MapKept Go.ChangeShapes Go.WideShapes Go.WideMaps
open Go.ChangeMaps (setBlock keptBut_setBlock heap_setBlock_same)
set_option linter.unusedVariables false

def I64 (a : Int) : Prop := -9223372036854775808 ≤ a ∧ a ≤ 9223372036854775807
def pairK (a b : Int) : Value := .agg #[.int .i64 a, .int .i64 b]
theorem pairK_inj {a b c d : Int} (h : pairK a b = pairK c d) : a = c ∧ b = d := by simpa [pairK] using h
theorem pairLaw : KeyLaw Tryd.prog 94 := deep_law_laid (show laidOutB Tryd.prog = true by kernel_rfl) (m := 2) (by omega) (of_decide_eq_true (by kernel_rfl)) (by kernel_rfl) (by kernel_rfl)
theorem pairReads {a b : Int} (ha : I64 a) (hb : I64 b) : ∃ l, keyOf Tryd.prog 94 (pairK a b) = some l := by
  have hk : Tryd.prog.keyType 94 = true := by kernel_rfl
  have hc : Tryd.prog.cellsOf 94 = 2 := by kernel_rfl
  have hce : Tryd.prog.cellsOf 3 = 1 := by kernel_rfl
  have wa : (Lit.int .i64 a).wf = true := WalkArith.wf_i64 ha
  have wb : (Lit.int .i64 b).wf = true := WalkArith.wf_i64 hb
  obtain ⟨d, hd⟩ : ∃ d, Tryd.prog.types.size = d + 1 := ⟨Tryd.prog.types.size - 1, by have : 0 < Tryd.prog.types.size := of_decide_eq_true (by kernel_rfl); omega⟩
  simp [keyOf, Tryd.underlying94, hk, Value.formed, pairK, hc, hd, Program.keyLits, hce, Tryd.underlying3, wa, wb, Value.cells, List.range_succ]
def LkO (es : Array MapEntry) (clock : Nat) (f : Int → Int → Int) : Prop :=
  Stamped es clock ∧ (∀ x ∈ es.toList, ∃ a b, I64 a ∧ I64 b ∧ x.key = pairK a b ∧ x.val = .int .i64 (f a b)) ∧ (∀ a b, (∀ x ∈ es.toList, x.key ≠ pairK a b) → f a b = 0)
/-- BLOCK g IS A MAP THAT ANSWERS AS f. -/
def Lk (w : World) (g : Nat) (f : Int → Int → Int) : Prop := ∃ es clock, w.heap[g]? = some (.map es clock) ∧ LkO es clock f
theorem lk_made (w : World) : Lk (w.alloc (.map #[] 0)) w.heap.size (fun _ _ => 0) := ⟨#[], 0, (heap_alloc w _).1, stamped_empty 0, by simp, fun _ _ _ => rfl⟩
theorem LkO.reads {es : Array MapEntry} {clock : Nat} {f : Int → Int → Int} (h : LkO es clock f) : ∀ x ∈ es.toList, ∃ l, keyOf Tryd.prog 94 x.key = some l := fun x hx => by
  obtain ⟨a, b, ha, hb, hk, _⟩ := h.2.1 x hx
  rw [hk]; exact pairReads ha hb
theorem zeroInt (w : World) : (zeroValue 3).run Tryd.prog w = .ok (.int .i64 0) w := by kernel_rfl
theorem lk_look {w : World} {g : Nat} {f : Int → Int → Int} (h : Lk w g f) {a b : Int} (ha : I64 a) (hb : I64 b) : (Instr.lookup 87 (.map (some g)) (pairK a b) false).run Tryd.prog w = .ok (.int .i64 (f a b)) w := by
  obtain ⟨es, clock, hg, hO⟩ := h
  obtain ⟨l, hl⟩ := pairReads ha hb
  rcases pairLaw.find w hl es.toList hO.reads with ⟨h1, h2⟩ | ⟨j, e0, h1, h2, h3⟩
  · have hz := hO.2.2 a b h2
    simp [Instr.lookup, run_underlying Tryd.underlying87, MapKept.run_getObj_map hg, pairLaw.check w _ hl, h1, Result.andThen, hz]
  · obtain ⟨c, d, _, _, hk, hv⟩ := hO.2.1 e0 (List.mem_of_getElem? h2)
    obtain ⟨rfl, rfl⟩ := pairK_inj (hk.symm.trans h3)
    simp [Instr.lookup, run_underlying Tryd.underlying87, MapKept.run_getObj_map hg, pairLaw.check w _ hl, h1, Result.andThen, hv]
/-- An entry made ready: what it is read as stays. -/
theorem lk_entry {w : World} {g : Nat} {es : Array MapEntry} {clock : Nat} {f : Int → Int → Int} (hg : w.heap[g]? = some (.map es clock)) (hO : LkO es clock f) {a b : Int} (ha : I64 a) (hb : I64 b) :
    ∃ (v : Value) (st : Nat) (es1 : Array MapEntry) (clock1 : Nat), (Instr.mapEntry 87 (.map (some g)) (pairK a b)).run Tryd.prog w = .ok (.tuple #[v, goInt st]) (setBlock w g (.map es1 clock1)) ∧ LkO es1 clock1 f ∧ ∃ (j : Nat) (e0 : MapEntry), es1.toList[j]? = some e0 ∧ e0.born = st ∧ e0.key = pairK a b := by
  obtain ⟨l, hl⟩ := pairReads ha hb
  rcases pairLaw.find w hl es.toList hO.reads with ⟨h1, h2⟩ | ⟨j, e0, h1, h2, h3⟩
  · refine ⟨.int .i64 0, clock, es.push ⟨pairK a b, .int .i64 0, clock⟩, clock + 1, ?_, ⟨stamped_push hO.1 h2, ?_, ?_⟩, es.size, ⟨pairK a b, .int .i64 0, clock⟩, by simp, rfl, rfl⟩
    · simp [Instr.mapEntry, run_underlying Tryd.underlying87, MapKept.run_getObj_map hg, pairLaw.check w false hl, h1, MapKept.run_setObj_map _ hg, Result.andThen, setBlock]
    · intro x hx
      simp only [Array.toList_push, List.mem_append, List.mem_singleton] at hx
      rcases hx with hx | rfl
      · exact hO.2.1 x hx
      · exact ⟨a, b, ha, hb, rfl, by rw [hO.2.2 a b h2]⟩
    · intro c d h
      exact hO.2.2 c d (fun x hx => h x (by simp [hx]))
  · have hj : es[j]? = some e0 := by simpa using h2
    have hsame : es.modify j (fun e => { e with key := pairK a b }) = es := by
      apply Array.ext'
      rw [Array.toList_modify, Go.ChangeMaps.modify_eq_set _ _ _ _ h2]
      have : ({ e0 with key := pairK a b } : MapEntry) = e0 := by rw [← h3]
      rw [this]
      exact WideElems.set_self _ _ _ h2
    refine ⟨e0.val, e0.born, es, clock, ?_, hO, j, e0, h2, rfl, h3⟩
    simp [Instr.mapEntry, run_underlying Tryd.underlying87, MapKept.run_getObj_map hg, pairLaw.check w false hl, h1, hj, h3, pairLaw.stays w hl, hsame, MapKept.run_setObj_map _ hg, Result.andThen, setBlock]
/-- f, but v at (a, b). -/
def upd (f : Int → Int → Int) (a b v : Int) : Int → Int → Int := fun c d => if c = a ∧ d = b then v else f c d
theorem lk_store {w : World} {g : Nat} {es : Array MapEntry} {clock : Nat} {f : Int → Int → Int} (hg : w.heap[g]? = some (.map es clock)) (hO : LkO es clock f) {a b : Int} {st j : Nat} {e0 : MapEntry} (h2 : es.toList[j]? = some e0) (hst : e0.born = st) (hk : e0.key = pairK a b) (v : Int) :
    ∃ es', (Instr.entryStore 87 (.map (some g)) (goInt st) (.int .i64 v)).run Tryd.prog w = .ok () (setBlock w g (.map es' clock)) ∧ LkO es' clock (upd f a b v) := by
  subst hst
  have hidx : es.findIdx? (fun e => ((e.born : Nat) : Int) == ((e0.born : Nat) : Int)) = some j := by
    rw [WideElems.findIdx_arr]
    exact WideElems.findIdx_born hO.1.2.1 h2
  have hnd := hO.1.2.2
  refine ⟨es.modify j (fun e => { e with val := .int .i64 v }), ?_, stamped_modify hO.1 _ _ (fun _ _ => rfl) (fun _ _ _ => rfl), ?_, ?_⟩
  · simp [Instr.entryStore, MapKept.run_getObj_map hg, asInt, asIntOf, goInt, hidx, MapKept.run_setObj_map _ hg, Result.andThen, setBlock]
  · intro x hx
    rw [Array.toList_modify, Go.ChangeMaps.modify_eq_set _ _ _ _ h2] at hx
    obtain ⟨i, hi⟩ := List.mem_iff_getElem?.1 hx
    rw [List.getElem?_set] at hi
    split at hi
    · rename_i hij
      split at hi
      · obtain ⟨c, d, hc, hd, hk0, _⟩ := hO.2.1 e0 (List.mem_of_getElem? h2)
        obtain ⟨rfl, rfl⟩ := pairK_inj (hk0.symm.trans hk)
        have hi := Option.some.inj hi
        subst hi
        exact ⟨c, d, hc, hd, hk, by simp [upd]⟩
      · cases hi
    · rename_i hij
      obtain ⟨c, d, hc, hd, hk0, hv⟩ := hO.2.1 x (List.mem_of_getElem? hi)
      refine ⟨c, d, hc, hd, hk0, ?_⟩
      have hne : ¬ (c = a ∧ d = b) := by
        rintro ⟨rfl, rfl⟩
        have e1 : (es.toList.map (·.key))[i]? = some (pairK c d) := by rw [List.getElem?_map, hi]; simp [hk0]
        have e2 : (es.toList.map (·.key))[j]? = some (pairK c d) := by rw [List.getElem?_map, h2]; simp [hk]
        have := List.getElem?_inj (i := j) (j := i) (by have := (List.getElem?_eq_some_iff.1 e2).1; exact this) hnd |>.1 (by rw [e1, e2])
        exact hij this
      rw [hv, upd, if_neg hne]
  · intro c d h
    by_cases hcd : c = a ∧ d = b
    · obtain ⟨rfl, rfl⟩ := hcd
      have hlt := (List.getElem?_eq_some_iff.1 h2).1
      refine absurd hk (h { e0 with val := .int .i64 v } ?_)
      rw [Array.toList_modify, Go.ChangeMaps.modify_eq_set _ _ _ _ h2]
      exact List.mem_set hlt _
    · rw [upd, if_neg hcd]
      refine hO.2.2 c d (fun x hx hxk => ?_)
      obtain ⟨i, hi⟩ := List.mem_iff_getElem?.1 hx
      by_cases hij : j = i
      · subst hij
        have hi : x = e0 := Option.some.inj (hi.symm.trans h2)
        subst hi
        exact hcd (by obtain ⟨rfl, rfl⟩ := pairK_inj (hxk.symm.trans hk); exact ⟨rfl, rfl⟩)
      · refine h x ?_ hxk
        rw [Array.toList_modify, Go.ChangeMaps.modify_eq_set _ _ _ _ h2]
        exact List.mem_of_getElem? (i := i) (by rw [List.getElem?_set_ne hij]; exact hi)
end Go.Proofs.YtblnmghbcgbgdaaDoor

namespace Go.Proofs.YtblnmghbcgbgdaaDoor
open Go.RowKit
set_option linter.unusedVariables false

def pkV (a b : Int) (s : ByteArray) : Value := .agg #[.int .i64 a, .int .i64 b, .string s]
theorem len_nil (w : World) : Calls Tryd.prog 44 #[.pointer none] w fun e w' => e = .returned (.int .i64 0) ∧ w = w' := by
  go_enter Tryd.func44, Tryd.ntmps44
  go_wp2
  go_ret
  exact ⟨rfl, rfl⟩
theorem lost_nil (w : World) : Calls Tryd.prog 45 #[.pointer none] w fun e w' => e = .returned (.int .i64 0) ∧ w = w' := by
  go_enter Tryd.func45, Tryd.ntmps45
  go_wp2
  go_ret
  exact ⟨rfl, rfl⟩
theorem with_nil (i : Int) (v : Value) (w : World) : Calls Tryd.prog 49 #[.pointer none, .int .i64 i, v] w fun e w' => e = .returned (.bool false) ∧ Fr noneOf w w' := by
  by_cases h : i < 0
  · go_enter Tryd.func49, Tryd.ntmps49
    go_wp2
    go_ret
    exact ⟨rfl, by repeat (first | exact Fr.refl _ _ | apply Fr.drewN | apply Fr.drew)⟩
  · have h0 : 0 ≤ i := by omega
    go_enter Tryd.func49, Tryd.ntmps49
    go_wp2_with (go_at_call 44; refine (len_nil _).mono ?_; rintro e w' ⟨rfl, rfl⟩)
    go_ret
    exact ⟨rfl, by repeat (first | exact Fr.refl _ _ | apply Fr.drewN | apply Fr.drew)⟩
theorem send_nil (a b : Int) (s : ByteArray) (w : World) : Calls Tryd.prog 19 #[.pointer none, .agg #[.int .i64 a, .int .i64 b, .string s]] w fun e w' => e = .returned (.bool false) ∧ Fr noneOf w w' := by
  go_enter Tryd.func19, Tryd.ntmps19
  go_wp2
  go_ret
  exact ⟨rfl, by repeat (first | exact Fr.refl _ _ | apply Fr.alloc | apply Fr.drewN | apply Fr.drew)⟩
theorem take_nil (i : Int) (w : World) : Calls Tryd.prog 21 #[.pointer none, .int .i64 i] w fun e w' => e = .returned (.tuple #[.agg #[.int .i64 0, .int .i64 0, .string ⟨#[]⟩], .bool false]) ∧ Fr noneOf w w' := by
  have h4 := Blk.new ((w.alloc (.cells #[.pointer none] 44)).alloc (.cells #[.int .i64 i] 3)) 53 #[.int .i64 0, .int .i64 0, .string ⟨#[]⟩]
  rw [show ((w.alloc (.cells #[.pointer none] 44)).alloc (.cells #[.int .i64 i] 3)).heap.size = w.heap.size + 1 + 1 by simp] at h4
  have H4 := Lib.hid h4
  clear h4
  go_enter Tryd.func21, Tryd.ntmps21
  go_wp2_with (go_at_call 49; refine (with_nil _ _ _).mono ?_; rintro e w1 ⟨rfl, hf1⟩; have HB := Lib.hid (H4.out.fr0 hf1); have d0 : w1.cell? ⟨w.heap.size + 1 + 1, 0, none⟩ = some (.int .i64 0) := HB.out.cell 0; have d1 : w1.cell? ⟨w.heap.size + 1 + 1, 1, none⟩ = some (.int .i64 0) := HB.out.cell 1; have d2 : w1.cell? ⟨w.heap.size + 1 + 1, 2, none⟩ = some (.string ⟨#[]⟩) := HB.out.cell 2; have e0 := HB.out.frozen 0; have e1 := HB.out.frozen 1; have e2 := HB.out.frozen 2)
  have E := Lib.hid (((HB.out.set_ 0 (.int .i64 0)).set_ 1 (.int .i64 0)).set_ 2 (.string ⟨#[]⟩))
  have E0 := E.out.cell 0
  have E1 := E.out.cell 1
  have E2 := E.out.cell 2
  refine bodyPost_ret (v := .tuple #[.agg #[.int .i64 0, .int .i64 0, .string ⟨#[]⟩], .bool false]) (by simp [results, Tryd.results21, go_sem, E0, E1, E2]) rfl ⟨rfl, ?_⟩
  exact ((((((Fr.refl noneOf w).alloc _).alloc _).alloc _).trans hf1).setCell (p := ⟨w.heap.size + 1 + 1, 0, none⟩) (.inr (by show w.heap.size ≤ w.heap.size + 1 + 1; omega)) _ |>.setCell (p := ⟨w.heap.size + 1 + 1, 1, none⟩) (.inr (by show w.heap.size ≤ w.heap.size + 1 + 1; omega)) _).setCell (p := ⟨w.heap.size + 1 + 1, 2, none⟩) (.inr (by show w.heap.size ≤ w.heap.size + 1 + 1; omega)) _
theorem copy_nil (i : Int) (w : World) : Calls Tryd.prog 23 #[.pointer none, .int .i64 i] w fun e w' => e = .returned (.bool false) ∧ Fr noneOf w w' := by
  go_enter Tryd.func23, Tryd.ntmps23
  go_wp2_with (go_at_call 49; refine (with_nil _ _ _).mono ?_; rintro e w1 ⟨rfl, hf1⟩)
  go_ret
  exact ⟨rfl, ((Fr.refl noneOf w).alloc _).trans hf1⟩
theorem spoil_nil (i at' : Int) (b0 b1 b2 b3 : Int) (w : World) : Calls Tryd.prog 24 #[.pointer none, .int .i64 i, .int .i64 at', .agg #[.int .u8 b0, .int .u8 b1, .int .u8 b2, .int .u8 b3]] w fun e w' => e = .returned (.bool false) ∧ Fr noneOf w w' := by
  go_enter Tryd.func24, Tryd.ntmps24
  go_wp2_with (go_at_call 49; refine (with_nil _ _ _).mono ?_; rintro e w1 ⟨rfl, hf1⟩)
  go_ret
  exact ⟨rfl, (((Fr.refl noneOf w).alloc _).alloc _).trans hf1⟩
/-- May it be. -/
def mayBe (a b n : Int) : Bool := decide (0 ≤ min a b) && decide (max a b ≤ 15) && !(a == b) && decide (n ≤ 4100)
theorem may_any (a b : Int) (s : ByteArray) (w : World) (hs : s.size ≤ 9223372036854775807) : Calls Tryd.prog 48 #[.agg #[.int .i64 a, .int .i64 b, .string s]] w fun e w' => e = .returned (.bool (mayBe a b s.size)) ∧ Fr noneOf w w' := by
  have key : (¬ 0 ≤ min a b ∧ mayBe a b s.size = false) ∨ (0 ≤ min a b ∧ ¬ max a b ≤ 15 ∧ mayBe a b s.size = false) ∨ (0 ≤ min a b ∧ max a b ≤ 15 ∧ (a != b) = false ∧ mayBe a b s.size = false) ∨ (0 ≤ min a b ∧ max a b ≤ 15 ∧ (a != b) = true ∧ ¬ (s.size : Int) ≤ 4100 ∧ mayBe a b s.size = false) ∨ (0 ≤ min a b ∧ max a b ≤ 15 ∧ (a != b) = true ∧ (s.size : Int) ≤ 4100 ∧ mayBe a b s.size = true) := by
    by_cases h1 : 0 ≤ min a b
    · by_cases h2 : max a b ≤ 15
      · cases h3 : a == b
        · by_cases h4 : (s.size : Int) ≤ 4100
          · exact .inr (.inr (.inr (.inr ⟨h1, h2, by rw [bne, h3]; rfl, h4, by simp only [mayBe, h1, h2, h3, h4]; rfl⟩)))
          · exact .inr (.inr (.inr (.inl ⟨h1, h2, by rw [bne, h3]; rfl, h4, by simp only [mayBe, h1, h2, h3, h4]; rfl⟩)))
        · exact .inr (.inr (.inl ⟨h1, h2, by rw [bne, h3]; rfl, by simp only [mayBe, h1, h2, h3]; rfl⟩))
      · exact .inr (.inl ⟨h1, h2, by simp only [mayBe, h1, h2]; rfl⟩)
    · exact .inl ⟨h1, by simp only [mayBe, h1]; rfl⟩
  have K := Lib.hid key
  clear key hs
  obtain ⟨x, hx⟩ : ∃ x, x = mayBe a b s.size := ⟨_, rfl⟩
  rw [← hx] at K ⊢
  clear hx
  rcases K.out with ⟨h1, rfl⟩ | ⟨h1, h2, rfl⟩ | ⟨h1, h2, h3, rfl⟩ | ⟨h1, h2, h3, h4, rfl⟩ | ⟨h1, h2, h3, h4, rfl⟩
  all_goals
    clear K
    go_enter Tryd.func48, Tryd.ntmps48
    go_wp2
    all_goals
      go_ret
      exact ⟨rfl, by repeat (first | exact Fr.refl _ _ | apply Fr.alloc | apply Fr.drewN | apply Fr.drew)⟩
end Go.Proofs.YtblnmghbcgbgdaaDoor

namespace Go.Proofs.YtblnmghbcgbgdaaDoor
open Go.RowKit

/-- THE SLICE AT ADDRESS A OF n ELEMENTS, size CELLS EACH, HOLDS THE CELLS xs. -/
def Sl (w : World) (A : Option Addr) (n size : Nat) (xs : List Value) : Prop :=
  xs.length = n * size ∧ (0 < n → ∃ g o, A = some ⟨g, o, none⟩ ∧ g < w.heap.size ∧ ∀ j v, xs[j]? = some v → w.cell? ⟨g, o + j, none⟩ = some v)

namespace Sl
variable {w w' : World} {A : Option Addr} {n size : Nat} {xs : List Value}
theorem empty : Sl w A 0 size [] := ⟨by simp, fun h => absurd h (by omega)⟩
/-- Whatever turns no older block (but those of S, in which it does not lie) leaves it. -/
theorem frS {S : Nat → Prop} (h : Sl w A n size xs) (hf : Fr S w w') (hs : ∀ g o, A = some ⟨g, o, none⟩ → 0 < n → ¬ S g) : Sl w' A n size xs :=
  ⟨h.1, fun hn => by
    obtain ⟨g, o, e, hg, hc⟩ := h.2 hn
    exact ⟨g, o, e, Nat.lt_of_lt_of_le hg hf.size, fun j v hj => (hf.cell (p := ⟨g, o + j, none⟩) hg (hs g o e hn)).trans (hc j v hj)⟩⟩
theorem fr (h : Sl w A n size xs) (hf : Fr noneOf w w') : Sl w' A n size xs := h.frS hf (fun _ _ _ _ x => x)
theorem of_row {base : Nat} {e : TypeId} {c : Nat} (h : w.ownsRow base e size (.slice A n c) n xs) : Sl w A n size xs := by
  refine ⟨h.1, fun hn => ?_⟩
  rcases h.2 with ⟨hv, h0⟩ | ⟨g, cap, cur, hv, _, hg, hnc, _, hcur, ht⟩
  · omega
  · have hA : A = some ⟨g, 0, none⟩ := by injection hv
    refine ⟨g, 0, hA, ?_, fun j v hj => ?_⟩
    · rcases Nat.lt_or_ge g w.heap.size with hlt | hge
      · exact hlt
      · rw [Array.getElem?_eq_none hge] at hg; cases hg
    · have hjl := (List.getElem?_eq_some_iff.1 hj).1
      rw [h.1] at hjl
      rw [cell_of_row w g (0 + j) cur e (0, 0) hg, Nat.zero_add]
      rw [← ht, List.getElem?_take, if_pos hjl] at hj
      simpa using hj
end Sl

section
variable {P : Program} {w : World}
theorem run_append_sl (base : Nat) (t ty e : TypeId) (i : TypeInfo) (z : Value) (size bytes : Nat) (ht : P.underlying t = some (.slice e)) (hi : P.info? e = some i) (hz : i.zero = some z)
    (hsize : i.size = size) (hby : i.bytes = bytes) (hzs : z.cells.size = size) (hsz : 0 < size) (v : Value) (n : Nat) (xs : List Value) (hown : w.ownsRow base e size v n xs)
    (A : Option Addr) (m c : Nat) (news : List Value) (hs : Sl w A m size news) (h1 : ∀ u ∈ news, u.oneCell' = true) (hnc : A = none → c = 0)
    (h63 : n + m ≤ maxLen) (hbytes : (n + m) * bytes ≤ 140737488355328) (hbase : base ≤ w.heap.size) :
    ∃ v' w', (Builtin.append_ #[t, t] ty #[v, .slice A m c]).run P w = .ok v' w' ∧ w'.ownsRow base e size v' (n + m) (xs ++ news) ∧ w.grownBy w' v.ownBlock ∧ (v'.ownBlock = v.ownBlock ∨ v'.ownBlock = some w.heap.size) := by
  cases A with
  | none =>
    have hm : m = 0 := by
      rcases Nat.eq_zero_or_pos m with h0 | h0
      · exact h0
      · obtain ⟨g, o, e, _⟩ := hs.2 h0
        cases e
    subst hm
    have hnews : news = [] := List.length_eq_zero_iff.1 (by rw [hs.1]; simp)
    subst hnews
    have hc := hnc rfl
    subst hc
    exact ⟨v, w, run_append_owned_none (P := P) (w := w) base t ty e i size ht hi v n xs hown, by simpa using hown, World.grownBy.refl w _, .inl rfl⟩
  | some a =>
    obtain ⟨v', w', hr, h2, h3, _, h5⟩ := run_append_own_at (P := P) w base t ty e i z size bytes ht hi hz hsize hby hzs hsz v n xs hown a m c news hs.1 (fun j u hj => by
      have hpos : 0 < m := by
        rcases Nat.eq_zero_or_pos m with h0 | h0
        · have hl := hs.1
          rw [h0, Nat.zero_mul] at hl
          have := (List.getElem?_eq_some_iff.1 hj).1
          omega
        · exact h0
      obtain ⟨g, o, ea, _, hc⟩ := hs.2 hpos
      cases ea
      have : (⟨g, o, none⟩ : Addr).add j = ⟨g, o + j, none⟩ := by unfold Addr.add; split <;> simp_all
      rw [this]
      exact hc j u hj) h1 h63 hbytes hbase
    exact ⟨v', w', hr, h2, h3, h5⟩

theorem wp_append_sl {o : Oper} {a : Act} {K : Act → World → Prop} {Q : Exit → Act → World → Prop} (s x : Operand) (t : TypeId) (ho : o.op = .call { callee := .builtin .append, args := #[s, x], argTypes := #[t, t] })
    (base : Nat) (e : TypeId) (i : TypeInfo) (z : Value) (size bytes : Nat) (ht : P.underlying t = some (.slice e)) (hi : P.info? e = some i) (hz : i.zero = some z)
    (hsize : i.size = size) (hby : i.bytes = bytes) (hzs : z.cells.size = size) (hsz : 0 < size) (v : Value) (n : Nat) (xs : List Value) (hv : a.eval s = v) (hown : w.ownsRow base e size v n xs)
    (A : Option Addr) (m c : Nat) (news : List Value) (hx : a.eval x = .slice A m c) (hs : Sl w A m size news) (h1 : ∀ u ∈ news, u.oneCell' = true) (hnc : A = none → c = 0)
    (h63 : n + m ≤ maxLen) (hbytes : (n + m) * bytes ≤ 140737488355328) (hbase : base ≤ w.heap.size)
    (h : ∀ v' w', w'.ownsRow base e size v' (n + m) (xs ++ news) → w.grownBy w' v.ownBlock → (v'.ownBlock = v.ownBlock ∨ v'.ownBlock = some w.heap.size) → K (a.put o.dst v') w') : o.wp P a w K Q := by
  obtain ⟨v', w', hr, h2, h3, h4⟩ := run_append_sl (P := P) base t o.type e i z size bytes ht hi hz hsize hby hzs hsz v n xs hown A m c news hs h1 hnc h63 hbytes hbase
  unfold Oper.wp
  simp [execOp, ho, resolve, invoke, builtin, hv, hx, hr, Result.andThen]
  exact h v' w' h2 h3 h4

theorem wpList_append_sl {ops : Array Oper} {rest : List Oper} {o : Oper} {a : Act} {Q : Exit → Act → World → Prop} (hg : o.guard = none) (s x : Operand) (t : TypeId) (ho : o.op = .call { callee := .builtin .append, args := #[s, x], argTypes := #[t, t] })
    (base : Nat) (e : TypeId) (i : TypeInfo) (z : Value) (size bytes : Nat) (ht : P.underlying t = some (.slice e)) (hi : P.info? e = some i) (hz : i.zero = some z)
    (hsize : i.size = size) (hby : i.bytes = bytes) (hzs : z.cells.size = size) (hsz : 0 < size) (v : Value) (n : Nat) (xs : List Value) (hv : a.eval s = v) (hown : w.ownsRow base e size v n xs)
    (A : Option Addr) (m c : Nat) (news : List Value) (hx : a.eval x = .slice A m c) (hs : Sl w A m size news) (h1 : ∀ u ∈ news, u.oneCell' = true) (hnc : A = none → c = 0)
    (h63 : n + m ≤ maxLen) (hbytes : (n + m) * bytes ≤ 140737488355328) (hbase : base ≤ w.heap.size)
    (h : ∀ v' w', w'.ownsRow base e size v' (n + m) (xs ++ news) → w.grownBy w' v.ownBlock → (v'.ownBlock = v.ownBlock ∨ v'.ownBlock = some w.heap.size) → wpList P ops Q rest (a.put o.dst v') w') : wpList P ops Q (o :: rest) a w :=
  wpList_plain hg fun _ hK => wp_append_sl s x t ho base e i z size bytes ht hi hz hsize hby hzs hsz v n xs hv hown A m c news hx hs h1 hnc h63 hbytes hbase fun v' w' h2 h3 h4 => hK _ _ (h v' w' h2 h3 h4)

/-- The form of a row that is owned. -/
theorem row_form {base : Nat} {e : TypeId} {size n : Nat} {v : Value} {xs : List Value} (h : w.ownsRow base e size v n xs) : ∃ A c, v = .slice A n c ∧ n ≤ c ∧ (A = none → c = 0) ∧ (∀ g o, A = some ⟨g, o, none⟩ → base ≤ g) := by
  rcases h.2 with ⟨rfl, rfl⟩ | ⟨g, cap, cur, rfl, hb, _, hnc, _⟩
  · exact ⟨none, 0, rfl, by omega, fun _ => rfl, fun _ _ h => by cases h⟩
  · exact ⟨some ⟨g, 0, none⟩, cap, rfl, hnc, fun h => (by cases h), fun _ _ h => by cases h; exact hb⟩
end
end Go.Proofs.YtblnmghbcgbgdaaDoor

namespace Go.Proofs.YtblnmghbcgbgdaaDoor
open Go.RowKit
set_option linter.unusedVariables false

/-- Where a network may lie: at base or behind it, or in the three blocks ahead of base but the last. -/
def Sx (base : Nat) (i : Nat) : Prop := base ≤ i + 3 ∧ i + 1 ≠ base
theorem sx_of {base i : Nat} (h : base ≤ i) : Sx base i := ⟨by omega, by omega⟩
/-- BLOCK b IS A NETWORK: room; lost; n packets under way, whose cells are ps; f packets between two nodes. All its blocks are new at base. -/
def Nt (base : Nat) (room lost : Int) (n : Nat) (ps : List Value) (f : Int → Int → Int) (b : Nat) (w : World) : Prop :=
  ∃ (v : Value) (g : Nat), Blk w b 90 #[.int .i64 room, v, .map (some g), .int .i64 lost] ∧ Lk w g f ∧ w.ownsRow base 53 3 v n ps ∧ Sx base g ∧ Sx base b ∧ g ≠ b ∧ v.ownBlock ≠ some b ∧ v.ownBlock ≠ some g
/-- The blocks of the network at b: itself, its map, its row. -/
def Own (b : Nat) (w : World) (i : Nat) : Prop := i = b ∨ ∃ (room lost : Int) (v : Value) (g : Nat), Blk w b 90 #[.int .i64 room, v, .map (some g), .int .i64 lost] ∧ (i = g ∨ v.ownBlock = some i)
/-- What a network's methods may write. -/
def SO (base b : Nat) (w : World) : Nat → Prop := fun i => Sx base i ∧ Own b w i
theorem Own.back {b i : Nat} {w w' : World} (h : Own b w' i) (hf : Fr noneOf w w') (hb : b < w.heap.size) : Own b w i := by
  rcases h with h | ⟨room, lost, v, g, hB, h⟩
  · exact .inl h
  · have e : w'.heap[b]? = w.heap[b]? := hf.block b hb (fun x => x)
    exact .inr ⟨room, lost, v, g, e.symm.trans hB, h⟩
theorem Own.lt {base : Nat} {room lost : Int} {n : Nat} {ps : List Value} {f : Int → Int → Int} {b i : Nat} {w : World} (h : Own b w i) (hN : Nt base room lost n ps f b w) : i < w.heap.size := by
  obtain ⟨v, g, hB, hL, hO, _⟩ := hN
  rcases h with h | ⟨room', lost', v', g', hB', h⟩
  · rw [h]; exact hB.lt
  · have e := hB.symm.trans hB'
    simp only [Option.some.injEq, Obj.cells.injEq, Array.mk.injEq, List.cons.injEq, Value.map.injEq, Option.some.injEq] at e
    have ev : v = v' := by simp_all
    have eg : g = g' := by simp_all
    subst ev
    subst eg
    rcases h with h | h
    · obtain ⟨_, _, hg, _⟩ := hL
      rw [h]; exact (Array.getElem?_eq_some_iff.1 hg).1
    · exact (hO.lt i h).2
theorem nt_new (y : Int) (w : World) (base : Nat) (h1 : Sx base w.heap.size) (h2 : Sx base (w.heap.size + 1)) : Nt base y 0 0 [] (fun _ _ => 0) (w.heap.size + 1) ((w.alloc (.map #[] 0)).alloc (.cells #[.int .i64 y, .slice none 0 0, .map (some w.heap.size), .int .i64 0] 90)) := by
  have hB := Blk.new (w.alloc (.map #[] 0)) 90 #[.int .i64 y, .slice none 0 0, .map (some w.heap.size), .int .i64 0]
  rw [show (w.alloc (.map #[] 0)).heap.size = w.heap.size + 1 by simp] at hB
  obtain ⟨es, clock, hg, hO⟩ := lk_made w
  refine ⟨_, w.heap.size, hB, ⟨es, clock, ?_, hO⟩, ⟨rfl, .inl ⟨rfl, rfl⟩⟩, h1, h2, by omega, by simp [Value.ownBlock], by simp [Value.ownBlock]⟩
  rw [(MapKept.heap_alloc _ _).2 _ (by simp)]
  exact hg
theorem net_newx (r : Int) (w : World) : Calls Tryd.prog 17 #[.int .i64 r] w fun e w' => e = .returned (.pointer (some ⟨w.heap.size + 1, 0, none⟩)) ∧ (∀ base, Sx base w.heap.size → Sx base (w.heap.size + 1) → Nt base (min (max r 1) 12) 0 0 [] (fun _ _ => 0) (w.heap.size + 1) w') ∧ w'.heap.size = w.heap.size + 2 ∧ Fr noneOf w w' := by
  have hmm := @run_makeMap Tryd.prog
  go_enter Tryd.func17, Tryd.ntmps17
  go_wp2
  all_goals
    go_ret
    refine ⟨rfl, fun base h1 h2 => ?_, by simp, ((Fr.refl noneOf w).alloc _).alloc _⟩
    first
      | (rw [show min (max r 1) 12 = 12 by omega]; exact nt_new _ _ base h1 h2)
      | (rw [show min (max r 1) 12 = r by omega]; exact nt_new _ _ base h1 h2)
      | (rw [show min (max r 1) 12 = 1 by omega]; exact nt_new _ _ base h1 h2)
theorem net_new (r : Int) (w : World) : Calls Tryd.prog 17 #[.int .i64 r] w fun e w' => e = .returned (.pointer (some ⟨w.heap.size + 1, 0, none⟩)) ∧ Nt w.heap.size (min (max r 1) 12) 0 0 [] (fun _ _ => 0) (w.heap.size + 1) w' ∧ Fr noneOf w w' :=
  (net_newx r w).mono fun e w' ⟨h1, h2, _, h3⟩ => ⟨h1, h2 _ ⟨by omega, by omega⟩ ⟨by omega, by omega⟩, h3⟩
theorem Lk.run {w : World} {g : Nat} {f : Int → Int → Int} (h : Lk w g f) {a b : Int} (ha : I64 a) (hb : I64 b) : (Instr.lookup 87 (.map (some g)) (.agg #[.int .i64 a, .int .i64 b]) false).run Tryd.prog w = .ok (.int .i64 (f a b)) w := lk_look h ha hb
theorem net_len {base : Nat} {room lost : Int} {n : Nat} {ps : List Value} {f : Int → Int → Int} {b : Nat} {w : World} (h : Nt base room lost n ps f b w) : Calls Tryd.prog 44 #[.pointer (some ⟨b, 0, none⟩)] w fun e w' => e = .returned (.int .i64 (n : Int)) ∧ w = w' := by
  obtain ⟨v, g, hB, hL, hO, h1, h2, h3, h4, h5⟩ := h
  obtain ⟨A, c, rfl, _, _, _⟩ := row_form hO
  have c1 : w.cell? ⟨b, 1, none⟩ = some (.slice A n c) := hB.cell 1
  clear hB hL hO h1 h2 h3 h4 h5
  go_enter Tryd.func44, Tryd.ntmps44
  go_wp2
  go_ret
  exact ⟨rfl, rfl⟩
theorem net_lost {base : Nat} {room lost : Int} {n : Nat} {ps : List Value} {f : Int → Int → Int} {b : Nat} {w : World} (h : Nt base room lost n ps f b w) : Calls Tryd.prog 45 #[.pointer (some ⟨b, 0, none⟩)] w fun e w' => e = .returned (.int .i64 lost) ∧ w = w' := by
  obtain ⟨v, g, hB, hL, hO, h1, h2, h3, h4, h5⟩ := h
  have c1 : w.cell? ⟨b, 3, none⟩ = some (.int .i64 lost) := hB.cell 3
  clear hB hL hO h1 h2 h3 h4 h5
  go_enter Tryd.func45, Tryd.ntmps45
  go_wp2
  go_ret
  exact ⟨rfl, rfl⟩
theorem lk_fr {S : Nat → Prop} {w w' : World} {g : Nat} {f : Int → Int → Int} (h : Lk w g f) (hf : Fr S w w') (hs : ¬ S g) : Lk w' g f := by
  obtain ⟨es, clock, hg, hO⟩ := h
  have hlt : g < w.heap.size := (Array.getElem?_eq_some_iff.1 hg).1
  exact ⟨es, clock, (hf.block g hlt hs).trans hg, hO⟩
end Go.Proofs.YtblnmghbcgbgdaaDoor
