/-
  PenParts: the law's callees, once more, in the form that its walk meets.
-/
import Derived.Test.YtndjgcpaiplakaaPenLaw
import Derived.Test.YtndjgcpaiplakaaPenAct
import Derived.Test.YtndjgcpaiplakaaSlice
namespace Go.Proofs.Ytndjgcpaiplakaa
open Go.RowKit
set_option linter.unusedVariables false

def numsV (l : List Int) : List Value := l.map (Value.int .i64)
/-- What the region keeps: the pen's block, the numbers' row, and nothing older turned. -/
structure Kp (W0 : World) (B g : Nat) (r f b a : Int) (ms : List Int) (w : World) : Prop where
  pen : Blk w B 23 #[.int .i32 r, .int .u8 f, .int .u8 b, .int .u8 a]
  row : Row w g (numsV ms)
  fr : Fr noneOf W0 w
theorem Kp.frm {W0 w w' : World} {B g : Nat} {r f b a : Int} {ms : List Int} (h : Kp W0 B g r f b a ms w) (hf : Fr noneOf w w') : Kp W0 B g r f b a ms w' := ⟨h.pen.fr0 hf, h.row.fr0 hf, h.fr.trans hf⟩
def goodN (l : List Int) : Prop := ∀ u ∈ l, 0 ≤ u ∧ u < 112 ∧ u ≠ 38 ∧ u ≠ 48
/-- A piece of the numbers, made an act. -/
theorem act_piece {W0 : World} {B g : Nat} {r f b a : Int} {ms : List Int} (hms : ms.length ≤ 8) (hg : goodN ms) (o n : Nat) (hn : o + n ≤ ms.length) : ∃ y0 y1 y2 y3 y4 y5 y6 y7 : Int, [y0, y1, y2, y3, y4, y5, y6, y7].take n = (ms.drop o).take n ∧ (∀ u ∈ [y0, y1, y2, y3, y4, y5, y6, y7], -1000000 ≤ u ∧ u ≤ 1000000) ∧
    ∀ (cap : Nat) (w : World), Kp W0 B g r f b a ms w → Calls Try.prog 8 #[.slice (some ⟨g, o, none⟩) n cap] w fun e w' => e = .returned (.agg #[.int .i64 4, .int .i32 109, .int .u8 0, .int .u8 0, .int .i64 (n : Int), .int .i64 y0, .int .i64 y1, .int .i64 y2, .int .i64 y3, .int .i64 y4, .int .i64 y5, .int .i64 y6, .int .i64 y7]) ∧ Fr noneOf w w' := by
  obtain ⟨l, hl⟩ : ∃ l, l = (ms.drop o).take n := ⟨_, rfl⟩
  have hln : l.length = n := by rw [hl]; simp; omega
  have hb : ∀ u ∈ l, 0 ≤ u ∧ u < 112 := fun u hu => by
    have := hg u (List.mem_of_mem_drop (List.mem_of_mem_take (by rw [← hl]; exact hu)))
    omega
  have hD : ∀ i, 0 ≤ l.getD i 0 ∧ l.getD i 0 < 112 := fun i => by
    rw [List.getD_eq_getElem?_getD]
    cases h : l[i]? with
    | none => simp
    | some u => exact hb u (List.mem_of_getElem? h)
  refine ⟨l.getD 0 0, l.getD 1 0, l.getD 2 0, l.getD 3 0, l.getD 4 0, l.getD 5 0, l.getD 6 0, l.getD 7 0, ?_, ?_, ?_⟩
  · rw [← hl]
    apply List.ext_getElem?
    intro i
    rw [List.getElem?_take]
    by_cases hi : i < n
    · rw [if_pos hi]
      have h8 : i < 8 := by omega
      have e : l[i]? = some (l.getD i 0) := by rw [List.getD_eq_getElem?_getD, List.getElem?_eq_getElem (by omega)]; rfl
      rw [e]
      have : i = 0 ∨ i = 1 ∨ i = 2 ∨ i = 3 ∨ i = 4 ∨ i = 5 ∨ i = 6 ∨ i = 7 := by omega
      rcases this with rfl | rfl | rfl | rfl | rfl | rfl | rfl | rfl <;> rfl
    · rw [if_neg hi, List.getElem?_eq_none (by omega)]
  · intro u hu
    have q0 := hD 0
    have q1 := hD 1
    have q2 := hD 2
    have q3 := hD 3
    have q4 := hD 4
    have q5 := hD 5
    have q6 := hD 6
    have q7 := hD 7
    simp only [List.mem_cons, List.not_mem_nil, or_false] at hu
    rcases hu with rfl | rfl | rfl | rfl | rfl | rfl | rfl | rfl <;> omega
  · intro cap w hk
    have := act_any (some ⟨g, o, none⟩) cap l w (by omega) hb ⟨g, o, rfl, hk.row.lt, fun j u hj => ?_⟩
    · rw [hln] at this
      refine this.mono ?_
      rintro e w' ⟨rfl, hf⟩
      refine ⟨?_, hf⟩
      unfold numsC
      rw [List.take_of_length_le (by omega)]
    · refine hk.row.cell (o + j) _ ?_
      have hjn : j < n := by have := (List.getElem?_eq_some_iff.1 hj).1; omega
      rw [hl, List.getElem?_take, if_pos hjn, List.getElem?_drop] at hj
      simp [numsV, hj]
theorem apply_piece (r f b a : Int) (l : List Int) (hg : goodN l) (n : Nat) (hn0 : 0 < n) (hn : n ≤ 8) (y0 y1 y2 y3 y4 y5 y6 y7 : Int) (hl : [y0, y1, y2, y3, y4, y5, y6, y7].take n = l) (hb : ∀ u ∈ [y0, y1, y2, y3, y4, y5, y6, y7], -1000000 ≤ u ∧ u ≤ 1000000)
    (r' f' b' a' : Int) (hz : l.foldl oneP ⟨r, f, b, a⟩ = ⟨r', f', b', a'⟩) (w : World) :
    Calls Try.prog 7 #[.agg #[.int .i32 r, .int .u8 f, .int .u8 b, .int .u8 a], .agg #[.int .i64 4, .int .i32 109, .int .u8 0, .int .u8 0, .int .i64 (n : Int), .int .i64 y0, .int .i64 y1, .int .i64 y2, .int .i64 y3, .int .i64 y4, .int .i64 y5, .int .i64 y6, .int .i64 y7]] w fun e w' => e = .returned (.agg #[.int .i32 r', .int .u8 f', .int .u8 b', .int .u8 a']) ∧ Fr noneOf w w' := by
  refine (apply_any ⟨r, f, b, a⟩ y0 y1 y2 y3 y4 y5 y6 y7 n w hn hb hn0).mono ?_
  rintro e w' ⟨z, rfl, hr, hf⟩
  rw [hl] at hr
  have := run_fold l _ _ (fun u hu => ⟨(hg u hu).2.2.1, (hg u hu).2.2.2⟩) hr
  rw [hz] at this
  subst this
  exact ⟨rfl, hf⟩
end Go.Proofs.Ytndjgcpaiplakaa
