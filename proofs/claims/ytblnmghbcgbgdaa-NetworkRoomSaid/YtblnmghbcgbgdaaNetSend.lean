/-
  Contracts of a network: New, Send.
-/
import Derived.Test.YtblnmghbcgbgdaaNetNil
import Derived.Test.YtblnmghbcgbgdaaSlice
namespace Go.Proofs.Ytblnmghbcgbgdaa
open Go.RowKit
set_option linter.unusedVariables false

/-- BLOCK b IS A NETWORK: room; lost; n packets under way, whose cells are ps; f packets between two nodes. All its blocks are new at base. -/
def Nt (base : Nat) (room lost : Int) (n : Nat) (ps : List Value) (f : Int → Int → Int) (b : Nat) (w : World) : Prop :=
  ∃ (v : Value) (g : Nat), Blk w b 45 #[.int .i64 room, v, .map (some g), .int .i64 lost] ∧ Lk w g f ∧ w.ownsRow base 27 3 v n ps ∧ base ≤ g ∧ base ≤ b ∧ g ≠ b ∧ v.ownBlock ≠ some b ∧ v.ownBlock ≠ some g
theorem nt_new (y : Int) (w : World) : Nt w.heap.size y 0 0 [] (fun _ _ => 0) (w.heap.size + 1) ((w.alloc (.map #[] 0)).alloc (.cells #[.int .i64 y, .slice none 0 0, .map (some w.heap.size), .int .i64 0] 45)) := by
  have hB := Blk.new (w.alloc (.map #[] 0)) 45 #[.int .i64 y, .slice none 0 0, .map (some w.heap.size), .int .i64 0]
  rw [show (w.alloc (.map #[] 0)).heap.size = w.heap.size + 1 by simp] at hB
  obtain ⟨es, clock, hg, hO⟩ := lk_made w
  refine ⟨_, w.heap.size, hB, ⟨es, clock, ?_, hO⟩, ⟨rfl, .inl ⟨rfl, rfl⟩⟩, Nat.le_refl _, by omega, by omega, by simp [Value.ownBlock], by simp [Value.ownBlock]⟩
  rw [(MapKept.heap_alloc _ _).2 _ (by simp)]
  exact hg
theorem net_new (r : Int) (w : World) : Calls Try.prog 7 #[.int .i64 r] w fun e w' => e = .returned (.pointer (some ⟨w.heap.size + 1, 0, none⟩)) ∧ Nt w.heap.size (min (max r 1) 12) 0 0 [] (fun _ _ => 0) (w.heap.size + 1) w' ∧ Fr noneOf w w' := by
  have hmm := @run_makeMap Try.prog
  go_enter Try.func7, Try.ntmps7
  go_wp2
  all_goals
    go_ret
    refine ⟨rfl, ?_, ((Fr.refl noneOf w).alloc _).alloc _⟩
    first
      | (rw [show min (max r 1) 12 = 12 by omega]; exact nt_new _ _)
      | (rw [show min (max r 1) 12 = r by omega]; exact nt_new _ _)
      | (rw [show min (max r 1) 12 = 1 by omega]; exact nt_new _ _)
theorem Lk.run {w : World} {g : Nat} {f : Int → Int → Int} (h : Lk w g f) {a b : Int} (ha : I64 a) (hb : I64 b) : (Instr.lookup 42 (.map (some g)) (.agg #[.int .i64 a, .int .i64 b]) false).run Try.prog w = .ok (.int .i64 (f a b)) w := lk_look h ha hb
theorem net_len {base : Nat} {room lost : Int} {n : Nat} {ps : List Value} {f : Int → Int → Int} {b : Nat} {w : World} (h : Nt base room lost n ps f b w) : Calls Try.prog 10 #[.pointer (some ⟨b, 0, none⟩)] w fun e w' => e = .returned (.int .i64 (n : Int)) ∧ w = w' := by
  obtain ⟨v, g, hB, hL, hO, h1, h2, h3, h4, h5⟩ := h
  obtain ⟨A, c, rfl, _, _, _⟩ := row_form hO
  have c1 : w.cell? ⟨b, 1, none⟩ = some (.slice A n c) := hB.cell 1
  clear hB hL hO h1 h2 h3 h4 h5
  go_enter Try.func10, Try.ntmps10
  go_wp2
  go_ret
  exact ⟨rfl, rfl⟩
theorem net_lost {base : Nat} {room lost : Int} {n : Nat} {ps : List Value} {f : Int → Int → Int} {b : Nat} {w : World} (h : Nt base room lost n ps f b w) : Calls Try.prog 18 #[.pointer (some ⟨b, 0, none⟩)] w fun e w' => e = .returned (.int .i64 lost) ∧ w = w' := by
  obtain ⟨v, g, hB, hL, hO, h1, h2, h3, h4, h5⟩ := h
  have c1 : w.cell? ⟨b, 3, none⟩ = some (.int .i64 lost) := hB.cell 3
  clear hB hL hO h1 h2 h3 h4 h5
  go_enter Try.func18, Try.ntmps18
  go_wp2
  go_ret
  exact ⟨rfl, rfl⟩
theorem net_between {base : Nat} {room lost : Int} {n : Nat} {ps : List Value} {f : Int → Int → Int} {b : Nat} {w : World} (h : Nt base room lost n ps f b w) (x y : Int) (hx : I64 x) (hy : I64 y) : Calls Try.prog 11 #[.pointer (some ⟨b, 0, none⟩), .int .i64 x, .int .i64 y] w fun e w' => e = .returned (.int .i64 (f x y)) ∧ Fr noneOf w w' := by
  obtain ⟨v, g, hB, hL, hO, h1, h2, h3, h4, h5⟩ := h
  have c1 : w.cell? ⟨b, 2, none⟩ = some (.map (some g)) := hB.cell 2
  have r := hL.run hx hy
  have r2 := Lk.run (w := w.drew) hL hx hy
  clear hB hL hO h1 h2 h3 h4 h5
  go_enter Try.func11, Try.ntmps11
  go_wp2
  go_ret
  exact ⟨rfl, by repeat (first | exact Fr.refl _ _ | apply Fr.alloc | apply Fr.drewN | apply Fr.drew)⟩
theorem lk_fr {S : Nat → Prop} {w w' : World} {g : Nat} {f : Int → Int → Int} (h : Lk w g f) (hf : Fr S w w') (hs : ¬ S g) : Lk w' g f := by
  obtain ⟨es, clock, hg, hO⟩ := h
  have hlt : g < w.heap.size := (Array.getElem?_eq_some_iff.1 hg).1
  exact ⟨es, clock, (hf.block g hlt hs).trans hg, hO⟩
end Go.Proofs.Ytblnmghbcgbgdaa
