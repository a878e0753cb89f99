/-
  Contracts of a network's Take, Drop, Copy where nothing stands under the number.
-/
import Derived.Test.YtblnmghbcgbgdaaTake
namespace Go.Proofs.Ytblnmghbcgbgdaa
open Go.RowKit
set_option linter.unusedVariables false

theorem with_out {base : Nat} {room lost : Int} {n : Nat} {ps : List Value} {f : Int → Int → Int} {b : Nat} {w : World} (h : Nt base room lost n ps f b w) (i : Int) (hi : i < 0 ∨ (n : Int) ≤ i) (v : Value) : Calls Try.prog 20 #[.pointer (some ⟨b, 0, none⟩), .int .i64 i, v] w fun e w' => e = .returned (.bool false) ∧ Fr noneOf w w' := by
  have HL := Lib.hid (net_len h)
  clear h
  by_cases h : i < 0
  · clear hi
    go_enter Try.func20, Try.ntmps20
    go_wp2
    go_ret
    exact ⟨rfl, by repeat (first | exact Fr.refl _ _ | apply Fr.drewN | apply Fr.drew)⟩
  · have h0 : 0 ≤ i := by omega
    have h1 : (n : Int) ≤ i := by omega
    clear hi
    go_enter Try.func20, Try.ntmps20
    go_wp2_with (go_at_call 10; (with_reducible refine HL.out.mono ?_); rintro e w' ⟨rfl, rfl⟩)
    go_ret
    exact ⟨rfl, by repeat (first | exact Fr.refl _ _ | apply Fr.drewN | apply Fr.drew)⟩
theorem Nt.fr {base : Nat} {room lost : Int} {n : Nat} {ps : List Value} {f : Int → Int → Int} {b : Nat} {w w' : World} (h : Nt base room lost n ps f b w) (hf : Fr noneOf w w') : Nt base room lost n ps f b w' := by
  obtain ⟨v, g, hB, hL, hO, h1⟩ := h
  exact ⟨v, g, hB.fr0 hf, lk_fr hL hf (fun x => x), ownsRow_frS hO hf (fun _ _ x => x), h1⟩
theorem take_out {base : Nat} {room lost : Int} {n : Nat} {ps : List Value} {f : Int → Int → Int} {b : Nat} {w : World} (h : Nt base room lost n ps f b w) (i : Int) (hi : i < 0 ∨ (n : Int) ≤ i) : Calls Try.prog 9 #[.pointer (some ⟨b, 0, none⟩), .int .i64 i] w fun e w' => e = .returned (.tuple #[.agg #[.int .i64 0, .int .i64 0, .string ⟨#[]⟩], .bool false]) ∧ Fr noneOf w w' := by
  have h4 := Blk.new ((w.alloc (.cells #[.pointer (some ⟨b, 0, none⟩)] 23)).alloc (.cells #[.int .i64 i] 3)) 27 #[.int .i64 0, .int .i64 0, .string ⟨#[]⟩]
  rw [show ((w.alloc (.cells #[.pointer (some ⟨b, 0, none⟩)] 23)).alloc (.cells #[.int .i64 i] 3)).heap.size = w.heap.size + 1 + 1 by simp] at h4
  have H4 := Lib.hid h4
  have HT := Lib.hid (with_out (h.fr ((((Fr.refl noneOf w).alloc (.cells #[.pointer (some ⟨b, 0, none⟩)] 23)).alloc (.cells #[.int .i64 i] 3)).alloc (.cells #[.int .i64 0, .int .i64 0, .string ⟨#[]⟩] 27))) i hi (.func (.func 21) #[] #[.pointer (some ⟨w.heap.size + 1 + 1, 0, none⟩), .pointer (some ⟨w.heap.size, 0, none⟩), .pointer (some ⟨w.heap.size + 1, 0, none⟩)]))
  clear h4 h hi
  go_enter Try.func9, Try.ntmps9
  go_wp2_with (go_at_call 20; (with_reducible refine HT.out.mono ?_); rintro e w1 ⟨rfl, hf1⟩; have HB := Lib.hid (H4.out.fr0 hf1); have d0 : w1.cell? ⟨w.heap.size + 1 + 1, 0, none⟩ = some (.int .i64 0) := HB.out.cell 0; have d1 : w1.cell? ⟨w.heap.size + 1 + 1, 1, none⟩ = some (.int .i64 0) := HB.out.cell 1; have d2 : w1.cell? ⟨w.heap.size + 1 + 1, 2, none⟩ = some (.string ⟨#[]⟩) := HB.out.cell 2; have e0 := HB.out.frozen 0; have e1 := HB.out.frozen 1; have e2 := HB.out.frozen 2)
  have E := Lib.hid (((HB.out.set_ 0 (.int .i64 0)).set_ 1 (.int .i64 0)).set_ 2 (.string ⟨#[]⟩))
  have E0 := E.out.cell 0
  have E1 := E.out.cell 1
  have E2 := E.out.cell 2
  refine bodyPost_ret (v := .tuple #[.agg #[.int .i64 0, .int .i64 0, .string ⟨#[]⟩], .bool false]) (by simp [results, Try.results9, go_sem, E0, E1, E2]) rfl ⟨rfl, ?_⟩
  exact ((((((Fr.refl noneOf w).alloc _).alloc _).alloc _).trans hf1).setCell (p := ⟨w.heap.size + 1 + 1, 0, none⟩) (.inr (by show w.heap.size ≤ w.heap.size + 1 + 1; omega)) _ |>.setCell (p := ⟨w.heap.size + 1 + 1, 1, none⟩) (.inr (by show w.heap.size ≤ w.heap.size + 1 + 1; omega)) _).setCell (p := ⟨w.heap.size + 1 + 1, 2, none⟩) (.inr (by show w.heap.size ≤ w.heap.size + 1 + 1; omega)) _
theorem copy_out {base : Nat} {room lost : Int} {n : Nat} {ps : List Value} {f : Int → Int → Int} {b : Nat} {w : World} (h : Nt base room lost n ps f b w) (i : Int) (hi : i < 0 ∨ (n : Int) ≤ i) : Calls Try.prog 13 #[.pointer (some ⟨b, 0, none⟩), .int .i64 i] w fun e w' => e = .returned (.bool false) ∧ Fr noneOf w w' := by
  have HT := Lib.hid (fun v => with_out (h.fr ((Fr.refl noneOf w).alloc (.cells #[.pointer (some ⟨b, 0, none⟩)] 23))) i hi v)
  clear h hi
  go_enter Try.func13, Try.ntmps13
  go_wp2_with (go_at_call 20; (with_reducible refine (HT.out _).mono ?_); rintro e w1 ⟨rfl, hf1⟩)
  go_ret
  exact ⟨rfl, ((Fr.refl noneOf w).alloc _).trans hf1⟩
theorem drop_out {base : Nat} {room lost : Int} {n : Nat} {ps : List Value} {f : Int → Int → Int} {b : Nat} {w : World} (h : Nt base room lost n ps f b w) (i : Int) (hi : i < 0 ∨ (n : Int) ≤ i) : Calls Try.prog 12 #[.pointer (some ⟨b, 0, none⟩), .int .i64 i] w fun e w' => e = .returned (.bool false) ∧ Fr noneOf w w' := by
  have HT := Lib.hid (take_out h i hi)
  clear h hi
  go_enter Try.func12, Try.ntmps12
  go_wp2_with (go_at_call 9; (with_reducible refine HT.out.mono ?_); rintro e w1 ⟨rfl, hf1⟩)
  go_ret
  exact ⟨rfl, by first | exact hf1 | exact hf1.alloc _ | (repeat (first | exact hf1 | apply Fr.alloc | (refine Fr.setCell ?_ (.inr (by simp; have := hf1.size; omega)) _)))⟩
end Go.Proofs.Ytblnmghbcgbgdaa
