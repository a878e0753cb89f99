/-
  NetworkTrue: the walk over the steps as an argument has them.
  Conditions: none.
-/
import Derived.Test.YtblnmghbcgbgdaaDoorNetworkTrue
import Derived.Test.YtblnmghbcgbgdaaDoorShut
import Derived.Test.YtblnmghbcgbgdaaDoorShape
namespace Go.Proofs.YtblnmghbcgbgdaaDoor
open Go.RowKit
set_option linter.unusedVariables false

/-- A step's cells. -/
def sh23 : List FK := [.num .i64, .num .i64, .num .i64, .num .i64, .num .i64, .num .u8, .num .u8, .num .u8, .num .u8, .str, .boo]
theorem st23_of {l : List Value} (h : Fits sh23 l) : ∃ y : St23 × Bool, l = (y.1.cells y.2).toList ∧ y.1.s.size ≤ 9223372036854775807 ∧ -9223372036854775808 ≤ y.1.at' ∧ y.1.at' ≤ 9223372036854775807 := by
  obtain ⟨a0, _, rfl, _, h⟩ := h.num
  obtain ⟨a1, _, rfl, _, h⟩ := h.num
  obtain ⟨a2, _, rfl, _, h⟩ := h.num
  obtain ⟨a3, _, rfl, _, h⟩ := h.num
  obtain ⟨a4, _, rfl, w4, h⟩ := h.num
  obtain ⟨a5, _, rfl, _, h⟩ := h.num
  obtain ⟨a6, _, rfl, _, h⟩ := h.num
  obtain ⟨a7, _, rfl, _, h⟩ := h.num
  obtain ⟨a8, _, rfl, _, h⟩ := h.num
  obtain ⟨s, _, rfl, hs, h⟩ := h.str
  obtain ⟨b, vs, rfl, hb⟩ := h.boo
  obtain rfl := hb.done
  exact ⟨(⟨a0, a1, a2, a3, a4, a5, a6, a7, a8, s⟩, b), rfl, hs, (wf_int w4).1, (wf_int w4).2⟩
theorem sts23_of : ∀ (L : List (List Value)), (∀ l ∈ L, Fits sh23 l) → ∃ ys : List (St23 × Bool), L = ys.map (fun y => (y.1.cells y.2).toList) ∧ ∀ y ∈ ys, y.1.s.size ≤ 9223372036854775807 ∧ -9223372036854775808 ≤ y.1.at' ∧ y.1.at' ≤ 9223372036854775807
  | [], _ => ⟨[], rfl, fun _ h => by simp at h⟩
  | l :: L, h => by
    obtain ⟨y, rfl, hy⟩ := st23_of (h l (by simp))
    obtain ⟨ys, rfl, hys⟩ := sts23_of L (fun m hm => h m (by simp [hm]))
    refine ⟨y :: ys, rfl, fun z hz => ?_⟩
    rcases List.mem_cons.1 hz with rfl | hz
    · exact hy
    · exact hys z hz
theorem ops23_of {w : World} {A : Option Addr} {ys : List (St23 × Bool)} (h : RowsAt w A 11 (ys.map (fun y => (y.1.cells y.2).toList))) : Ops23 w A ys := by
  intro hp
  obtain ⟨g, o, hA, hg, hc⟩ := h (by simpa using hp)
  exact ⟨g, o, hA, hg, fun i y hy j u hu => hc i (y.1.cells y.2).toList (by rw [List.getElem?_map, hy]; rfl) j u (by simpa using hu)⟩
theorem networkTrue_law (A : Option Addr) (c : Nat) (L : List (List Value)) (w : World) (hlc : L.length ≤ c) (hc : c ≤ maxLen) (hF : ∀ l ∈ L, Fits sh23 l) (hR : RowsAt w A sh23.length L) (hg : errT w) :
    Calls Tryd.prog 6 #[.slice A L.length c] w fun e w' => e = .returned (.bool true) ∧ Fr noneOf w w' := by
  obtain ⟨ys, rfl, hys⟩ := sts23_of L hF
  rw [List.length_map] at hlc ⊢
  exact networkTrue_any A c ys w (ops23_of hR) hlc (by simpa [maxLen] using hc) hys hg
end Go.Proofs.YtblnmghbcgbgdaaDoor
