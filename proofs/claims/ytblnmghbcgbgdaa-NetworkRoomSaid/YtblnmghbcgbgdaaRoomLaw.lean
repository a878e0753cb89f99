/-
  NetworkRoom: the walk over the steps as an argument has them.
-/
import Derived.Test.YtblnmghbcgbgdaaNetworkRoom
import Derived.Test.YtblnmghbcgbgdaaShape
namespace Go.Proofs.Ytblnmghbcgbgdaa
open Go.RowKit
set_option linter.unusedVariables false

/-- A step's cells. -/
def sh23 : List FK := [.num .i64, .num .i64, .num .i64, .num .i64, .num .i64, .num .u8, .num .u8, .num .u8, .num .u8, .str, .boo]
theorem st23_of {l : List Value} (h : Fits sh23 l) : ∃ y : St23 × Bool, l = (y.1.cells y.2).toList ∧ y.1.s.size ≤ 9223372036854775807 := by
  obtain ⟨a0, _, rfl, _, h⟩ := h.num
  obtain ⟨a1, _, rfl, _, h⟩ := h.num
  obtain ⟨a2, _, rfl, _, h⟩ := h.num
  obtain ⟨a3, _, rfl, _, h⟩ := h.num
  obtain ⟨a4, _, rfl, _, h⟩ := h.num
  obtain ⟨a5, _, rfl, _, h⟩ := h.num
  obtain ⟨a6, _, rfl, _, h⟩ := h.num
  obtain ⟨a7, _, rfl, _, h⟩ := h.num
  obtain ⟨a8, _, rfl, _, h⟩ := h.num
  obtain ⟨s, _, rfl, hs, h⟩ := h.str
  obtain ⟨b, vs, rfl, hb⟩ := h.boo
  obtain rfl := hb.done
  exact ⟨(⟨a0, a1, a2, a3, a4, a5, a6, a7, a8, s⟩, b), rfl, hs⟩
theorem sts23_of : ∀ (L : List (List Value)), (∀ l ∈ L, Fits sh23 l) → ∃ ys : List (St23 × Bool), L = ys.map (fun y => (y.1.cells y.2).toList) ∧ ∀ y ∈ ys, y.1.s.size ≤ 9223372036854775807
  | [], _ => ⟨[], rfl, fun _ h => by simp at h⟩
  | l :: L, h => by
    obtain ⟨y, rfl, hy⟩ := st23_of (h l (by simp))
    obtain ⟨ys, rfl, hys⟩ := sts23_of L (fun m hm => h m (by simp [hm]))
    refine ⟨y :: ys, rfl, fun z hz => ?_⟩
    rcases List.mem_cons.1 hz with rfl | hz
    · exact hy
    · exact hys z hz
theorem ops23_of {w : World} {A : Option Addr} {ys : List (St23 × Bool)} (h : RowsAt w A 11 (ys.map (fun y => (y.1.cells y.2).toList))) : Ops23 w A ys := by
  intro hp
  obtain ⟨g, o, hA, hg, hc⟩ := h (by simpa using hp)
  exact ⟨g, o, hA, hg, fun i y hy j u hu => hc i (y.1.cells y.2).toList (by rw [List.getElem?_map, hy]; rfl) j u (by simpa using hu)⟩
theorem networkRoom_law (r : Int) (A : Option Addr) (c : Nat) (L : List (List Value)) (w : World) (hr1 : -9223372036854775808 ≤ r) (hr2 : r ≤ 9223372036854775807) (hlc : L.length ≤ c) (hc : c ≤ maxLen) (hF : ∀ l ∈ L, Fits sh23 l) (hR : RowsAt w A sh23.length L) :
    Calls Try.prog 4 #[.int .i64 r, .slice A L.length c] w fun e w' => e = .returned (.bool true) ∧ Fr noneOf w w' := by
  obtain ⟨ys, rfl, hys⟩ := sts23_of L hF
  rw [List.length_map] at hlc ⊢
  exact networkRoom_any r A c ys w hr1 hr2 (ops23_of hR) hlc (by simpa [maxLen] using hc) hys
end Go.Proofs.Ytblnmghbcgbgdaa
