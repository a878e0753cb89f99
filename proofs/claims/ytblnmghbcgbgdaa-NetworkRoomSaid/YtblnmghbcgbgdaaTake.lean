/-
  Contracts of a network's Take and Drop.
-/
import Derived.Test.YtblnmghbcgbgdaaTake1
namespace Go.Proofs.Ytblnmghbcgbgdaa
open Go.RowKit
set_option linter.unusedVariables false

theorem open_len {room lost : Int} {L : List Pk} {f : Int → Int → Int} {b g r cap : Nat} {w : World} (h : Open23 room lost L f b g r cap w) : Calls Try.prog 10 #[.pointer (some ⟨b, 0, none⟩)] w fun e w' => e = .returned (.int .i64 (L.length : Int)) ∧ w = w' := by
  have c1 : w.cell? ⟨b, 1, none⟩ = some (.slice (some ⟨r, 0, none⟩) L.length cap) := h.blk.cell 1
  clear h
  go_enter Try.func10, Try.ntmps10
  go_wp2
  go_ret
  exact ⟨rfl, rfl⟩
set_option maxHeartbeats 2000000 in
theorem with_take (room lost : Int) (L : List Pk) (f : Int → Int → Int) (b g r cap P N I i : Nat) (p : Pk) (w : World) (h : Open23 room lost L f b g r cap w) (hi : L[i]? = some p) (hx : I64 p.x) (hy : I64 p.y) (hf1 : 1 ≤ f p.x p.y) (hf2 : f p.x p.y ≤ 9223372036854775807)
    (hP : Blk w P 27 #[.int .i64 0, .int .i64 0, .string ⟨#[]⟩]) (hN : Blk w N 23 #[.pointer (some ⟨b, 0, none⟩)]) (hI : Blk w I 3 #[.int .i64 i])
    (d1 : N ≠ P ∧ I ≠ P ∧ b ≠ P ∧ g ≠ P ∧ r ≠ P) (d2 : N ≠ b ∧ N ≠ g ∧ N ≠ r ∧ I ≠ b ∧ I ≠ g ∧ I ≠ r) :
    Calls Try.prog 20 #[.pointer (some ⟨b, 0, none⟩), .int .i64 i, .func (.func 21) #[] #[.pointer (some ⟨P, 0, none⟩), .pointer (some ⟨N, 0, none⟩), .pointer (some ⟨I, 0, none⟩)]] w fun e w' => e = .returned (.bool true) ∧ Blk w' P 27 #[.int .i64 p.x, .int .i64 p.y, .string p.s] ∧ Open23 room lost (L.eraseIdx i) (upd f p.x p.y (f p.x p.y - 1)) b g r cap w' ∧ Fr (take1S P b g r) w w' := by
  have hil : i < L.length := by rw [List.getElem?_eq_some_iff] at hi; exact hi.1
  have T1 := Lib.hid (take1 room lost L f b g r cap P N I i p w h hi hx hy hf1 hf2 hP hN hI d1 d2)
  have OL := Lib.hid (open_len h)
  have c1 : w.cell? ⟨b, 1, none⟩ = some (.slice (some ⟨r, 0, none⟩) L.length cap) := h.blk.cell 1
  have hi0 : (0 : Int) ≤ (i : Int) := by omega
  have hi1 : ¬ ((L.length : Int) ≤ (i : Int)) := by omega
  have hi2 : (i : Int) < (L.length : Int) := by omega
  have hcap := h.cap
  unfold maxLen at hcap
  clear h hi hP hN hI hf1 hf2 hx hy
  go_enter Try.func20, Try.ntmps20
  go_wp2_with (first
    | (go_at_call 10; (with_reducible refine OL.out.mono ?_); rintro e w' ⟨rfl, rfl⟩)
    | (go_at_call 21; (with_reducible refine T1.out.mono ?_); rintro e w1 ⟨rfl, hp1, ho1, hf1⟩))
  go_ret
  exact ⟨rfl, hp1, ho1, hf1⟩
theorem Nt.opened {base : Nat} {room lost : Int} {L : List Pk} {f : Int → Int → Int} {b : Nat} {w : World} (h : Nt base room lost L.length (pkCells L) f b w) (hL : 0 < L.length) : ∃ g r cap, Open23 room lost L f b g r cap w ∧ base ≤ b ∧ base ≤ g ∧ base ≤ r := by
  obtain ⟨v, g, hB, hK, hO, h1, h2, h3, h4, h5⟩ := h
  obtain ⟨hx, ⟨_, h0⟩ | ⟨r, cap, cur, rfl, hb, hh, hn, hc, hs, ht⟩⟩ := hO
  · omega
  · exact ⟨g, r, cap, ⟨hB, hK, ⟨cur, hh, hs, ht⟩, hn, hc, h3, fun e => h4 (by simp [Value.ownBlock, e]), fun e => h5 (by simp [Value.ownBlock, e])⟩, h2, h1, hb⟩
theorem Open23.shut {base : Nat} {room lost : Int} {L : List Pk} {f : Int → Int → Int} {b g r cap : Nat} {w : World} (h : Open23 room lost L f b g r cap w) (h1 : base ≤ b) (h2 : base ≤ g) (h3 : base ≤ r) : Nt base room lost L.length (pkCells L) f b w := by
  obtain ⟨cur, hh, hs, ht⟩ := h.row
  exact ⟨_, g, h.blk, h.lk, ⟨pkCells_len L, .inr ⟨r, cap, cur, rfl, h3, hh, h.len, h.cap, hs, ht⟩⟩, h2, h1, h.gb, by simp [Value.ownBlock, h.rb], by simp [Value.ownBlock, h.rg]⟩
theorem Open23.lts {room lost : Int} {L : List Pk} {f : Int → Int → Int} {b g r cap : Nat} {w : World} (h : Open23 room lost L f b g r cap w) : b < w.heap.size ∧ g < w.heap.size ∧ r < w.heap.size := by
  obtain ⟨cur, hh, hs, ht⟩ := h.row
  obtain ⟨es, clock, hg, _⟩ := h.lk
  exact ⟨h.blk.lt, (Array.getElem?_eq_some_iff.1 hg).1, (Array.getElem?_eq_some_iff.1 hh).1⟩
/-- Take of one that is under way. -/
theorem net_take {base : Nat} {room lost : Int} {L : List Pk} {f : Int → Int → Int} {b i : Nat} {p : Pk} {w : World} (h : Nt base room lost L.length (pkCells L) f b w) (hi : L[i]? = some p) (hx : I64 p.x) (hy : I64 p.y) (hf1 : 1 ≤ f p.x p.y) (hf2 : f p.x p.y ≤ 9223372036854775807) (hbw : base ≤ w.heap.size) :
    Calls Try.prog 9 #[.pointer (some ⟨b, 0, none⟩), .int .i64 i] w fun e w' => e = .returned (.tuple #[.agg #[.int .i64 p.x, .int .i64 p.y, .string p.s], .bool true]) ∧ Nt base room lost (L.eraseIdx i).length (pkCells (L.eraseIdx i)) (upd f p.x p.y (f p.x p.y - 1)) b w' ∧ Fr (fun j => base ≤ j) w w' := by
  have hil : i < L.length := by rw [List.getElem?_eq_some_iff] at hi; exact hi.1
  obtain ⟨g, r, cap, hO, q1, q2, q3⟩ := h.opened (by omega)
  obtain ⟨l1, l2, l3⟩ := hO.lts
  have f3 : Fr noneOf w (((w.alloc (.cells #[.pointer (some ⟨b, 0, none⟩)] 23)).alloc (.cells #[.int .i64 i] 3)).alloc (.cells #[.int .i64 0, .int .i64 0, .string ⟨#[]⟩] 27)) := (((Fr.refl noneOf w).alloc _).alloc _).alloc _
  have hN := ((Blk.new w 23 #[.pointer (some ⟨b, 0, none⟩)]).alloc (.cells #[.int .i64 i] 3)).alloc (.cells #[.int .i64 0, .int .i64 0, .string ⟨#[]⟩] 27)
  have hI := (Blk.new (w.alloc (.cells #[.pointer (some ⟨b, 0, none⟩)] 23)) 3 #[.int .i64 i]).alloc (.cells #[.int .i64 0, .int .i64 0, .string ⟨#[]⟩] 27)
  have hP := Blk.new ((w.alloc (.cells #[.pointer (some ⟨b, 0, none⟩)] 23)).alloc (.cells #[.int .i64 i] 3)) 27 #[.int .i64 0, .int .i64 0, .string ⟨#[]⟩]
  have hO3 := hO.fr f3 (fun x => x) (fun x => x) (fun x => x)
  rw [show ((w.alloc (.cells #[.pointer (some ⟨b, 0, none⟩)] 23)).alloc (.cells #[.int .i64 i] 3)).heap.size = w.heap.size + 1 + 1 by simp] at hP
  rw [show (w.alloc (.cells #[.pointer (some ⟨b, 0, none⟩)] 23)).heap.size = w.heap.size + 1 by simp] at hI
  have T := Lib.hid (with_take room lost L f b g r cap (w.heap.size + 1 + 1) w.heap.size (w.heap.size + 1) i p _ hO3 hi hx hy hf1 hf2 hP hN hI (by omega) (by omega))
  have F3 := Lib.hid f3
  obtain ⟨x, y, s⟩ := p
  have HQ := Lib.hid (And.intro q1 (And.intro q2 q3))
  clear h hO hO3 hN hI hP hi hx hy hf1 hf2 f3 q1 q2 q3
  dsimp only at T ⊢
  go_enter Try.func9, Try.ntmps9
  go_wp2_with (go_at_call 20; (with_reducible refine T.out.mono ?_); rintro e w1 ⟨rfl, hp1, ho1, hf1⟩; have HB := Lib.hid hp1; have HO1 := Lib.hid ho1; have d0 : w1.cell? ⟨w.heap.size + 1 + 1, 0, none⟩ = some (.int .i64 x) := HB.out.cell 0; have d1 : w1.cell? ⟨w.heap.size + 1 + 1, 1, none⟩ = some (.int .i64 y) := HB.out.cell 1; have d2 : w1.cell? ⟨w.heap.size + 1 + 1, 2, none⟩ = some (.string s) := HB.out.cell 2; have e0 := HB.out.frozen 0; have e1 := HB.out.frozen 1; have e2 := HB.out.frozen 2; clear hp1 ho1)
  have hS : Fr (justOf (w.heap.size + 1 + 1)) w1 (((w1.setCell ⟨w.heap.size + 1 + 1, 0, none⟩ (.int .i64 x)).setCell ⟨w.heap.size + 1 + 1, 1, none⟩ (.int .i64 y)).setCell ⟨w.heap.size + 1 + 1, 2, none⟩ (.string s)) := Fr.put _ 2 _ (Fr.put _ 1 _ (Fr.put _ 0 _ (Fr.refl _ w1)))
  have E := Lib.hid (((HB.out.set_ 0 (.int .i64 x)).set_ 1 (.int .i64 y)).set_ 2 (.string s))
  have E0 := E.out.cell 0
  have E1 := E.out.cell 1
  have E2 := E.out.cell 2
  refine bodyPost_ret (v := .tuple #[.agg #[.int .i64 x, .int .i64 y, .string s], .bool true]) (by simp [results, Try.results9, go_sem, E0, E1, E2]) rfl ⟨rfl, ?_, ?_⟩
  · have hne : ∀ z, z < w.heap.size → ¬ justOf (w.heap.size + 1 + 1) z := fun z hz e => by have e : z = w.heap.size + 1 + 1 := e; omega
    exact (HO1.out.fr hS (hne _ l1) (hne _ l2) (hne _ l3)).shut HQ.out.1 HQ.out.2.1 HQ.out.2.2
  · have k1 : Fr (fun j => base ≤ j) w w1 := (F3.out.of0 (fun j => base ≤ j)).trans (hf1.mono (fun i e => by
      rcases e with e | e | e | e
      · show base ≤ i; omega
      · rw [e]; exact HQ.out.1
      · rw [e]; exact HQ.out.2.1
      · rw [e]; exact HQ.out.2.2))
    exact k1.trans (hS.mono (fun i e => by have e : i = w.heap.size + 1 + 1 := e; show base ≤ i; omega))
end Go.Proofs.Ytblnmghbcgbgdaa
