/-
  Contracts of a network's Copy and Inject, as a step of the law's.
-/
import Derived.Test.YtblnmghbcgbgdaaNetStep
namespace Go.Proofs.Ytblnmghbcgbgdaa
open Go.RowKit
set_option linter.unusedVariables false
set_option linter.unusedSimpArgs false

/-- It answers a truth, and what R says of it. -/
def Tells (R : Bool → World → Prop) (e : Ending) (w : World) : Prop := ∃ ok : Bool, e = .returned (.bool ok) ∧ R ok w
theorem copy1 (R : Bool → World → Prop) (b N r o : Nat) (x y : Int) (s : ByteArray) (w : World) (c0 : w.cell? ⟨r, o, none⟩ = some (.int .i64 x)) (c1 : w.cell? ⟨r, o + 1, none⟩ = some (.int .i64 y)) (c2 : w.cell? ⟨r, o + 2, none⟩ = some (.string s)) (n0 : w.cell? ⟨N, 0, none⟩ = some (.pointer (some ⟨b, 0, none⟩)))
    (hS : Calls Try.prog 8 #[.pointer (some ⟨b, 0, none⟩), .agg #[.int .i64 x, .int .i64 y, .string s]] w.drew (Tells R)) :
    Calls Try.prog 23 #[.pointer (some ⟨r, o, none⟩), .pointer (some ⟨N, 0, none⟩)] w (Tells R) := by
  have HS := Lib.hid hS
  clear hS
  go_enter Try.func23, Try.ntmps23
  go_wp2
  refine wp_region_still_tail 4 (by kernel_rfl) (by kernel_rfl) ?_
  simp only [List.take_succ_cons, List.take_zero, List.drop_succ_cons, List.drop_zero]
  change wpStill _ _ (World.drew _) (fun a' => wpList _ _ _ _ a' (World.drew _)) _ _
  repeat still_step
  try refine wpStill_nil ?_
  go_wp2_with (go_at_call 8; (with_reducible refine HS.out.mono ?_); rintro e w1 ⟨ok, rfl, hR⟩)
  go_ret
  exact ⟨ok, rfl, hR⟩
theorem with_copy (R : Bool → World → Prop) (room lost : Int) (L : List Pk) (f : Int → Int → Int) (b g r cap N i : Nat) (p : Pk) (w : World) (h : Open23 room lost L f b g r cap w) (hi : L[i]? = some p) (hN : Blk w N 23 #[.pointer (some ⟨b, 0, none⟩)])
    (hS : Calls Try.prog 8 #[.pointer (some ⟨b, 0, none⟩), .agg #[.int .i64 p.x, .int .i64 p.y, .string p.s]] w.drew (Tells R)) :
    Calls Try.prog 20 #[.pointer (some ⟨b, 0, none⟩), .int .i64 i, .func (.func 23) #[] #[.pointer (some ⟨N, 0, none⟩)]] w (Tells R) := by
  have hil : i < L.length := by rw [List.getElem?_eq_some_iff] at hi; exact hi.1
  obtain ⟨cur, hr, hcs, hct⟩ := h.row
  have hc : ∀ k, k < L.length * 3 → w.cell? ⟨r, k, none⟩ = (pkCells L)[k]? := fun k hk => by
    rw [cell_of_row w r k cur _ (0, 0) hr, ← hct, List.getElem?_take, if_pos hk]; simp
  obtain ⟨e0, e1, e2⟩ := pkCells_at L i _ hi
  have T1 := Lib.hid (copy1 R b N r (i * 3) p.x p.y p.s w ((hc _ (by omega)).trans e0) ((hc _ (by omega)).trans e1) ((hc _ (by omega)).trans e2) (hN.cell 0) hS)
  have OL := Lib.hid (open_len h)
  have c1 : w.cell? ⟨b, 1, none⟩ = some (.slice (some ⟨r, 0, none⟩) L.length cap) := h.blk.cell 1
  have hi0 : (0 : Int) ≤ (i : Int) := by omega
  have hi1 : ¬ ((L.length : Int) ≤ (i : Int)) := by omega
  have hi2 : (i : Int) < (L.length : Int) := by omega
  have hcap := h.cap
  unfold maxLen at hcap
  clear h hi hN hS hr hcs hct hc e0 e1 e2
  go_enter Try.func20, Try.ntmps20
  go_wp2_with (first
    | (go_at_call 10; (with_reducible refine OL.out.mono ?_); rintro e w' ⟨rfl, rfl⟩)
    | (go_at_call 23; (with_reducible refine T1.out.mono ?_); rintro e w1 ⟨ok, rfl, hR⟩))
  go_ret
  exact ⟨ok, rfl, hR⟩
/-- What a step that may send leaves. -/
def Sent (base : Nat) (room : Int) (k n b : Nat) (w : World) (ok : Bool) (w' : World) : Prop := Net base room (k + 1) (n + one ok) b w' ∧ Fr (fun j => base ≤ j) w w'
theorem copy_step {base : Nat} {room : Int} {k n b : Nat} (i : Nat) {w : World} (h : Net base room k n b w) (hk : k ≤ 90) (hr : room ≤ 12) :
    Calls Try.prog 13 #[.pointer (some ⟨b, 0, none⟩), .int .i64 i] w (Tells (Sent base room k n b w)) := by
  have hN := h
  obtain ⟨L, lost, h1, h2, h3, h4, h5, h6, h7, h8⟩ := h
  by_cases hi : i < L.length
  · obtain ⟨p, hp⟩ : ∃ p, L[i]? = some p := ⟨L[i], List.getElem?_eq_getElem hi⟩
    obtain ⟨⟨a1, a2⟩, ⟨b1, b2⟩, c, d⟩ := h3 p (List.mem_of_getElem? hp)
    have hF0 : Fr noneOf w (w.alloc (.cells #[.pointer (some ⟨b, 0, none⟩)] 23)) := (Fr.refl _ _).alloc _
    obtain ⟨g, r, cap, hO, q1, q2, q3⟩ := (h2.fr hF0).opened (by omega)
    have HS := send_step p.x p.y p.s (hN.fr hF0.drew) hk hr ⟨a1, a2⟩ ⟨b1, b2⟩ (by omega)
    have HC := Lib.hid (with_copy (Sent base room k n b w) room lost L (cnt L) b g r cap w.heap.size i p _ hO hp (Blk.new w _ _) (HS.mono fun e w' ⟨ok, he, hn, hf⟩ => ⟨ok, he, hn, (hF0.drew.of0 (fun j => base ≤ j)).trans hf⟩))
    clear h2 h3 h4 hN hp HS hO
    go_enter Try.func13, Try.ntmps13
    go_wp2_with (go_at_call 20; (with_reducible refine HC.out.mono ?_); rintro e w1 ⟨ok, rfl, hR⟩)
    go_ret
    exact ⟨ok, rfl, hR⟩
  · exact (copy_out h2 (i : Int) (by omega)).mono fun e w' ⟨he, hf⟩ => ⟨false, he, (hN.fr hf).more (by omega), hf.of0 _⟩
theorem inject_step {base : Nat} {room : Int} {k n b : Nat} (x y : Int) (s : ByteArray) {w : World} (h : Net base room k n b w) (hk : k ≤ 90) (hr : room ≤ 12) (hx : 0 ≤ x ∧ x ≤ 3) (hy : 0 ≤ y ∧ y ≤ 3) (hs : s.size ≤ 4100) :
    Calls Try.prog 15 #[.pointer (some ⟨b, 0, none⟩), .agg #[.int .i64 x, .int .i64 y, .string s]] w (Tells (Sent base room k n b w)) := by
  obtain ⟨S, e, he, hO⟩ := open_any s hs
  have HO := Lib.hid hO
  have HBX := Lib.hid (Blk.new w 27 #[.int .i64 x, .int .i64 y, .string s])
  have HS : Hid (∀ w', Fr noneOf w w' → Calls Try.prog 8 #[.pointer (some ⟨b, 0, none⟩), .agg #[.int .i64 x, .int .i64 y, .string s]] w' (Tells (Sent base room k n b w))) := Lib.hid (fun w' hf => (send_step x y s (h.fr hf) hk hr hx hy (by omega)).mono fun e w'' ⟨ok, he, hn, hf2⟩ => ⟨ok, he, hn, (hf.of0 (fun j => base ≤ j)).trans hf2⟩)
  have HN := Lib.hid h
  clear hO hs h
  rcases he with rfl | ⟨n, rfl⟩
  all_goals
    go_enter Try.func15, Try.ntmps15
    go_wp2_with (first
      | (go_at_call 26; refine (HO.out _).mono ?_; rintro e w1 ⟨rfl, hf1⟩; have HF1 := Lib.hid (Fr.trans ((Fr.refl noneOf w).alloc (.cells #[.int .i64 x, .int .i64 y, .string s] 27)) hf1); have d0 : w1.cell? ⟨w.heap.size, 0, none⟩ = some (.int .i64 x) := (HBX.out.fr0 hf1).cell 0; have d1 : w1.cell? ⟨w.heap.size, 1, none⟩ = some (.int .i64 y) := (HBX.out.fr0 hf1).cell 1; have d2 : w1.cell? ⟨w.heap.size, 2, none⟩ = some (.string s) := (HBX.out.fr0 hf1).cell 2; clear hf1)
      | (go_at_call 8; (with_reducible refine (HS.out _ HF1.out).mono ?_); rintro e w2 ⟨ok, rfl, hR⟩))
    go_ret
    first
      | exact ⟨ok, rfl, hR⟩
      | exact ⟨false, rfl, (HN.out.fr HF1.out).more (by omega), HF1.out.of0 _⟩
end Go.Proofs.Ytblnmghbcgbgdaa
