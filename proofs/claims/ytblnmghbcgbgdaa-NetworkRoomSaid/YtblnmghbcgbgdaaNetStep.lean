/-
  Contracts of a network's Send, Take, Drop, Copy and Inject, as a step of the law's.
-/
import Derived.Test.YtblnmghbcgbgdaaNetP
import Derived.Test.YtblnmghbcgbgdaaOpen
import Derived.StillTailTactics
namespace Go.Proofs.Ytblnmghbcgbgdaa
open Go.RowKit
set_option linter.unusedVariables false

theorem net_not {b : Nat} (x y : Int) (s : ByteArray) (w : World) (hs : s.size ≤ 9223372036854775807) (hm : mayBe x y s.size = false) :
    Calls Try.prog 8 #[.pointer (some ⟨b, 0, none⟩), .agg #[.int .i64 x, .int .i64 y, .string s]] w fun e w' => e = .returned (.bool false) ∧ Fr noneOf w w' := by
  have HM : Hid (∀ w, Calls Try.prog 19 #[.agg #[.int .i64 x, .int .i64 y, .string s]] w fun e w' => e = .returned (.bool false) ∧ Fr noneOf w w') := Lib.hid (fun w => by
    have := may_any x y s w hs
    rw [hm] at this
    exact this)
  clear hm
  go_enter Try.func8, Try.ntmps8
  go_wp2_with (go_at_call 19; (with_reducible refine (HM.out _).mono ?_); rintro e w1 ⟨rfl, hf1⟩)
  go_ret
  exact ⟨rfl, ((Fr.refl noneOf w).alloc _).trans hf1⟩
/-- The truth as a number. -/
def one (b : Bool) : Nat := if b then 1 else 0
theorem send_step {base : Nat} {room : Int} {k n b : Nat} (x y : Int) (s : ByteArray) {w : World} (h : Net base room k n b w) (hk : k ≤ 90) (hr : room ≤ 12) (hx : 0 ≤ x ∧ x ≤ 3) (hy : 0 ≤ y ∧ y ≤ 3) (hs : s.size ≤ 9223372036854775807) :
    Calls Try.prog 8 #[.pointer (some ⟨b, 0, none⟩), .agg #[.int .i64 x, .int .i64 y, .string s]] w fun e w' => ∃ ok : Bool, e = .returned (.bool ok) ∧ Net base room (k + 1) (n + one ok) b w' ∧ Fr (fun j => base ≤ j) w w' := by
  cases hm : mayBe x y s.size with
  | false =>
    exact (net_not x y s w hs hm).mono fun e w' ⟨he, hf⟩ => ⟨false, he, (h.fr hf).more (by omega), hf.of0 _⟩
  | true =>
    obtain ⟨L, lost, h1, h2, h3, h4, h5, h6, h7, h8⟩ := h
    have hxy := mayBe_ok x y s.size hm
    have hp : okPk ⟨x, y, s⟩ := ⟨hx, hy, hxy.2.2.1, hxy.2.2.2⟩
    by_cases hroom : cnt L x y < room
    · refine (net_send x y s h2 (by unfold I64; omega) (by unfold I64; omega) hs hm hroom hr (cnt_pos L x y) (by omega) h8).mono fun e w' ⟨he, hN, hf⟩ => ⟨true, he, ⟨L ++ [⟨x, y, s⟩], lost, by simp [one, h1], ?_, ?_, ?_, h5, by omega, by simp [one]; omega, Nat.le_trans h8 hf.size⟩, hf⟩
      · have e1 := cnt_snoc L ⟨x, y, s⟩
        dsimp only at e1
        rw [e1, ← pkCells_snoc] at hN
        rw [List.length_append]
        exact hN
      · intro p hpm
        rcases List.mem_append.1 hpm with h | h
        · exact h3 p h
        · simp at h; rw [h]; exact hp
      · intro a c
        rw [cnt_app]
        simp only [cnt]
        by_cases hh : x = a ∧ y = c
        · obtain ⟨rfl, rfl⟩ := hh
          simp
          omega
        · have := h4 a c
          simp [hh]
          omega
    · exact (net_full x y s h2 (by unfold I64; omega) (by unfold I64; omega) hs hm (by omega) (by omega) (by omega)).mono fun e w' ⟨he, hN, hf⟩ => ⟨false, he, ⟨L, lost + 1, by simpa [one] using h1, hN, h3, h4, by omega, by omega, by simp [one]; omega, Nat.le_trans h8 hf.size⟩, hf.mono (fun i e => by
        have e : i = b := e
        obtain ⟨_, _, _, _, _, _, q, _⟩ := h2
        rw [e]; exact q)⟩
theorem take_step {base : Nat} {room : Int} {k n b : Nat} (i : Nat) {w : World} (h : Net base room k n b w) (hr : room ≤ 12) :
    Calls Try.prog 9 #[.pointer (some ⟨b, 0, none⟩), .int .i64 i] w fun e w' => ∃ (x y : Int) (s : ByteArray) (is : Bool), e = .returned (.tuple #[.agg #[.int .i64 x, .int .i64 y, .string s], .bool is]) ∧ one is ≤ n ∧ Net base room k (n - one is) b w' ∧ Fr (fun j => base ≤ j) w w' := by
  have hN := h
  obtain ⟨L, lost, h1, h2, h3, h4, h5, h6, h7, h8⟩ := h
  by_cases hi : i < L.length
  · obtain ⟨p, hp⟩ : ∃ p, L[i]? = some p := ⟨L[i], List.getElem?_eq_getElem hi⟩
    have hok := h3 p (List.mem_of_getElem? hp)
    obtain ⟨⟨a1, a2⟩, ⟨b1, b2⟩, c, d⟩ := hok
    have hle := h4 p.x p.y
    have hat := cnt_at L i p hp
    refine (net_take h2 hp (by unfold I64; omega) (by unfold I64; omega) hat (by omega) h8).mono fun e w' ⟨he, hN, hf⟩ => ⟨p.x, p.y, p.s, true, he, by simp [one]; omega, ⟨L.eraseIdx i, lost, by rw [List.length_eraseIdx]; simp [one, hi]; omega, ?_, fun q hq => h3 q (List.mem_of_mem_eraseIdx hq), ?_, h5, h6, by simp [one]; omega, Nat.le_trans h8 hf.size⟩, hf⟩
    · rw [cnt_erase L i p hp] at hN
      exact hN
    · intro a c
      rw [← cnt_erase L i p hp]
      have := h4 a c
      simp only [upd]
      split <;> omega
  · exact (take_out h2 (i : Int) (by omega)).mono fun e w' ⟨he, hf⟩ => ⟨0, 0, ⟨#[]⟩, false, he, by simp [one], by simpa [one] using hN.fr hf, hf.of0 _⟩
theorem drop_step {base : Nat} {room : Int} {k n b : Nat} (i : Nat) {w : World} (h : Net base room k n b w) (hr : room ≤ 12) :
    Calls Try.prog 12 #[.pointer (some ⟨b, 0, none⟩), .int .i64 i] w fun e w' => ∃ is : Bool, e = .returned (.bool is) ∧ one is ≤ n ∧ Net base room k (n - one is) b w' ∧ Fr (fun j => base ≤ j) w w' := by
  have hbw : base ≤ w.heap.size := h.choose_spec.choose_spec.2.2.2.2.2.2.2
  have HT := Lib.hid (take_step i h hr)
  clear h
  go_enter Try.func12, Try.ntmps12
  go_wp2_with (go_at_call 9; (with_reducible refine HT.out.mono ?_); rintro e w1 ⟨x, y, s, is, rfl, hle, hN, hf1⟩; have HN := Lib.hid (And.intro hle (And.intro hN hf1)); clear hle hN hf1)
  go_ret
  exact ⟨is, rfl, HN.out.1, HN.out.2.1.fr ((Fr.refl _ _).alloc _), HN.out.2.2.trans' ((Fr.refl noneOf _).alloc _) (fun _ _ x => x.elim)⟩
end Go.Proofs.Ytblnmghbcgbgdaa
