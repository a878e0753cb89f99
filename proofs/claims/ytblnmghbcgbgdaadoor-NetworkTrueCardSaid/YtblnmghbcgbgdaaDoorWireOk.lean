/-
  Package wire: Check of a message that may be.
-/
import Derived.Test.YtblnmghbcgbgdaaDoorWireCheck
namespace Go.Proofs.YtblnmghbcgbgdaaDoor
open Go.RowKit Nums
set_option linter.unusedVariables false
set_option linter.unusedSimpArgs false

set_option maxHeartbeats 4000000 in
theorem check_gen (k g s : Int) (key : Bool) (body path : ByteArray) (n c : Int) (w : World) (hk1 : 1 ≤ k) (hk9 : k ≤ 9)
    (HO : Hid (∀ w, Calls Tryd.prog 39 #[.agg #[.int .i64 k, .int .i64 g, .int .i64 s, .bool key, .string body, .string path, .int .i64 n, .int .i64 c]] w fun e w' => e = .returned (.agg #[.int .i64 k, .int .i64 g, .int .i64 s, .bool key, .string body, .string path, .int .i64 n, .int .i64 c]) ∧ Fr noneOf w w'))
    (HP : Hid (∀ w, Calls Tryd.prog 40 #[.string path] w fun e w' => e = .returned (.bool true) ∧ Fr noneOf w w')) (hn0 : 0 ≤ n) (hn1 : n ≤ 15) (hc0 : 0 ≤ c) (hc1 : c ≤ 1048576)
    (HF : Hid ((k = 5 ∧ (-1 ≤ g ∧ g ≤ 1073741824) ∧ -1 ≤ s ∧ s ≤ 1073741824) ∨ (k ≠ 5 ∧ (0 ≤ g ∧ g ≤ 1073741824) ∧ 0 ≤ s ∧ s ≤ 1073741824))) :
    Calls Tryd.prog 13 #[.agg #[.int .i64 k, .int .i64 g, .int .i64 s, .bool key, .string body, .string path, .int .i64 n, .int .i64 c]] w fun e w' => e = .returned (.bool true) ∧ Fr noneOf w w' := by
  have d1 : decide (k < 1) = false := by simp; omega
  have d2 : decide ((9 : Int) < k) = false := by simp; omega
  have HN := Lib.hid (And.intro hn0 hn1)
  have HC := Lib.hid (And.intro hc0 hc1)
  have HB := Lib.hid (Blk.new w 25 #[.int .i64 k, .int .i64 g, .int .i64 s, .bool key, .string body, .string path, .int .i64 n, .int .i64 c])
  obtain ⟨b, hb⟩ : ∃ b, b = w.heap.size := ⟨_, rfl⟩
  obtain ⟨W, hW⟩ : ∃ W, W = w.alloc (.cells #[.int .i64 k, .int .i64 g, .int .i64 s, .bool key, .string body, .string path, .int .i64 n, .int .i64 c] 25) := ⟨_, rfl⟩
  have HFW : Hid (Fr noneOf w W) := Lib.hid (by rw [hW]; exact (Fr.refl _ _).alloc _)
  rw [← hW, ← hb] at HB
  clear hn0 hn1 hc0 hc1 hk1 hk9
  go_enter Tryd.func13, Tryd.ntmps13
  go_wp2
  rw [← hW, ← hb]
  clear hW hb
  have HCL : Hid (∀ w', Fr noneOf W w' → w'.cell? ⟨b, 0, none⟩ = some (.int .i64 k) ∧ w'.cell? ⟨b, 1, none⟩ = some (.int .i64 g) ∧ w'.cell? ⟨b, 2, none⟩ = some (.int .i64 s) ∧ w'.cell? ⟨b, 3, none⟩ = some (.bool key) ∧ w'.cell? ⟨b, 4, none⟩ = some (.string body) ∧ w'.cell? ⟨b, 5, none⟩ = some (.string path) ∧ w'.cell? ⟨b, 6, none⟩ = some (.int .i64 n) ∧ w'.cell? ⟨b, 7, none⟩ = some (.int .i64 c)) := Lib.hid (fun w' hf => ⟨(HB.out.fr0 hf).cell 0, (HB.out.fr0 hf).cell 1, (HB.out.fr0 hf).cell 2, (HB.out.fr0 hf).cell 3, (HB.out.fr0 hf).cell 4, (HB.out.fr0 hf).cell 5, (HB.out.fr0 hf).cell 6, (HB.out.fr0 hf).cell 7⟩)
  have hk0 := Fr.refl noneOf W
  (go_region_held3 (fun w' => (w'.cell? ⟨b, 0, none⟩ = some (.int .i64 k) ∧ w'.cell? ⟨b, 1, none⟩ = some (.int .i64 g) ∧ w'.cell? ⟨b, 2, none⟩ = some (.int .i64 s) ∧ w'.cell? ⟨b, 3, none⟩ = some (.bool key) ∧ w'.cell? ⟨b, 4, none⟩ = some (.string body) ∧ w'.cell? ⟨b, 5, none⟩ = some (.string path) ∧ w'.cell? ⟨b, 6, none⟩ = some (.int .i64 n) ∧ w'.cell? ⟨b, 7, none⟩ = some (.int .i64 c)) ∧ Fr noneOf W w')
    (first | exact ⟨HCL.out _ hk, hk⟩ | exact ⟨HCL.out _ hk0.drew, hk0.drew⟩)
    (first
      | (go_at_call 39; go_split_ands; (with_reducible refine (HO.out _).mono ?_); rintro e wk ⟨rfl, hf⟩; have hk := Fr.trans (S := noneOf) (a := W) (by assumption) hf)
      | (go_at_call 40; go_split_ands; (with_reducible refine (HP.out _).mono ?_); rintro e wk ⟨rfl, hf⟩; have hk := Fr.trans (S := noneOf) (a := W) (by assumption) hf)
      | (go_at_call 38; go_split_ands; (with_reducible refine (within_yes n 15 _ HN.out.1 HN.out.2).mono ?_); rintro e wk ⟨rfl, rfl⟩; have hk := (by assumption : Fr noneOf W _))
      | (go_at_call 38; go_split_ands; (with_reducible refine (within_yes c 1048576 _ HC.out.1 HC.out.2).mono ?_); rintro e wk ⟨rfl, rfl⟩; have hk := (by assumption : Fr noneOf W _))))
  all_goals
    obtain ⟨c0, c1, c2, c3, c4, c5, c6, c7⟩ := HCL.out _ hk
    have hbw := (HB.out.fr0 hk).lt
    rcases HF.out with ⟨h5, hg, hs⟩ | ⟨h5, hg, hs⟩
    · subst h5
      have HG := Lib.hid (And.intro hg hs)
      clear hg hs
      go_wp2_with (first
        | (go_at_call 41; (with_reducible refine (number_yes g _ HG.out.1.1 HG.out.1.2).mono ?_); rintro e w2 ⟨rfl, rfl⟩)
        | (go_at_call 41; (with_reducible refine (number_yes s _ HG.out.2.1 HG.out.2.2).mono ?_); rintro e w2 ⟨rfl, rfl⟩))
      go_ret
      exact ⟨rfl, HFW.out.trans hk⟩
    · have hne : (k == 5) = false := by simpa using h5
      have HG := Lib.hid (And.intro hg hs)
      clear hg hs h5
      go_wp2_with (go_at_call 42; (with_reducible refine (fcheck_yes g s key body _ HG.out).mono ?_); rintro e w2 ⟨rfl, hf2⟩)
      go_ret
      exact ⟨rfl, (HFW.out.trans hk).trans hf2⟩
theorem pathOk_nil : pathOk ⟨#[]⟩ = true := pathOk_of [] (pathL_of [] (by simp) (by simp))
theorem check_ok (m : Ms) (hm : m.ok) (w : World) : Calls Tryd.prog 13 #[.agg m.val] w fun e w' => e = .returned (.bool true) ∧ Fr noneOf w w' := by
  have HO : Hid (∀ w, Calls Tryd.prog 39 #[.agg m.val] w fun e w' => e = .returned (.agg m.val) ∧ Fr noneOf w w') := Lib.hid (only_any m hm)
  have HP : ∀ s : ByteArray, s.size ≤ 9223372036854775807 → pathOk s = true → Hid (∀ w, Calls Tryd.prog 40 #[.string s] w fun e w' => e = .returned (.bool true) ∧ Fr noneOf w w') := fun s h1 h2 => Lib.hid (fun w => by have := path_any s w h1; rwa [h2] at this)
  have HE := HP ⟨#[]⟩ (by decide) pathOk_nil
  cases m with
  | bare k => exact check_gen k 0 0 false ⟨#[]⟩ ⟨#[]⟩ 0 0 w (by rcases hm with h | h <;> omega) (by rcases hm with h | h <;> omega) HO HE (by omega) (by omega) (by omega) (by omega) (Lib.hid (.inr ⟨by rcases hm with h | h <;> omega, by omega, by omega⟩))
  | path k p => exact check_gen k 0 0 false ⟨#[]⟩ ⟨p.toArray⟩ 0 0 w (by rcases hm.1 with h | h <;> omega) (by rcases hm.1 with h | h <;> omega) HO (HP _ (by rw [str_size]; have := hm.2.1; omega) (pathOk_of p hm.2)) (by omega) (by omega) (by omega) (by omega) (Lib.hid (.inr ⟨by rcases hm.1 with h | h <;> omega, by omega, by omega⟩))
  | refuse n => have hm : n ≤ 15 := hm; exact check_gen 3 0 0 false ⟨#[]⟩ ⟨#[]⟩ n 0 w (by omega) (by omega) HO HE (by omega) (by omega) (by omega) (by omega) (Lib.hid (.inr ⟨by omega, by omega, by omega⟩))
  | alive g s key => exact check_gen 5 g s key ⟨#[]⟩ ⟨#[]⟩ 0 0 w (by omega) (by omega) HO HE (by omega) (by omega) (by omega) (by omega) (Lib.hid (.inl ⟨rfl, hm.1, hm.2⟩))
  | frame g s key b => obtain ⟨h1, h2, h3⟩ := hm; exact check_gen 6 g s key ⟨b.toArray⟩ ⟨#[]⟩ 0 0 w (by omega) (by omega) HO HE (by omega) (by omega) (by omega) (by omega) (Lib.hid (.inr ⟨by omega, by omega, by omega⟩))
  | hand k p n c => obtain ⟨h0, h1, h2, h3⟩ := hm; exact check_gen k 0 0 false ⟨#[]⟩ ⟨p.toArray⟩ n c w (by rcases h0 with h | h <;> omega) (by rcases h0 with h | h <;> omega) HO (HP _ (by rw [str_size]; have := h1.1; omega) (pathOk_of p h1)) (by omega) (by omega) (by omega) (by omega) (Lib.hid (.inr ⟨by rcases h0 with h | h <;> omega, by omega, by omega⟩))
end Go.Proofs.YtblnmghbcgbgdaaDoor
