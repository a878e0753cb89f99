/-
  Contract of Num: any text, from its head.
-/
import Derived.Test.YtijcochanobpgaaDoorFailed
import Derived.Deep.DeepCutAuto
namespace Go.Proofs.YtijcochanobpgaaDoor
open Go.RowKit Nums
set_option linter.unusedVariables false

set_option maxHeartbeats 2000000 in
theorem num_any (l : List UInt8) (lo hi : Int) (s : ByteArray) (b : Nat) (w : World) (hs : s = ⟨l.toArray⟩) (hsz : l.length ≤ 100000) (h : Rw s 0 0 b w) :
    Calls Tryd.prog 9 #[.pointer (some ⟨b, 0, none⟩), .int .i64 lo, .int .i64 hi] w fun e w' => Fr (justOf b) w w' ∧ ((∃ (n : Int) (k : Nat), e = .returned (.int .i64 n) ∧ Rw s k 0 b w' ∧ lo ≤ n ∧ n ≤ hi ∧ -9223372036854775808 ≤ n ∧ n ≤ 9223372036854775807 ∧ k ≤ l.length ∧ enc (fold n) = l.take k) ∨ (∃ c : Int, e = .returned (.int .i64 0) ∧ Rw s 0 c b w' ∧ (c = 10 ∨ c = 11 ∨ c = 16))) := by
  have HNU := Lib.hid (fun w => number_any l w hsz)
  rw [← hs] at HNU
  have hss : s.size = l.length := by rw [hs, str_size]
  have hx : s.extract 0 s.size = s := by
    apply WideShapes.bytes_inj
    rw [ByteArray.data_extract]
    simp only [Array.toList_extract, List.extract_eq_take_drop, List.drop_zero, Nat.sub_zero]
    exact List.take_of_length_le (by simp)
  have c0 : w.cell? ⟨b, 0, none⟩ = some (.string s) := h.cell 0
  have c1 : w.cell? ⟨b, 1, none⟩ = some (.int .i64 0) := h.cell 1
  have H := Lib.hid h
  have hszI : (s.size : Int) ≤ 100000 := by omega
  have hs0 : (0 : Int) ≤ (s.size : Int) := by omega
  have HSS := Lib.hid (And.intro hss hsz)
  clear hs hsz h hss
  go_enter Tryd.func9, Tryd.ntmps9
  go_wp2_with (go_at_call 21; refine (works_yes s 0 b _ H.out).mono ?_; rintro e w' ⟨rfl, rfl⟩)
  (go_region_held3 (fun w' => (w'.cell? ⟨b, 0, none⟩ = some (.string s) ∧ w'.cell? ⟨b, 1, none⟩ = some (.int .i64 0)) ∧ Fr noneOf w w')
    (first | exact ⟨⟨(H.out.fr0 hk).cell 0, (H.out.fr0 hk).cell 1⟩, hk⟩ | exact ⟨⟨H.out.cell 0, H.out.cell 1⟩, Fr.refl _ _⟩ | (have q : Fr noneOf w w.drew := (Fr.refl noneOf w).drew; exact ⟨⟨(H.out.fr0 q).cell 0, (H.out.fr0 q).cell 1⟩, q⟩) | go_keep)
    (first
      | (go_at_call 22; go_split_ands; (with_reducible refine (HNU.out _).mono ?_); rintro e wk ⟨u, sz, c, rfl, rfl, hu0, hu1, hcs⟩; have hk := (by assumption : Fr noneOf w _))))
  all_goals
    obtain ⟨n, hn, hn0, hn1⟩ := fold_back u.toNat (by omega)
    have HU : Hid (∀ w, Calls Tryd.prog 23 #[.int .u64 u] w fun e w' => e = .returned (.int .i64 n) ∧ w = w') := Lib.hid (fun w => by
      have := unfold_fold n w hn0 hn1
      rw [hn, Int.toNat_of_nonneg hu0] at this
      exact this)
    have HD := Lib.hid (H.out.fr0 hk)
    have HK := Lib.hid hk
    have HN := Lib.hid (And.intro hn0 (And.intro hn1 hn))
    have d1 : World.cell? _ ⟨b, 1, none⟩ = some (.int .i64 0) := HD.out.cell 1
    clear hu0 hu1 hn hn0 hn1 c0 c1 hk hx hszI hs0
    rcases hcs with ⟨rfl, k, rfl, hkl, he⟩ | hc
    · have HE := Lib.hid he
      have hk0 : (0 : Int) ≤ (k : Int) := by omega
      clear he
      by_cases hlo : n < lo
      · clear d1
        go_wp2_with (first
          | (go_at_call 23; refine (HU.out _).mono ?_; rintro e w' ⟨rfl, rfl⟩)
          | (go_at_call 14; refine (fail_any s 0 b 16 _ HD.out).mono ?_; rintro e w2 ⟨rfl, hR, hf2⟩))
        go_ret
        exact ⟨Fr.trans (Fr.of0 _ HK.out) hf2, .inr ⟨16, rfl, hR, .inr (.inr rfl)⟩⟩
      · by_cases hhi : hi < n
        · clear d1
          go_wp2_with (first
            | (go_at_call 23; refine (HU.out _).mono ?_; rintro e w' ⟨rfl, rfl⟩)
            | (go_at_call 14; refine (fail_any s 0 b 16 _ HD.out).mono ?_; rintro e w2 ⟨rfl, hR, hf2⟩))
          go_ret
          exact ⟨Fr.trans (Fr.of0 _ HK.out) hf2, .inr ⟨16, rfl, hR, .inr (.inr rfl)⟩⟩
        · have hkm : (k : Int) ≤ 100000 := by have := HSS.out.2; omega
          go_wp2_with (first
            | (go_at_call 23; refine (HU.out _).mono ?_; rintro e w' ⟨rfl, rfl⟩)
            | (go_at_call 14; refine (fail_any s 0 b 0 _ HD.out).mono ?_; rintro e w2 ⟨rfl, hR, hf2⟩; have d1 : w2.cell? ⟨b, 1, none⟩ = some (.int .i64 0) := hR.cell 1; have e1 := hR.frozen 1; have HR := Lib.hid hR; clear hR))
          go_ret
          refine ⟨Fr.put b 1 _ (Fr.trans (Fr.of0 _ HK.out) hf2), .inl ⟨n, k, rfl, ?_, by omega, by omega, HN.out.1, HN.out.2.1, hkl, by rw [HN.out.2.2]; exact HE.out⟩⟩
          have := HR.out.set_ 1 (.int .i64 (k : Int))
          exact this
    · have hc0 : (c == 0) = false := by rcases hc with ⟨rfl, _⟩ | ⟨rfl, _⟩ <;> rfl
      have HC : Hid (c = 10 ∨ c = 11 ∨ c = 16) := Lib.hid (by omega)
      clear hc d1
      go_wp2_with (first
        | (go_at_call 23; refine (HU.out _).mono ?_; rintro e w' ⟨rfl, rfl⟩)
        | (go_at_call 14; refine (fail_any s 0 b c _ HD.out).mono ?_; rintro e w2 ⟨rfl, hR, hf2⟩))
      go_ret
      exact ⟨Fr.trans (Fr.of0 _ HK.out) hf2, .inr ⟨c, rfl, hR, HC.out⟩⟩
end Go.Proofs.YtijcochanobpgaaDoor
