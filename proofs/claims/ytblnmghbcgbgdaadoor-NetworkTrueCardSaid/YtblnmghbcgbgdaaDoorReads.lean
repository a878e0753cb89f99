/-
  Readings of a row that may fail: each has one outcome, whatever the world.
  Conditions: none.
-/
import Derived.Test.YtblnmghbcgbgdaaDoorSt
import Derived.Test.YtblnmghbcgbgdaaDoorFailedW
import Derived.Deep.DeepCutAuto
namespace Go.Proofs.YtblnmghbcgbgdaaDoor
open Go.RowKit Nums
set_option linter.unusedVariables false

set_option maxHeartbeats 2000000 in
theorem num_lost (p : Nat) (lo hi : Int) (s : ByteArray) (b : Nat) (w : World) (hp : p ≤ s.size) (hsz : s.size ≤ 100000) (h : Rw s p 0 b w)
    (hno : ¬ ∃ (n : Int) (k : Nat), lo ≤ n ∧ n ≤ hi ∧ -9223372036854775808 ≤ n ∧ n ≤ 9223372036854775807 ∧ enc (fold n) = (s.data.toList.drop p).take k) :
    Calls Tryd.prog 67 #[.pointer (some ⟨b, 0, none⟩), .int .i64 lo, .int .i64 hi] w fun e w' => e = .returned (.int .i64 0) ∧ St false s p b w' ∧ Fr (justOf b) w w' := by
  have hdl : (s.data.toList.take p).length = p := by rw [List.length_take]; have : s.data.toList.length = s.size := by simp
                                                     omega
  have hx := drop_str (s.data.toList.take p) (s.data.toList.drop p) s (List.take_append_drop p _).symm
  rw [hdl] at hx
  have hll : (s.data.toList.drop p).length ≤ 100000 := by rw [List.length_drop]; have : s.data.toList.length = s.size := by simp
                                                          omega
  have HNU := Lib.hid (fun w => number_any (s.data.toList.drop p) w hll)
  obtain ⟨l, hl⟩ : ∃ l, l = s.data.toList.drop p := ⟨_, rfl⟩
  obtain ⟨t, ht⟩ : ∃ t : ByteArray, t = ⟨l.toArray⟩ := ⟨_, rfl⟩
  rw [← hl] at hx HNU hno
  rw [← ht] at hx HNU
  have c0 : w.cell? ⟨b, 0, none⟩ = some (.string s) := h.cell 0
  have c1 : w.cell? ⟨b, 1, none⟩ = some (.int .i64 (p : Int)) := h.cell 1
  have H := Lib.hid h
  have HNO := Lib.hid hno
  have hp0 : (0 : Int) ≤ (p : Int) := by omega
  have hpI : (p : Int) ≤ (s.size : Int) := by omega
  have hszI : (s.size : Int) ≤ 100000 := by omega
  clear hsz h hno hdl hll hl ht
  go_enter Tryd.func67, Tryd.ntmps67
  go_wp2_with (go_at_call 69; refine (works_yes s p b _ H.out).mono ?_; rintro e w' ⟨rfl, rfl⟩)
  (go_region_held3 (fun w' => (w'.cell? ⟨b, 0, none⟩ = some (.string s) ∧ w'.cell? ⟨b, 1, none⟩ = some (.int .i64 (p : Int))) ∧ Fr noneOf w w')
    (first | exact ⟨⟨(H.out.fr0 hk).cell 0, (H.out.fr0 hk).cell 1⟩, hk⟩ | exact ⟨⟨H.out.cell 0, H.out.cell 1⟩, Fr.refl _ _⟩ | (have q : Fr noneOf w w.drew := (Fr.refl noneOf w).drew; exact ⟨⟨(H.out.fr0 q).cell 0, (H.out.fr0 q).cell 1⟩, q⟩) | go_keep)
    (first
      | (go_at_call 86; go_split_ands; (with_reducible refine (HNU.out _).mono ?_); rintro e wk ⟨u, sz, c, rfl, rfl, hu0, hu1, hcs⟩; have hk := (by assumption : Fr noneOf w _))))
  all_goals
    obtain ⟨n, hn, hn0, hn1⟩ := fold_back u.toNat (by omega)
    have HU : Hid (∀ w, Calls Tryd.prog 87 #[.int .u64 u] w fun e w' => e = .returned (.int .i64 n) ∧ w = w') := Lib.hid (fun w => by
      have := unfold_fold n w hn0 hn1
      rw [hn, Int.toNat_of_nonneg hu0] at this
      exact this)
    have HD := Lib.hid (H.out.fr0 hk)
    have HK := Lib.hid hk
    have HN := Lib.hid (And.intro hn0 (And.intro hn1 hn))
    clear hu0 hu1 hn hn0 hn1 c0 c1 hk hx hszI hp0 hpI
    rcases hcs with ⟨rfl, k, rfl, hkl, he⟩ | hc
    · have HE := Lib.hid he
      have hk0 : (0 : Int) ≤ (k : Int) := by omega
      clear he
      by_cases hlo : n < lo
      · go_wp2_with (first
          | (go_at_call 87; refine (HU.out _).mono ?_; rintro e w' ⟨rfl, rfl⟩)
          | (go_at_call 66; refine (fail_any s p b 16 _ HD.out).mono ?_; rintro e w2 ⟨rfl, hR, hf2⟩))
        go_ret
        exact ⟨rfl, ⟨16, rfl, hR⟩, Fr.trans (Fr.of0 _ HK.out) hf2⟩
      · by_cases hhi : hi < n
        · go_wp2_with (first
            | (go_at_call 87; refine (HU.out _).mono ?_; rintro e w' ⟨rfl, rfl⟩)
            | (go_at_call 66; refine (fail_any s p b 16 _ HD.out).mono ?_; rintro e w2 ⟨rfl, hR, hf2⟩))
          go_ret
          exact ⟨rfl, ⟨16, rfl, hR⟩, Fr.trans (Fr.of0 _ HK.out) hf2⟩
        · exact absurd ⟨n, k, by omega, by omega, HN.out.1, HN.out.2.1, by rw [HN.out.2.2]; exact HE.out⟩ HNO.out
    · have hc0 : (c == 0) = false := by rcases hc with ⟨rfl, _⟩ | ⟨rfl, _⟩ <;> rfl
      have HC : Hid ((c == 0) = false) := Lib.hid hc0
      clear hc
      go_wp2_with (first
        | (go_at_call 87; refine (HU.out _).mono ?_; rintro e w' ⟨rfl, rfl⟩)
        | (go_at_call 66; refine (fail_any s p b c _ HD.out).mono ?_; rintro e w2 ⟨rfl, hR, hf2⟩))
      go_ret
      exact ⟨rfl, ⟨c, HC.out, hR⟩, Fr.trans (Fr.of0 _ HK.out) hf2⟩
theorem count_via (hi : Int) (b : Nat) (w : World) (v : Int) (R : World → Prop)
    (HC : Hid (Calls Tryd.prog 67 #[.pointer (some ⟨b, 0, none⟩), .int .i64 0, .int .i64 hi] w fun e w' => e = .returned (.int .i64 v) ∧ R w' ∧ Fr (justOf b) w w')) :
    Calls Tryd.prog 64 #[.pointer (some ⟨b, 0, none⟩), .int .i64 hi] w fun e w' => e = .returned (.int .i64 v) ∧ R w' ∧ Fr (justOf b) w w' := by
  go_enter Tryd.func64, Tryd.ntmps64
  go_wp2_with (go_at_call 67; refine HC.out.mono ?_; rintro e w2 ⟨rfl, hR, hf2⟩)
  go_ret
  exact ⟨rfl, hR, hf2⟩
theorem num_dead (s : ByteArray) (p b : Nat) (x y : Int) (w : World) (h : St false s p b w) : Calls Tryd.prog 67 #[.pointer (some ⟨b, 0, none⟩), .int .i64 x, .int .i64 y] w fun e w' => e = .returned (.int .i64 0) ∧ St false s p b w' ∧ Fr (justOf b) w w' := by
  obtain ⟨c, hc, hR⟩ := h
  exact (num_no s p b c x y w hc hR).mono fun e w' ⟨he, hw⟩ => ⟨he, hw ▸ ⟨c, hc, hR⟩, hw ▸ Fr.refl _ _⟩
theorem text_dead (s : ByteArray) (p b : Nat) (x : Int) (w : World) (h : St false s p b w) : Calls Tryd.prog 68 #[.pointer (some ⟨b, 0, none⟩), .int .i64 x] w fun e w' => e = .returned (.string ⟨#[]⟩) ∧ St false s p b w' ∧ Fr (justOf b) w w' := by
  obtain ⟨c, hc, hR⟩ := h
  exact (text_no s p b c x w hc hR).mono fun e w' ⟨he, hw⟩ => ⟨he, hw ▸ ⟨c, hc, hR⟩, hw ▸ Fr.refl _ _⟩
theorem works_dead (s : ByteArray) (p b : Nat) (w : World) (h : St false s p b w) : Calls Tryd.prog 69 #[.pointer (some ⟨b, 0, none⟩)] w fun e w' => e = .returned (.bool false) ∧ w = w' := by
  obtain ⟨c, hc, hR⟩ := h
  exact works_no s p b c w hc hR
/-- A text whose length can not be read. -/
theorem text_lost (s : ByteArray) (p b : Nat) (hi : Int) (w : World) (hp : p ≤ s.size) (hsz : s.size ≤ 100000) (h : Rw s p 0 b w)
    (HC : Hid (∀ w, Rw s p 0 b w → Calls Tryd.prog 64 #[.pointer (some ⟨b, 0, none⟩), .int .i64 hi] w fun e w' => e = .returned (.int .i64 0) ∧ St false s p b w' ∧ Fr (justOf b) w w')) :
    Calls Tryd.prog 68 #[.pointer (some ⟨b, 0, none⟩), .int .i64 hi] w fun e w' => e = .returned (.string ⟨#[]⟩) ∧ St false s p b w' ∧ Fr (justOf b) w w' := by
  have H := Lib.hid h
  have c1 : w.cell? ⟨b, 1, none⟩ = some (.int .i64 (p : Int)) := h.cell 1
  have hle : (p : Int) ≤ (s.size : Int) := by omega
  have hszI : (s.size : Int) ≤ 100000 := by omega
  have hp0 : (0 : Int) ≤ (p : Int) := by omega
  clear h hsz
  go_enter Tryd.func68, Tryd.ntmps68
  go_wp2_with (first
    | (go_at_call 69; have hh := HC; clear hh; refine (works_yes s p b _ H.out).mono ?_; rintro e w' ⟨rfl, rfl⟩)
    | (go_at_call 64; refine (HC.out _ H.out).mono ?_; rintro e w2 ⟨rfl, hR, hf2⟩; have HR := Lib.hid hR; have HF := Lib.hid hf2; clear hR hf2 HC; obtain ⟨cc, hcc, hR⟩ := HR.out; have d0 : w2.cell? ⟨b, 0, none⟩ = some (.string s) := hR.cell 0; have d1 : w2.cell? ⟨b, 1, none⟩ = some (.int .i64 (p : Int)) := hR.cell 1; clear hR hcc))
  have hwr : IntKind.i64.wrap ((s.size : Int) - (p : Int)) = (s.size : Int) - (p : Int) := by rw [IntKind.wrap_i64]; omega
  have hnle : ¬ (s.size : Int) - (p : Int) < 0 := by omega
  go_quiet (fail)
  have HR2 := Lib.hid (HR.out.fr0 ((Fr.refl noneOf w2).drewN nq))
  go_wp2_with (go_at_call 69; refine (works_dead s p b _ HR2.out).mono ?_; rintro e w' ⟨rfl, rfl⟩)
  go_ret
  exact ⟨rfl, HR2.out, HF.out.drewN _⟩
/-- A text that is longer than what is left. -/
theorem text_short (s : ByteArray) (p q n b : Nat) (hi : Int) (w : World) (hq : q ≤ s.size) (hsz : s.size ≤ 100000) (hn : s.size < q + n) (hn2 : n ≤ 1000000) (h : Rw s p 0 b w)
    (HC : Hid (∀ w, Rw s p 0 b w → Calls Tryd.prog 64 #[.pointer (some ⟨b, 0, none⟩), .int .i64 hi] w fun e w' => e = .returned (.int .i64 (n : Int)) ∧ Rw s q 0 b w' ∧ Fr (justOf b) w w')) :
    Calls Tryd.prog 68 #[.pointer (some ⟨b, 0, none⟩), .int .i64 hi] w fun e w' => e = .returned (.string ⟨#[]⟩) ∧ St false s p b w' ∧ Fr (justOf b) w w' := by
  have H := Lib.hid h
  have c1 : w.cell? ⟨b, 1, none⟩ = some (.int .i64 (p : Int)) := h.cell 1
  have hle : (q : Int) ≤ (s.size : Int) := by omega
  have hszI : (s.size : Int) ≤ 100000 := by omega
  have hq0 : (0 : Int) ≤ (q : Int) := by omega
  have hnI : (s.size : Int) - (q : Int) < (n : Int) := by omega
  clear h hsz
  go_enter Tryd.func68, Tryd.ntmps68
  go_wp2_with (first
    | (go_at_call 69; have hh := HC; clear hh; refine (works_yes s p b _ H.out).mono ?_; rintro e w' ⟨rfl, rfl⟩)
    | (go_at_call 64; refine (HC.out _ H.out).mono ?_; rintro e w2 ⟨rfl, hR, hf2⟩; have HR := Lib.hid hR; have HF := Lib.hid hf2; clear hR hf2 HC; have d0 : w2.cell? ⟨b, 0, none⟩ = some (.string s) := HR.out.cell 0; have d1 : w2.cell? ⟨b, 1, none⟩ = some (.int .i64 (q : Int)) := HR.out.cell 1))
  have hwr : IntKind.i64.wrap ((s.size : Int) - (q : Int)) = (s.size : Int) - (q : Int) := by rw [IntKind.wrap_i64]; omega
  go_quiet (fail)
  have HR2 := Lib.hid (HR.out.fr0 ((Fr.refl noneOf w2).drewN nq))
  have e1 := HR2.out.frozen 1
  have HS3 : Hid (Rw s p 0 b ((w2.drewN nq).setCell ⟨b, 1, none⟩ (.int .i64 (p : Int)))) := Lib.hid (HR2.out.set_ 1 (.int .i64 (p : Int)))
  have HFz := Lib.hid (Fr.put b 1 (.int .i64 (p : Int)) (HF.out.drewN nq))
  go_wp2_with (first
    | (go_at_call 66; refine (fail_any s p b 11 _ HS3.out).mono ?_; rintro e w4 ⟨rfl, hR, hf4⟩; have HR4 : Hid (St false s p b w4) := Lib.hid ⟨11, rfl, hR⟩; have HF4 := Lib.hid (HFz.out.trans hf4); clear hR hf4)
    | (go_at_call 69; refine (works_dead s p b _ HR4.out).mono ?_; rintro e w' ⟨rfl, rfl⟩))
  go_ret
  exact ⟨rfl, HR4.out, HF4.out⟩
end Go.Proofs.YtblnmghbcgbgdaaDoor
