/-
  wire.body of any row, from its head: what it makes, and how the row stands then.
  Conditions: none.
-/
import Derived.Test.YtblnmghbcgbgdaaDoorBodyOdd
import Derived.Test.YtblnmghbcgbgdaaDoorWireNo
import Derived.Test.YtblnmghbcgbgdaaDoorWireMade
namespace Go.Proofs.YtblnmghbcgbgdaaDoor
open Go.RowKit Nums
set_option linter.unusedVariables false
set_option linter.unusedSimpArgs false
theorem take_drop_len (s : ByteArray) (p : Nat) (hp : p ≤ s.size) : (s.data.toList.take p).length = p := by
  rw [List.length_take]
  have : s.data.toList.length = s.size := by simp
  omega
theorem num_next (g : Bool) (s : ByteArray) (p : Nat) (lo hi : Int) (hp : p ≤ s.size) (hsz : s.size ≤ 100000) (h0 : -9223372036854775808 ≤ lo) (h1 : hi ≤ 9223372036854775807) :
    ∃ (v : Int) (q : Nat) (g' : Bool), q ≤ s.size ∧ Hid (∀ b w, St g s p b w → Calls Tryd.prog 67 #[.pointer (some ⟨b, 0, none⟩), .int .i64 lo, .int .i64 hi] w fun e w' => e = .returned (.int .i64 v) ∧ St g' s q b w' ∧ Fr (justOf b) w w')
      ∧ (g' = true → g = true ∧ lo ≤ v ∧ v ≤ hi ∧ p ≤ q ∧ s.data.toList.drop p = enc (fold v) ++ s.data.toList.drop q) ∧ (g' = false → v = 0 ∧ q = p) := by
  cases g with
  | false => exact ⟨0, p, false, hp, Lib.hid (fun b w h => num_dead s p b lo hi w h), fun h => (by cases h), fun _ => ⟨rfl, rfl⟩⟩
  | true =>
    by_cases hex : ∃ (n : Int) (k : Nat), lo ≤ n ∧ n ≤ hi ∧ -9223372036854775808 ≤ n ∧ n ≤ 9223372036854775807 ∧ enc (fold n) = (s.data.toList.drop p).take k
    · obtain ⟨n, k, hlo, hhi, hn0, hn1, he⟩ := hex
      have hl := take_drop_len s p hp
      have hd : s.data.toList.drop p = enc (fold n) ++ (s.data.toList.drop p).drop k := by rw [he, List.take_append_drop]
      have hs : s.data.toList = s.data.toList.take p ++ (enc (fold n) ++ (s.data.toList.drop p).drop k) := by rw [← hd, List.take_append_drop]
      have hsize := congrArg List.length hs
      simp only [List.length_append, hl] at hsize
      have hss : s.data.toList.length = s.size := by simp
      have hd2 : s.data.toList.drop (p + (enc (fold n)).length) = (s.data.toList.drop p).drop k := by
        rw [← List.drop_drop]
        have := congrArg (List.drop (enc (fold n)).length) hd
        rw [List.drop_left] at this
        exact this
      refine ⟨n, p + (enc (fold n)).length, true, by omega, Lib.hid (fun b w h => ?_), fun _ => ⟨rfl, hlo, hhi, by omega, by rw [hd2]; exact hd⟩, fun h => (by cases h)⟩
      have := num_good (s.data.toList.take p) ((s.data.toList.drop p).drop k) n lo hi s b w hs hsz hn0 hn1 hlo hhi (by rw [hl]; exact h.good)
      rw [hl] at this
      exact this.mono fun e w' ⟨a, b, c⟩ => ⟨a, St.of b, c⟩
    · exact ⟨0, p, false, hp, Lib.hid (fun b w h => num_lost p lo hi s b w hp hsz h.good hex), fun h => (by cases h), fun _ => ⟨rfl, rfl⟩⟩
theorem count_next (g : Bool) (s : ByteArray) (p : Nat) (hi : Int) (hp : p ≤ s.size) (hsz : s.size ≤ 100000) (h1 : hi ≤ 9223372036854775807) :
    ∃ (n : Nat) (q : Nat) (g' : Bool), q ≤ s.size ∧ Hid (∀ b w, St g s p b w → Calls Tryd.prog 64 #[.pointer (some ⟨b, 0, none⟩), .int .i64 hi] w fun e w' => e = .returned (.int .i64 (n : Int)) ∧ St g' s q b w' ∧ Fr (justOf b) w w')
      ∧ (g' = true → g = true ∧ (n : Int) ≤ hi ∧ p ≤ q ∧ s.data.toList.drop p = enc (fold (n : Int)) ++ s.data.toList.drop q) ∧ (g' = false → n = 0 ∧ q = p) := by
  obtain ⟨v, q, g', hq, H, ht, hf⟩ := num_next g s p 0 hi hp hsz (by omega) h1
  obtain ⟨n, rfl⟩ : ∃ n : Nat, v = (n : Int) := by
    cases g' with
    | true => exact ⟨v.toNat, by have := (ht rfl).2.1; omega⟩
    | false => exact ⟨0, (hf rfl).1⟩
  refine ⟨n, q, g', hq, Lib.hid (fun b w h => count_via hi b w _ (fun w' => St g' s q b w') (Lib.hid (H.out b w h))), fun h => ?_, fun h => ⟨by have := (hf h).1; omega, (hf h).2⟩⟩
  obtain ⟨a, _, c, d, e⟩ := ht h
  exact ⟨a, c, d, e⟩
theorem text_next (g : Bool) (s : ByteArray) (p : Nat) (hi : Int) (hp : p ≤ s.size) (hsz : s.size ≤ 100000) (h1 : hi ≤ 100000) :
    ∃ (t : List UInt8) (q : Nat) (g' : Bool), q ≤ s.size ∧ Hid (∀ b w, St g s p b w → Calls Tryd.prog 68 #[.pointer (some ⟨b, 0, none⟩), .int .i64 hi] w fun e w' => e = .returned (.string ⟨t.toArray⟩) ∧ St g' s q b w' ∧ Fr (justOf b) w w')
      ∧ (g' = true → g = true ∧ p ≤ q ∧ s.data.toList.drop p = putText t ++ s.data.toList.drop q) := by
  cases g with
  | false => exact ⟨[], p, false, hp, Lib.hid (fun b w h => text_dead s p b hi w h), fun h => (by cases h)⟩
  | true =>
    obtain ⟨n, q, g', hq, H, ht, hf⟩ := count_next true s p hi hp hsz (by omega)
    cases g' with
    | false =>
      obtain ⟨hn, hqp⟩ := hf rfl
      subst hn
      subst hqp
      exact ⟨[], q, false, hp, Lib.hid (fun b w h => text_lost s q b hi w hp hsz h.good (Lib.hid (fun w hR => H.out b w (St.of hR)))), fun h => (by cases h)⟩
    | true =>
      obtain ⟨_, hn, hpq, hd⟩ := ht rfl
      have hl := take_drop_len s p hp
      have hss : s.data.toList.length = s.size := by simp
      by_cases hle : n ≤ s.size - q
      · have htl : ((s.data.toList.drop q).take n).length = n := by rw [List.length_take, List.length_drop]; omega
        have hd2 : s.data.toList.drop p = putText ((s.data.toList.drop q).take n) ++ s.data.toList.drop (q + n) := by
          rw [putText, htl, List.append_assoc, ← List.drop_drop, List.take_append_drop]
          exact hd
        have hs : s.data.toList = s.data.toList.take p ++ (putText ((s.data.toList.drop q).take n) ++ s.data.toList.drop (q + n)) := by rw [← hd2, List.take_append_drop]
        have hsize := congrArg List.length hs
        simp only [List.length_append, hl, List.length_drop, hss] at hsize
        refine ⟨(s.data.toList.drop q).take n, p + (putText ((s.data.toList.drop q).take n)).length, true, by omega, Lib.hid (fun b w h => ?_), fun _ => ⟨rfl, by omega, ?_⟩⟩
        · have := text_good (s.data.toList.take p) ((s.data.toList.drop q).take n) (s.data.toList.drop (q + n)) hi s b w hs hsz (by rw [htl]; exact hn) (by rw [hl]; exact h.good)
          rw [hl] at this
          exact this.mono fun e w' ⟨a, b, c⟩ => ⟨a, St.of b, c⟩
        · have : p + (putText ((s.data.toList.drop q).take n)).length = q + n := by omega
          rw [this]
          exact hd2
      · exact ⟨[], p, false, hp, Lib.hid (fun b w h => text_short s p q n b hi w hq hsz (by omega) (by omega) h.good (Lib.hid (fun w hR => (H.out b w (St.of hR)).mono fun e w' ⟨a, b, c⟩ => ⟨a, b.good, c⟩))), fun h => (by cases h)⟩
theorem flag_next (g : Bool) (s : ByteArray) (p : Nat) (hp : p ≤ s.size) (hsz : s.size ≤ 100000) :
    ∃ (y : Bool) (q : Nat) (g' : Bool), q ≤ s.size ∧ Hid (∀ b w, St g s p b w → Calls Tryd.prog 64 #[.pointer (some ⟨b, 0, none⟩), .int .i64 1] w fun e w' => e = .returned (.int .i64 (flag y)) ∧ St g' s q b w' ∧ Fr (justOf b) w w')
      ∧ (g' = true → g = true ∧ s.data.toList.drop p = enc (fold (flag y)) ++ s.data.toList.drop q) := by
  obtain ⟨n, q, g', hq, H, ht, hf⟩ := count_next g s p 1 hp hsz (by omega)
  have hn : n = 0 ∨ n = 1 := by
    cases g' with
    | true => have := (ht rfl).2.1; omega
    | false => exact .inl (hf rfl).1
  rcases hn with rfl | rfl
  · exact ⟨false, q, g', hq, H, fun h => ⟨(ht h).1, (ht h).2.2.2⟩⟩
  · exact ⟨true, q, g', hq, H, fun h => ⟨(ht h).1, (ht h).2.2.2⟩⟩
/-- What is read at a good row, of a row that works. -/
theorem ofRw {s : ByteArray} {p : Nat} {b : Nat} {C : World → Prop} (H : ∀ w, St true s p b w → C w) : ∀ w, Rw s p 0 b w → C w := fun w h => H w (St.of h)
def No (r : Raw) : Prop := Hid (∀ w, Calls Tryd.prog 13 #[.agg r.val] w fun e w' => e = .returned (.bool false) ∧ Fr noneOf w w')
/-- What comes of a body: a message that may be, whose bytes these are; or one that may not be. -/
def Came (s : ByteArray) (r : Raw) : Prop := (∃ x : Ms, x.ok ∧ r.val = x.val ∧ s.data.toList = x.enc) ∨ No r
def Body (s : ByteArray) : Prop := ∃ (r : Raw) (q : Nat) (g : Bool), q ≤ s.size ∧ Hid (∀ b w, Rw s 0 0 b w → Calls Tryd.prog 36 #[.pointer (some ⟨b, 0, none⟩)] w fun e w' => e = .returned (.agg r.val) ∧ St g s q b w' ∧ Fr (justOf b) w w') ∧ (g = true → q = s.size → Came s r)
theorem drop_all (s : ByteArray) : s.data.toList.drop s.size = [] := List.drop_of_length_le (by simp)
theorem empty_path : Hid (∀ w, Calls Tryd.prog 40 #[.string ⟨#[]⟩] w fun e w' => e = .returned (.bool true) ∧ Fr noneOf w w') := Lib.hid (fun w => by have := path_any ⟨#[]⟩ w (by decide); rwa [pathOk_nil] at this)
theorem path_is (p : List UInt8) (hp : p.length ≤ 100000) (v : Bool) (h : pathOk ⟨p.toArray⟩ = v) : Hid (∀ w, Calls Tryd.prog 40 #[.string ⟨p.toArray⟩] w fun e w' => e = .returned (.bool v) ∧ Fr noneOf w w') := Lib.hid (fun w => by have := path_any ⟨p.toArray⟩ w (by rw [str_size]; omega); rwa [h] at this)
theorem text_len {s : ByteArray} {p q : Nat} {t : List UInt8} (h : s.data.toList.drop p = putText t ++ s.data.toList.drop q) : t.length ≤ s.size := by
  have := congrArg List.length h
  rw [List.length_drop, List.length_append, putText, List.length_append] at this
  have h2 : s.data.toList.length = s.size := by simp
  omega
theorem body_path (s : ByteArray) (hsz : s.size ≤ 80) (k : Nat) (hk : k = 2 ∨ k = 4) (q : Nat) (hq : q ≤ s.size)
    (H0 : Hid (∀ b w, Rw s 0 0 b w → Calls Tryd.prog 64 #[.pointer (some ⟨b, 0, none⟩), .int .i64 99] w fun e w' => e = .returned (.int .i64 (k : Int)) ∧ Rw s q 0 b w' ∧ Fr (justOf b) w w'))
    (hd : s.data.toList = enc (fold (k : Int)) ++ s.data.toList.drop q) : Body s := by
  obtain ⟨p, q1, g1, hq1, H1, ht⟩ := text_next true s q 4096 hq (by omega) (by omega)
  refine ⟨⟨(k : Int), 0, 0, false, ⟨#[]⟩, ⟨p.toArray⟩, 0, 0⟩, q1, g1, hq1, Lib.hid (fun b w h => ?_), fun hg hqs => ?_⟩
  · rcases hk with rfl | rfl
    · exact body_path2 p s b w _ _ _ h (Lib.hid (H0.out b)) (Lib.hid (ofRw (H1.out b)))
    · exact body_path4 p s b w _ _ _ h (Lib.hid (H0.out b)) (Lib.hid (ofRw (H1.out b)))
  · obtain ⟨_, _, h1⟩ := ht hg
    have hl := text_len h1
    rw [hqs, drop_all, List.append_nil] at h1
    rw [h1] at hd
    by_cases hp : pathOk ⟨p.toArray⟩ = true
    · exact .inl ⟨.path (k : Int) p, ⟨by omega, (pathOk_iff p).1 hp⟩, rfl, by rw [hd]; simp [Ms.enc, Ms.kd, Ms.rest, put]⟩
    · exact .inr (Lib.hid (fun w => check_path_no (k : Int) 0 0 false ⟨#[]⟩ ⟨p.toArray⟩ 0 0 w (by omega) (by omega) (Lib.hid (only_wide (.path (k : Int) p) ⟨by omega, trivial⟩)) (path_is p (by omega) false (by simpa using hp))))
theorem body_handk (s : ByteArray) (hsz : s.size ≤ 80) (k : Nat) (hk : k = 8 ∨ k = 9) (q : Nat) (hq : q ≤ s.size)
    (H0 : Hid (∀ b w, Rw s 0 0 b w → Calls Tryd.prog 64 #[.pointer (some ⟨b, 0, none⟩), .int .i64 99] w fun e w' => e = .returned (.int .i64 (k : Int)) ∧ Rw s q 0 b w' ∧ Fr (justOf b) w w'))
    (hd : s.data.toList = enc (fold (k : Int)) ++ s.data.toList.drop q) : Body s := by
  obtain ⟨n, q1, g1, hq1, H1, ht1, hf1⟩ := count_next true s q 99 hq (by omega) (by omega)
  obtain ⟨c, q2, g2, hq2, H2, ht2, hf2⟩ := count_next g1 s q1 1048576 hq1 (by omega) (by omega)
  obtain ⟨p, q3, g3, hq3, H3, ht3⟩ := text_next g2 s q2 4096 hq2 (by omega) (by omega)
  refine ⟨⟨(k : Int), 0, 0, false, ⟨#[]⟩, ⟨p.toArray⟩, (n : Int), (c : Int)⟩, q3, g3, hq3, Lib.hid (fun b w h => ?_), fun hg hqs => ?_⟩
  · rcases hk with rfl | rfl
    · exact body_hand8 p n c s b w _ _ _ _ _ h (Lib.hid (H0.out b)) (Lib.hid (ofRw (H1.out b))) (Lib.hid (H2.out b)) (Lib.hid (H3.out b))
    · exact body_hand9 p n c s b w _ _ _ _ _ h (Lib.hid (H0.out b)) (Lib.hid (ofRw (H1.out b))) (Lib.hid (H2.out b)) (Lib.hid (H3.out b))
  · obtain ⟨hg2, _, h3⟩ := ht3 hg
    obtain ⟨hg1, hc, _, h2⟩ := ht2 hg2
    obtain ⟨_, hn, _, h1⟩ := ht1 hg1
    have hl := text_len h3
    rw [hqs, drop_all, List.append_nil] at h3
    rw [h1, h2, h3] at hd
    by_cases hp : pathOk ⟨p.toArray⟩ = true
    · by_cases hn15 : n ≤ 15
      · exact .inl ⟨.hand (k : Int) p n c, ⟨by omega, (pathOk_iff p).1 hp, hn15, by omega⟩, rfl, by rw [hd]; simp [Ms.enc, Ms.kd, Ms.rest, put]⟩
      · exact .inr (Lib.hid (fun w => check_node_no (k : Int) 0 0 false ⟨#[]⟩ ⟨p.toArray⟩ (n : Int) (c : Int) w (by omega) (by omega) (Lib.hid (only_wide (.hand (k : Int) p n c) ⟨by omega, trivial⟩)) (path_is p (by omega) true hp) (by omega)))
    · exact .inr (Lib.hid (fun w => check_path_no (k : Int) 0 0 false ⟨#[]⟩ ⟨p.toArray⟩ (n : Int) (c : Int) w (by omega) (by omega) (Lib.hid (only_wide (.hand (k : Int) p n c) ⟨by omega, trivial⟩)) (path_is p (by omega) false (by simpa using hp))))
theorem body_any (s : ByteArray) (hsz : s.size ≤ 80) : Body s := by
  obtain ⟨k, q, g, hq, H0, ht0, hf0⟩ := count_next true s 0 99 (by omega) (by omega) (by omega)
  cases g with
  | false =>
    obtain ⟨rfl, rfl⟩ := hf0 rfl
    exact ⟨⟨0, 0, 0, false, ⟨#[]⟩, ⟨#[]⟩, 0, 0⟩, 0, false, hq, Lib.hid (fun b w h => body_lost s b w 0 0 h (Lib.hid (ofRw (H0.out b)))), fun h => (by cases h)⟩
  | true =>
    obtain ⟨_, hk99, _, hd⟩ := ht0 rfl
    rw [List.drop_zero] at hd
    have H0' : Hid (∀ b w, Rw s 0 0 b w → Calls Tryd.prog 64 #[.pointer (some ⟨b, 0, none⟩), .int .i64 99] w fun e w' => e = .returned (.int .i64 (k : Int)) ∧ Rw s q 0 b w' ∧ Fr (justOf b) w w') := Lib.hid (fun b w h => (H0.out b w (St.of h)).mono fun e w' ⟨a, b, c⟩ => ⟨a, b.good, c⟩)
    have hc : k = 0 ∨ k = 1 ∨ k = 2 ∨ k = 3 ∨ k = 4 ∨ k = 5 ∨ k = 6 ∨ k = 7 ∨ k = 8 ∨ k = 9 ∨ 10 ≤ k := by omega
    rcases hc with h | h | h | h | h | h | h | h | h | h | h
    · subst h
      exact ⟨⟨0, 0, 0, false, ⟨#[]⟩, ⟨#[]⟩, 0, 0⟩, q, false, hq, Lib.hid (fun b w h => body_zero s b w 0 q h (Lib.hid (H0'.out b))), fun h => (by cases h)⟩
    · subst h
      refine ⟨⟨1, 0, 0, false, ⟨#[]⟩, ⟨#[]⟩, 0, 0⟩, q, true, hq, Lib.hid (fun b w h => (body_bare1 s b w 0 q h (Lib.hid (H0'.out b))).mono fun e w' ⟨a, b, c⟩ => ⟨a, St.of b, c⟩), fun _ hqs => .inl ⟨.bare 1, .inl rfl, rfl, ?_⟩⟩
      rw [hqs, drop_all] at hd
      rw [hd]; simp [Ms.enc, Ms.kd, Ms.rest, put]
    · exact body_path s hsz k (.inl h) q hq H0' hd
    · subst h
      obtain ⟨n, q1, g1, hq1, H1, ht1, hf1⟩ := count_next true s q 99 hq (by omega) (by omega)
      refine ⟨⟨3, 0, 0, false, ⟨#[]⟩, ⟨#[]⟩, (n : Int), 0⟩, q1, g1, hq1, Lib.hid (fun b w h => body_refuse n s b w _ _ _ h (Lib.hid (H0'.out b)) (Lib.hid (ofRw (H1.out b)))), fun hg hqs => ?_⟩
      obtain ⟨_, hn, _, h1⟩ := ht1 hg
      rw [hqs, drop_all, List.append_nil] at h1
      rw [h1] at hd
      by_cases hn15 : n ≤ 15
      · exact .inl ⟨.refuse n, hn15, rfl, by rw [hd]; simp [Ms.enc, Ms.kd, Ms.rest, put]⟩
      · exact .inr (Lib.hid (fun w => check_node_no 3 0 0 false ⟨#[]⟩ ⟨#[]⟩ (n : Int) 0 w (by omega) (by omega) (Lib.hid (only_wide (.refuse n) trivial)) empty_path (by omega)))
    · exact body_path s hsz k (.inr h) q hq H0' hd
    · subst h
      obtain ⟨x, q1, g1, hq1, H1, ht1, hf1⟩ := num_next true s q (-1) 1073741824 hq (by omega) (by omega) (by omega)
      obtain ⟨t, q2, g2, hq2, H2, ht2, hf2⟩ := num_next g1 s q1 (-1) 1073741824 hq1 (by omega) (by omega) (by omega)
      obtain ⟨y, q3, g3, hq3, H3, ht3⟩ := flag_next g2 s q2 hq2 (by omega)
      refine ⟨⟨5, x, t, y, ⟨#[]⟩, ⟨#[]⟩, 0, 0⟩, q3, g3, hq3, Lib.hid (fun b w h => body_alive x t y s b w _ _ _ _ _ h (Lib.hid (H0'.out b)) (Lib.hid (ofRw (H1.out b))) (Lib.hid (H2.out b)) (Lib.hid (H3.out b))), fun hg hqs => ?_⟩
      obtain ⟨hg2, h3⟩ := ht3 hg
      obtain ⟨hg1, ht0, ht1', _, h2⟩ := ht2 hg2
      obtain ⟨_, hx0, hx1, _, h1⟩ := ht1 hg1
      rw [hqs, drop_all, List.append_nil] at h3
      rw [h1, h2, h3] at hd
      exact .inl ⟨.alive x t y, ⟨⟨hx0, hx1⟩, ht0, ht1'⟩, rfl, by rw [hd]; simp [Ms.enc, Ms.kd, Ms.rest, put]⟩
    · subst h
      obtain ⟨x, q1, g1, hq1, H1, ht1, hf1⟩ := num_next true s q (-1) 1073741824 hq (by omega) (by omega) (by omega)
      obtain ⟨t, q2, g2, hq2, H2, ht2, hf2⟩ := num_next g1 s q1 (-1) 1073741824 hq1 (by omega) (by omega) (by omega)
      obtain ⟨y, q3, g3, hq3, H3, ht3⟩ := flag_next g2 s q2 hq2 (by omega)
      obtain ⟨B, q4, g4, hq4, H4, ht4⟩ := text_next g3 s q3 4096 hq3 (by omega) (by omega)
      refine ⟨⟨6, x, t, y, ⟨B.toArray⟩, ⟨#[]⟩, 0, 0⟩, q4, g4, hq4, Lib.hid (fun b w h => body_frame x t y B s b w _ _ _ _ _ _ h (Lib.hid (H0'.out b)) (Lib.hid (ofRw (H1.out b))) (Lib.hid (H2.out b)) (Lib.hid (H3.out b)) (Lib.hid (H4.out b))), fun hg hqs => ?_⟩
      obtain ⟨hg3, _, h4⟩ := ht4 hg
      obtain ⟨hg2, h3⟩ := ht3 hg3
      obtain ⟨hg1, ht0, ht1', _, h2⟩ := ht2 hg2
      obtain ⟨_, hx0, hx1, _, h1⟩ := ht1 hg1
      have hl := text_len h4
      rw [hqs, drop_all, List.append_nil] at h4
      rw [h1, h2, h3, h4] at hd
      by_cases hpos : 0 ≤ x ∧ 0 ≤ t
      · obtain ⟨X, rfl⟩ := Int.eq_ofNat_of_zero_le hpos.1
        obtain ⟨T, rfl⟩ := Int.eq_ofNat_of_zero_le hpos.2
        exact .inl ⟨.frame X T y B, ⟨by omega, by omega, by omega⟩, rfl, by rw [hd]; simp [Ms.enc, Ms.kd, Ms.rest, put]⟩
      · exact .inr (Lib.hid (fun w => check_frame_no 6 x t y ⟨B.toArray⟩ ⟨#[]⟩ 0 0 w (by omega) (by omega) (Lib.hid (fun w => only_frame x t y B w)) empty_path (by omega) (by omega) (by omega) (by omega) (Lib.hid ⟨by omega, by omega⟩)))
    · subst h
      refine ⟨⟨7, 0, 0, false, ⟨#[]⟩, ⟨#[]⟩, 0, 0⟩, q, true, hq, Lib.hid (fun b w h => (body_bare7 s b w 0 q h (Lib.hid (H0'.out b))).mono fun e w' ⟨a, b, c⟩ => ⟨a, St.of b, c⟩), fun _ hqs => .inl ⟨.bare 7, .inr rfl, rfl, ?_⟩⟩
      rw [hqs, drop_all] at hd
      rw [hd]; simp [Ms.enc, Ms.kd, Ms.rest, put]
    · exact body_handk s hsz k (.inl h) q hq H0' hd
    · exact body_handk s hsz k (.inr h) q hq H0' hd
    · exact ⟨⟨(k : Int), 0, 0, false, ⟨#[]⟩, ⟨#[]⟩, 0, 0⟩, q, false, hq, Lib.hid (fun b w hR => body_big (k : Int) (by omega) s b w 0 q hR (Lib.hid (H0'.out b))), fun h => (by cases h)⟩
end Go.Proofs.YtblnmghbcgbgdaaDoor
