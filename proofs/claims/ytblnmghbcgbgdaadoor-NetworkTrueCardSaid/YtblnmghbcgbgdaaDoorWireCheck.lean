/-
  Package wire: path, only, number, Check of a message that may be.
-/
import Derived.Test.YtblnmghbcgbgdaaDoorMsg
import Derived.Test.YtblnmghbcgbgdaaDoorShelf
import Derived.Deep.RegionHeld3
import Derived.BigRegion
namespace Go.Proofs.YtblnmghbcgbgdaaDoor
open Go.RowKit Nums
set_option linter.unusedVariables false
set_option linter.unusedSimpArgs false

theorem get_byte (l : List UInt8) (i : Nat) (h : i < l.length) : ((⟨l.toArray⟩ : ByteArray).get! i) = l[i] := by
  show l.toArray[i]! = _
  simp [h]
theorem idx_none (p : Nat → Bool) (l : List UInt8) (h : ∀ b ∈ l, b.toNat < 128 ∧ p b.toNat = false) : ∀ (f pos : Nat), Lib.idxFuncFrom p true ⟨l.toArray⟩ f pos = -1
  | 0, _ => rfl
  | f + 1, pos => by
    unfold Lib.idxFuncFrom
    by_cases hp : pos < (⟨l.toArray⟩ : ByteArray).size
    · rw [if_pos hp]
      have hl : pos < l.length := by rw [str_size] at hp; exact hp
      obtain ⟨h1, h2⟩ := h l[pos] (List.getElem_mem _)
      have hd : Utf8.decode ⟨l.toArray⟩ pos = (l[pos].toNat, 1) := by
        unfold Utf8.decode
        simp only [Nat.add_zero, get_byte l pos hl]
        rw [if_pos h1]
      rw [hd]
      simp only
      rw [if_neg (by rw [h2]; simp)]
      exact idx_none p l h f (pos + 1)
    · rw [if_neg hp]
theorem big_any (r : Nat) (hr : r ≤ 2147483647) (w : World) : Calls Tryd.prog 72 #[.int .i32 (r : Int)] w fun e w' => e = .returned (.bool (big r)) ∧ w' = w := by
  by_cases h : 16 ≤ r
  · have hb : big r = true := by simp [big, h]
    have hI : (16 : Int) ≤ (r : Int) := by omega
    rw [hb]
    go_enter Tryd.func72, Tryd.ntmps72
    go_wp2
    go_ret
    exact ⟨rfl, rfl⟩
  · have hb : big r = false := by simp [big, h]
    have hI : ¬ (16 : Int) ≤ (r : Int) := by omega
    rw [hb]
    go_enter Tryd.func72, Tryd.ntmps72
    go_wp2
    go_ret
    exact ⟨rfl, rfl⟩
theorem index_any (s : ByteArray) (w : World) : Calls Tryd.prog 71 #[.string s, .func (.func 72) #[] #[]] w fun e w' => e = .returned (.int .i64 (Lib.idxFunc big true s)) ∧ Fr noneOf w w' :=
  (Tryd.strings_IndexFunc_runes 72 #[] (fun args w => by kernel_rfl) big s w (fun W x hx hb => (big_any x (by omega) W).mono fun e w' ⟨h1, h2⟩ => ⟨h1, 0, h2⟩)).mono fun e w' ⟨h1, h2⟩ => ⟨h1, Fr.of_below noneOf h2⟩
def pathOk (s : ByteArray) : Bool := decide (s.size ≤ 16) && decide (Lib.idxFunc big true s < 0)
theorem pathL_of (l : List UInt8) (h16 : l.length ≤ 16) (h : ∀ b ∈ l, b.toNat < 16) : pathL l := by
  refine ⟨h16, ?_⟩
  have e : Lib.idxFunc big true ⟨l.toArray⟩ = -1 := idx_none big l (fun b hb => ⟨by have := h b hb; omega, by have := h b hb; simp [big]; omega⟩) _ _
  rw [e]
  decide
theorem pathOk_iff (l : List UInt8) : pathOk ⟨l.toArray⟩ = true ↔ pathL l := by
  unfold pathOk pathL
  rw [str_size]
  simp
theorem pathOk_of (l : List UInt8) (h : pathL l) : pathOk ⟨l.toArray⟩ = true := (pathOk_iff l).2 h
theorem path_any (s : ByteArray) (w : World) (hs : s.size ≤ 9223372036854775807) : Calls Tryd.prog 40 #[.string s] w fun e w' => e = .returned (.bool (pathOk s)) ∧ Fr noneOf w w' := by
  have HI := Lib.hid (fun w => index_any s w)
  obtain ⟨x, hx⟩ : ∃ x, x = Lib.idxFunc big true s := ⟨_, rfl⟩
  rw [← hx] at HI
  by_cases h16 : s.size ≤ 16
  · have h16I : (s.size : Int) ≤ 16 := by omega
    by_cases h0 : x < 0
    · have e : pathOk s = true := by unfold pathOk; rw [← hx]; simp [h16, h0]
      rw [e]
      clear hx hs
      go_enter Tryd.func40, Tryd.ntmps40
      go_wp2_with (go_at_call 71; (with_reducible refine (HI.out _).mono ?_); rintro e w1 ⟨rfl, hf1⟩)
      go_ret
      exact ⟨rfl, hf1⟩
    · have e : pathOk s = false := by unfold pathOk; rw [← hx]; simp [h16, h0]
      have hd : decide (x < 0) = false := by simpa using h0
      rw [e]
      clear hx hs
      go_enter Tryd.func40, Tryd.ntmps40
      go_wp2_with (go_at_call 71; (with_reducible refine (HI.out _).mono ?_); rintro e w1 ⟨rfl, hf1⟩)
      go_ret
      exact ⟨rfl, hf1⟩
  · have h16I : ¬ (s.size : Int) ≤ 16 := by omega
    have e : pathOk s = false := by unfold pathOk; simp [h16]
    rw [e]
    clear hx hs
    go_enter Tryd.func40, Tryd.ntmps40
    go_wp2
    go_ret
    exact ⟨rfl, Fr.refl _ _⟩
theorem within_yes (n m : Int) (w : World) (h0 : 0 ≤ n) (h1 : n ≤ m) : Calls Tryd.prog 38 #[.int .i64 n, .int .i64 m] w fun e w' => e = .returned (.bool true) ∧ w = w' := by
  go_enter Tryd.func38, Tryd.ntmps38
  go_wp2
  go_ret
  exact ⟨rfl, rfl⟩
theorem number_yes (n : Int) (w : World) (h0 : -1 ≤ n) (h1 : n ≤ 1073741824) : Calls Tryd.prog 41 #[.int .i64 n] w fun e w' => e = .returned (.bool true) ∧ w = w' := by
  go_enter Tryd.func41, Tryd.ntmps41
  go_wp2
  go_ret
  exact ⟨rfl, rfl⟩
theorem fof_any (g s : Int) (key : Bool) (b : ByteArray) (w : World) : Calls Tryd.prog 73 #[.agg #[.int .i64 g, .int .i64 s, .bool key, .string b]] w fun e w' => e = .returned (.agg #[.int .i64 g, .int .i64 s]) ∧ Fr noneOf w w' := by
  go_enter Tryd.func73, Tryd.ntmps73
  go_wp2
  exact bodyPost_ret (v := .agg #[.int .i64 g, .int .i64 s]) (by simp [results, Tryd.results73, go_sem]) rfl ⟨rfl, by repeat (first | exact Fr.refl _ _ | apply Fr.drew | apply Fr.alloc)⟩
theorem fmay_yes (g s : Int) (w : World) (h : (0 ≤ g ∧ g ≤ 1073741824) ∧ 0 ≤ s ∧ s ≤ 1073741824) : Calls Tryd.prog 74 #[.agg #[.int .i64 g, .int .i64 s]] w fun e w' => e = .returned (.bool true) ∧ Fr noneOf w w' := by
  obtain ⟨⟨h1, h2⟩, h3, h4⟩ := h
  have a1 : 0 ≤ min g s := by omega
  have a2 : max g s ≤ 1073741824 := by omega
  go_enter Tryd.func74, Tryd.ntmps74
  go_wp2
  all_goals
    go_ret
    exact ⟨rfl, by repeat (first | exact Fr.refl _ _ | apply Fr.drew | apply Fr.alloc)⟩
theorem fcheck_yes (g s : Int) (key : Bool) (b : ByteArray) (w : World) (h : (0 ≤ g ∧ g ≤ 1073741824) ∧ 0 ≤ s ∧ s ≤ 1073741824) : Calls Tryd.prog 42 #[.agg #[.int .i64 g, .int .i64 s, .bool key, .string b]] w fun e w' => e = .returned (.bool true) ∧ Fr noneOf w w' := by
  have H := Lib.hid h
  clear h
  go_enter Tryd.func42, Tryd.ntmps42
  go_wp2_with (first
    | (go_at_call 73; (with_reducible refine (fof_any g s key b _).mono ?_); rintro e w1 ⟨rfl, hf1⟩)
    | (go_at_call 74; (with_reducible refine (fmay_yes g s _ H.out).mono ?_); rintro e w2 ⟨rfl, hf2⟩))
  go_ret
  exact ⟨rfl, (((Fr.refl noneOf w).alloc _).trans hf1).trans hf2⟩
set_option maxHeartbeats 2000000 in
theorem only_any (m : Ms) (hm : m.ok) (w : World) : Calls Tryd.prog 39 #[.agg m.val] w fun e w' => e = .returned (.agg m.val) ∧ Fr noneOf w w' := by
  cases m with
  | bare k =>
    dsimp only [Ms.val]
    rcases hm with rfl | rfl
    · go_enter Tryd.func39, Tryd.ntmps39
      go_wp2
      exact bodyPost_ret (v := .agg #[.int .i64 1, .int .i64 0, .int .i64 0, .bool false, .string ⟨#[]⟩, .string ⟨#[]⟩, .int .i64 0, .int .i64 0]) (by simp [results, Tryd.results39, go_sem]) rfl ⟨rfl, by repeat (first | exact Fr.refl _ _ | apply Fr.drew | apply Fr.alloc)⟩
    · go_enter Tryd.func39, Tryd.ntmps39
      go_wp2
      exact bodyPost_ret (v := .agg #[.int .i64 7, .int .i64 0, .int .i64 0, .bool false, .string ⟨#[]⟩, .string ⟨#[]⟩, .int .i64 0, .int .i64 0]) (by simp [results, Tryd.results39, go_sem]) rfl ⟨rfl, by repeat (first | exact Fr.refl _ _ | apply Fr.drew | apply Fr.alloc)⟩
  | path k p =>
    dsimp only [Ms.val]
    obtain ⟨P, hP⟩ : ∃ P : ByteArray, P = ⟨p.toArray⟩ := ⟨_, rfl⟩
    rw [← hP]
    clear hP
    rcases hm.1 with rfl | rfl
    · clear hm
      go_enter Tryd.func39, Tryd.ntmps39
      go_wp2
      exact bodyPost_ret (v := .agg #[.int .i64 2, .int .i64 0, .int .i64 0, .bool false, .string ⟨#[]⟩, .string P, .int .i64 0, .int .i64 0]) (by simp [results, Tryd.results39, go_sem]) rfl ⟨rfl, by repeat (first | exact Fr.refl _ _ | apply Fr.drew | apply Fr.alloc)⟩
    · clear hm
      go_enter Tryd.func39, Tryd.ntmps39
      go_wp2
      exact bodyPost_ret (v := .agg #[.int .i64 4, .int .i64 0, .int .i64 0, .bool false, .string ⟨#[]⟩, .string P, .int .i64 0, .int .i64 0]) (by simp [results, Tryd.results39, go_sem]) rfl ⟨rfl, by repeat (first | exact Fr.refl _ _ | apply Fr.drew | apply Fr.alloc)⟩
  | refuse n =>
    dsimp only [Ms.val]
    clear hm
    go_enter Tryd.func39, Tryd.ntmps39
    go_wp2
    exact bodyPost_ret (v := .agg #[.int .i64 3, .int .i64 0, .int .i64 0, .bool false, .string ⟨#[]⟩, .string ⟨#[]⟩, .int .i64 n, .int .i64 0]) (by simp [results, Tryd.results39, go_sem]) rfl ⟨rfl, by repeat (first | exact Fr.refl _ _ | apply Fr.drew | apply Fr.alloc)⟩
  | alive g s key =>
    dsimp only [Ms.val]
    clear hm
    go_enter Tryd.func39, Tryd.ntmps39
    go_wp2
    go_region
    go_wp2
    exact bodyPost_ret (v := .agg #[.int .i64 5, .int .i64 g, .int .i64 s, .bool key, .string ⟨#[]⟩, .string ⟨#[]⟩, .int .i64 0, .int .i64 0]) (by simp [results, Tryd.results39, go_sem]) rfl ⟨rfl, by repeat (first | exact Fr.refl _ _ | apply Fr.drew | apply Fr.alloc)⟩
  | frame g s key b =>
    dsimp only [Ms.val]
    obtain ⟨P, hP⟩ : ∃ P : ByteArray, P = ⟨b.toArray⟩ := ⟨_, rfl⟩
    rw [← hP]
    clear hP hm
    go_enter Tryd.func39, Tryd.ntmps39
    go_wp2
    go_region
    go_wp2
    exact bodyPost_ret (v := .agg #[.int .i64 6, .int .i64 g, .int .i64 s, .bool key, .string P, .string ⟨#[]⟩, .int .i64 0, .int .i64 0]) (by simp [results, Tryd.results39, go_sem]) rfl ⟨rfl, by repeat (first | exact Fr.refl _ _ | apply Fr.drew | apply Fr.alloc)⟩
  | hand k p n c =>
    dsimp only [Ms.val]
    obtain ⟨P, hP⟩ : ∃ P : ByteArray, P = ⟨p.toArray⟩ := ⟨_, rfl⟩
    rw [← hP]
    clear hP
    rcases hm.1 with rfl | rfl
    · clear hm
      go_enter Tryd.func39, Tryd.ntmps39
      go_wp2
      exact bodyPost_ret (v := .agg #[.int .i64 8, .int .i64 0, .int .i64 0, .bool false, .string ⟨#[]⟩, .string P, .int .i64 n, .int .i64 c]) (by simp [results, Tryd.results39, go_sem]) rfl ⟨rfl, by repeat (first | exact Fr.refl _ _ | apply Fr.drew | apply Fr.alloc)⟩
    · clear hm
      go_enter Tryd.func39, Tryd.ntmps39
      go_wp2
      exact bodyPost_ret (v := .agg #[.int .i64 9, .int .i64 0, .int .i64 0, .bool false, .string ⟨#[]⟩, .string P, .int .i64 n, .int .i64 c]) (by simp [results, Tryd.results39, go_sem]) rfl ⟨rfl, by repeat (first | exact Fr.refl _ _ | apply Fr.drew | apply Fr.alloc)⟩
end Go.Proofs.YtblnmghbcgbgdaaDoor
