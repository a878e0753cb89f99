/-
  wire.Check of a message that was read, but may not be.
  Conditions: none.
-/
import Derived.Test.YtblnmghbcgbgdaaDoorWireOk
namespace Go.Proofs.YtblnmghbcgbgdaaDoor
open Go.RowKit Nums
set_option linter.unusedVariables false
set_option linter.unusedSimpArgs false
/-- A message of a kind there is, whatever it holds. -/
def Ms.wide : Ms → Prop
  | .bare k => k = 1 ∨ k = 7
  | .path k _ => (k = 2 ∨ k = 4) ∧ True
  | .hand k _ _ _ => (k = 8 ∨ k = 9) ∧ True
  | _ => True
set_option maxHeartbeats 2000000 in
theorem only_wide (m : Ms) (hm : m.wide) (w : World) : Calls Tryd.prog 39 #[.agg m.val] w fun e w' => e = .returned (.agg m.val) ∧ Fr noneOf w w' := by
  cases m with
  | bare k =>
    dsimp only [Ms.val]
    rcases hm with rfl | rfl
    · go_enter Tryd.func39, Tryd.ntmps39
      go_wp2
      exact bodyPost_ret (v := .agg #[.int .i64 1, .int .i64 0, .int .i64 0, .bool false, .string ⟨#[]⟩, .string ⟨#[]⟩, .int .i64 0, .int .i64 0]) (by simp [results, Tryd.results39, go_sem]) rfl ⟨rfl, by repeat (first | exact Fr.refl _ _ | apply Fr.drew | apply Fr.alloc)⟩
    · go_enter Tryd.func39, Tryd.ntmps39
      go_wp2
      exact bodyPost_ret (v := .agg #[.int .i64 7, .int .i64 0, .int .i64 0, .bool false, .string ⟨#[]⟩, .string ⟨#[]⟩, .int .i64 0, .int .i64 0]) (by simp [results, Tryd.results39, go_sem]) rfl ⟨rfl, by repeat (first | exact Fr.refl _ _ | apply Fr.drew | apply Fr.alloc)⟩
  | path k p =>
    dsimp only [Ms.val]
    obtain ⟨P, hP⟩ : ∃ P : ByteArray, P = ⟨p.toArray⟩ := ⟨_, rfl⟩
    rw [← hP]
    clear hP
    rcases hm.1 with rfl | rfl
    · clear hm
      go_enter Tryd.func39, Tryd.ntmps39
      go_wp2
      exact bodyPost_ret (v := .agg #[.int .i64 2, .int .i64 0, .int .i64 0, .bool false, .string ⟨#[]⟩, .string P, .int .i64 0, .int .i64 0]) (by simp [results, Tryd.results39, go_sem]) rfl ⟨rfl, by repeat (first | exact Fr.refl _ _ | apply Fr.drew | apply Fr.alloc)⟩
    · clear hm
      go_enter Tryd.func39, Tryd.ntmps39
      go_wp2
      exact bodyPost_ret (v := .agg #[.int .i64 4, .int .i64 0, .int .i64 0, .bool false, .string ⟨#[]⟩, .string P, .int .i64 0, .int .i64 0]) (by simp [results, Tryd.results39, go_sem]) rfl ⟨rfl, by repeat (first | exact Fr.refl _ _ | apply Fr.drew | apply Fr.alloc)⟩
  | refuse n =>
    dsimp only [Ms.val]
    clear hm
    go_enter Tryd.func39, Tryd.ntmps39
    go_wp2
    exact bodyPost_ret (v := .agg #[.int .i64 3, .int .i64 0, .int .i64 0, .bool false, .string ⟨#[]⟩, .string ⟨#[]⟩, .int .i64 n, .int .i64 0]) (by simp [results, Tryd.results39, go_sem]) rfl ⟨rfl, by repeat (first | exact Fr.refl _ _ | apply Fr.drew | apply Fr.alloc)⟩
  | alive g s key =>
    dsimp only [Ms.val]
    clear hm
    go_enter Tryd.func39, Tryd.ntmps39
    go_wp2
    go_region
    go_wp2
    exact bodyPost_ret (v := .agg #[.int .i64 5, .int .i64 g, .int .i64 s, .bool key, .string ⟨#[]⟩, .string ⟨#[]⟩, .int .i64 0, .int .i64 0]) (by simp [results, Tryd.results39, go_sem]) rfl ⟨rfl, by repeat (first | exact Fr.refl _ _ | apply Fr.drew | apply Fr.alloc)⟩
  | frame g s key b =>
    dsimp only [Ms.val]
    obtain ⟨P, hP⟩ : ∃ P : ByteArray, P = ⟨b.toArray⟩ := ⟨_, rfl⟩
    rw [← hP]
    clear hP hm
    go_enter Tryd.func39, Tryd.ntmps39
    go_wp2
    go_region
    go_wp2
    exact bodyPost_ret (v := .agg #[.int .i64 6, .int .i64 g, .int .i64 s, .bool key, .string P, .string ⟨#[]⟩, .int .i64 0, .int .i64 0]) (by simp [results, Tryd.results39, go_sem]) rfl ⟨rfl, by repeat (first | exact Fr.refl _ _ | apply Fr.drew | apply Fr.alloc)⟩
  | hand k p n c =>
    dsimp only [Ms.val]
    obtain ⟨P, hP⟩ : ∃ P : ByteArray, P = ⟨p.toArray⟩ := ⟨_, rfl⟩
    rw [← hP]
    clear hP
    rcases hm.1 with rfl | rfl
    · clear hm
      go_enter Tryd.func39, Tryd.ntmps39
      go_wp2
      exact bodyPost_ret (v := .agg #[.int .i64 8, .int .i64 0, .int .i64 0, .bool false, .string ⟨#[]⟩, .string P, .int .i64 n, .int .i64 c]) (by simp [results, Tryd.results39, go_sem]) rfl ⟨rfl, by repeat (first | exact Fr.refl _ _ | apply Fr.drew | apply Fr.alloc)⟩
    · clear hm
      go_enter Tryd.func39, Tryd.ntmps39
      go_wp2
      exact bodyPost_ret (v := .agg #[.int .i64 9, .int .i64 0, .int .i64 0, .bool false, .string ⟨#[]⟩, .string P, .int .i64 n, .int .i64 c]) (by simp [results, Tryd.results39, go_sem]) rfl ⟨rfl, by repeat (first | exact Fr.refl _ _ | apply Fr.drew | apply Fr.alloc)⟩
theorem only_frame (g s : Int) (key : Bool) (b : List UInt8) (w : World) : Calls Tryd.prog 39 #[.agg #[.int .i64 6, .int .i64 g, .int .i64 s, .bool key, .string ⟨b.toArray⟩, .string ⟨#[]⟩, .int .i64 0, .int .i64 0]] w fun e w' => e = .returned (.agg #[.int .i64 6, .int .i64 g, .int .i64 s, .bool key, .string ⟨b.toArray⟩, .string ⟨#[]⟩, .int .i64 0, .int .i64 0]) ∧ Fr noneOf w w' := by
  obtain ⟨P, hP⟩ : ∃ P : ByteArray, P = ⟨b.toArray⟩ := ⟨_, rfl⟩
  rw [← hP]
  clear hP
  go_enter Tryd.func39, Tryd.ntmps39
  go_wp2
  go_region
  go_wp2
  exact bodyPost_ret (v := .agg #[.int .i64 6, .int .i64 g, .int .i64 s, .bool key, .string P, .string ⟨#[]⟩, .int .i64 0, .int .i64 0]) (by simp [results, Tryd.results39, go_sem]) rfl ⟨rfl, by repeat (first | exact Fr.refl _ _ | apply Fr.drew | apply Fr.alloc)⟩
theorem within_no (n m : Int) (w : World) (h1 : m < n) : Calls Tryd.prog 38 #[.int .i64 n, .int .i64 m] w fun e w' => e = .returned (.bool false) ∧ w = w' := by
  have h2 : ¬ n ≤ m := by omega
  go_enter Tryd.func38, Tryd.ntmps38
  go_wp2
  all_goals
    go_ret
    exact ⟨rfl, rfl⟩
theorem fmay_no (g s : Int) (w : World) (h : g < 0 ∨ s < 0) : Calls Tryd.prog 74 #[.agg #[.int .i64 g, .int .i64 s]] w fun e w' => e = .returned (.bool false) ∧ Fr noneOf w w' := by
  have a1 : ¬ 0 ≤ min g s := by omega
  go_enter Tryd.func74, Tryd.ntmps74
  go_wp2
  all_goals
    go_ret
    exact ⟨rfl, by repeat (first | exact Fr.refl _ _ | apply Fr.drew | apply Fr.alloc)⟩
theorem fcheck_no (g s : Int) (key : Bool) (b : ByteArray) (w : World) (h : g < 0 ∨ s < 0) : Calls Tryd.prog 42 #[.agg #[.int .i64 g, .int .i64 s, .bool key, .string b]] w fun e w' => e = .returned (.bool false) ∧ Fr noneOf w w' := by
  have H := Lib.hid h
  clear h
  go_enter Tryd.func42, Tryd.ntmps42
  go_wp2_with (first
    | (go_at_call 73; (with_reducible refine (fof_any g s key b _).mono ?_); rintro e w1 ⟨rfl, hf1⟩)
    | (go_at_call 74; (with_reducible refine (fmay_no g s _ H.out).mono ?_); rintro e w2 ⟨rfl, hf2⟩))
  go_ret
  exact ⟨rfl, (((Fr.refl noneOf w).alloc _).trans hf1).trans hf2⟩
set_option maxHeartbeats 4000000 in
theorem check_path_no (k g s : Int) (key : Bool) (body path : ByteArray) (n c : Int) (w : World) (hk1 : 1 ≤ k) (hk9 : k ≤ 9)
    (HO : Hid (∀ w, Calls Tryd.prog 39 #[.agg #[.int .i64 k, .int .i64 g, .int .i64 s, .bool key, .string body, .string path, .int .i64 n, .int .i64 c]] w fun e w' => e = .returned (.agg #[.int .i64 k, .int .i64 g, .int .i64 s, .bool key, .string body, .string path, .int .i64 n, .int .i64 c]) ∧ Fr noneOf w w'))
    (HP : Hid (∀ w, Calls Tryd.prog 40 #[.string path] w fun e w' => e = .returned (.bool false) ∧ Fr noneOf w w')) :
    Calls Tryd.prog 13 #[.agg #[.int .i64 k, .int .i64 g, .int .i64 s, .bool key, .string body, .string path, .int .i64 n, .int .i64 c]] w fun e w' => e = .returned (.bool false) ∧ Fr noneOf w w' := by
  have d1 : decide (k < 1) = false := by simp; omega
  have d2 : decide ((9 : Int) < k) = false := by simp; omega
  have HB := Lib.hid (Blk.new w 25 #[.int .i64 k, .int .i64 g, .int .i64 s, .bool key, .string body, .string path, .int .i64 n, .int .i64 c])
  obtain ⟨b, hb⟩ : ∃ b, b = w.heap.size := ⟨_, rfl⟩
  obtain ⟨W, hW⟩ : ∃ W, W = w.alloc (.cells #[.int .i64 k, .int .i64 g, .int .i64 s, .bool key, .string body, .string path, .int .i64 n, .int .i64 c] 25) := ⟨_, rfl⟩
  have HFW : Hid (Fr noneOf w W) := Lib.hid (by rw [hW]; exact (Fr.refl _ _).alloc _)
  rw [← hW, ← hb] at HB
  clear hk1 hk9
  go_enter Tryd.func13, Tryd.ntmps13
  go_wp2
  rw [← hW, ← hb]
  clear hW hb
  have HCL : Hid (∀ w', Fr noneOf W w' → w'.cell? ⟨b, 0, none⟩ = some (.int .i64 k) ∧ w'.cell? ⟨b, 1, none⟩ = some (.int .i64 g) ∧ w'.cell? ⟨b, 2, none⟩ = some (.int .i64 s) ∧ w'.cell? ⟨b, 3, none⟩ = some (.bool key) ∧ w'.cell? ⟨b, 4, none⟩ = some (.string body) ∧ w'.cell? ⟨b, 5, none⟩ = some (.string path) ∧ w'.cell? ⟨b, 6, none⟩ = some (.int .i64 n) ∧ w'.cell? ⟨b, 7, none⟩ = some (.int .i64 c)) := Lib.hid (fun w' hf => ⟨(HB.out.fr0 hf).cell 0, (HB.out.fr0 hf).cell 1, (HB.out.fr0 hf).cell 2, (HB.out.fr0 hf).cell 3, (HB.out.fr0 hf).cell 4, (HB.out.fr0 hf).cell 5, (HB.out.fr0 hf).cell 6, (HB.out.fr0 hf).cell 7⟩)
  refine wp_region_held_drew (S := (fun w' => (w'.cell? ⟨b, 0, none⟩ = some (.int .i64 k) ∧ w'.cell? ⟨b, 1, none⟩ = some (.int .i64 g) ∧ w'.cell? ⟨b, 2, none⟩ = some (.int .i64 s) ∧ w'.cell? ⟨b, 3, none⟩ = some (.bool key) ∧ w'.cell? ⟨b, 4, none⟩ = some (.string body) ∧ w'.cell? ⟨b, 5, none⟩ = some (.string path) ∧ w'.cell? ⟨b, 6, none⟩ = some (.int .i64 n) ∧ w'.cell? ⟨b, 7, none⟩ = some (.int .i64 c)) ∧ Fr noneOf W w')) (by kernel_rfl) ⟨HCL.out _ (Fr.refl noneOf W).drew, (Fr.refl noneOf W).drew⟩ (fun hHeld => ?_)
  refine wpAnyH_take (i := 0) (v := ?_) (by simp only [List.getElem?_toArray, List.getElem?_cons_succ, List.getElem?_cons_zero]; rfl) (by kernel_rfl) (by kernel_rfl) (by kernel_rfl) (fun _ _ _ h => by exact h) (Or.inl ⟨by rfl, ?_⟩) hHeld ?_; rotate_left; focus (intro w hSw; (try dsimp only at hSw); go_simp; try with_reducible rfl)
  try simp only [Act.put, List.setIfInBounds_toArray, List.set_cons_zero, List.set_cons_succ]
  refine wpAnyH_take (i := 1) (v := ?_) (by simp only [List.getElem?_toArray, List.getElem?_cons_succ, List.getElem?_cons_zero]; rfl) (by kernel_rfl) (by kernel_rfl) (by kernel_rfl) (fun _ _ _ h => by exact h) (Or.inl ⟨by rfl, ?_⟩) hHeld ?_; rotate_left; focus (intro w hSw; (try dsimp only at hSw); go_simp; try with_reducible rfl)
  try simp only [Act.put, List.setIfInBounds_toArray, List.set_cons_zero, List.set_cons_succ]
  refine wpAnyH_take (i := 2) (v := ?_) (by simp only [List.getElem?_toArray, List.getElem?_cons_succ, List.getElem?_cons_zero]; rfl) (by kernel_rfl) (by kernel_rfl) (by kernel_rfl) (fun _ _ _ h => by exact h) (Or.inl ⟨by rfl, ?_⟩) hHeld ?_; rotate_left; focus (intro w hSw; (try dsimp only at hSw); go_simp; try with_reducible rfl)
  try simp only [Act.put, List.setIfInBounds_toArray, List.set_cons_zero, List.set_cons_succ]
  refine wpAnyH_take (i := 3) (v := ?_) (by simp only [List.getElem?_toArray, List.getElem?_cons_succ, List.getElem?_cons_zero]; rfl) (by kernel_rfl) (by kernel_rfl) (by kernel_rfl) (fun _ _ _ h => by exact h) (Or.inl ⟨by rfl, ?_⟩) hHeld ?_; rotate_left; focus (intro w hSw; (try dsimp only at hSw); go_simp; try with_reducible rfl)
  try simp only [Act.put, List.setIfInBounds_toArray, List.set_cons_zero, List.set_cons_succ]
  refine wpAnyH_take (i := 4) (v := ?_) (by simp only [List.getElem?_toArray, List.getElem?_cons_succ, List.getElem?_cons_zero]; rfl) (by kernel_rfl) (by kernel_rfl) (by kernel_rfl) (fun _ _ _ h => by exact h) (Or.inl ⟨by rfl, ?_⟩) hHeld ?_; rotate_left; focus (intro w hSw; (try dsimp only at hSw); go_simp; try with_reducible rfl)
  try simp only [Act.put, List.setIfInBounds_toArray, List.set_cons_zero, List.set_cons_succ]
  refine wpAnyH_take (i := 5) (v := ?_) (by simp only [List.getElem?_toArray, List.getElem?_cons_succ, List.getElem?_cons_zero]; rfl) (by kernel_rfl) (by kernel_rfl) (by kernel_rfl) (fun _ _ _ h => by exact h) (Or.inl ⟨by rfl, ?_⟩) hHeld ?_; rotate_left; focus (intro w hSw; (try dsimp only at hSw); go_simp; try with_reducible rfl)
  try simp only [Act.put, List.setIfInBounds_toArray, List.set_cons_zero, List.set_cons_succ]
  refine wpAnyH_take (i := 6) (v := ?_) (by simp only [List.getElem?_toArray, List.getElem?_cons_succ, List.getElem?_cons_zero]; rfl) (by kernel_rfl) (by kernel_rfl) (by kernel_rfl) (fun _ _ _ h => by exact h) (Or.inl ⟨by rfl, ?_⟩) hHeld ?_; rotate_left; focus (intro w hSw; (try dsimp only at hSw); go_simp; try with_reducible rfl)
  try simp only [Act.put, List.setIfInBounds_toArray, List.set_cons_zero, List.set_cons_succ]
  refine wpAnyH_take (i := 7) (v := ?_) (by simp only [List.getElem?_toArray, List.getElem?_cons_succ, List.getElem?_cons_zero]; rfl) (by kernel_rfl) (by kernel_rfl) (by kernel_rfl) (fun _ _ _ h => by exact h) (Or.inl ⟨by rfl, ?_⟩) hHeld ?_; rotate_left; focus (intro w hSw; (try dsimp only at hSw); go_simp; try with_reducible rfl)
  try simp only [Act.put, List.setIfInBounds_toArray, List.set_cons_zero, List.set_cons_succ]
  refine wpAnyH_take (i := 8) (v := ?_) (by simp only [List.getElem?_toArray, List.getElem?_cons_succ, List.getElem?_cons_zero]; rfl) (by kernel_rfl) (by kernel_rfl) (by kernel_rfl) (fun _ _ _ h => by exact h) (Or.inl ⟨by rfl, ?_⟩) hHeld ?_; rotate_left; focus (intro w hSw; (try dsimp only at hSw); go_simp; try with_reducible rfl)
  try simp only [Act.put, List.setIfInBounds_toArray, List.set_cons_zero, List.set_cons_succ]
  refine wpAnyH_take (i := 9) (v := ?_) (by simp only [List.getElem?_toArray, List.getElem?_cons_succ, List.getElem?_cons_zero]; rfl) (by kernel_rfl) (by kernel_rfl) (by kernel_rfl) (fun _ _ _ h => by exact h) (Or.inl ⟨by rfl, ?_⟩) hHeld ?_; rotate_left; focus (intro w hSw; (try dsimp only at hSw); go_simp; try with_reducible rfl)
  try simp only [Act.put, List.setIfInBounds_toArray, List.set_cons_zero, List.set_cons_succ]
  refine wpAnyH_take (i := 10) (v := ?_) (by simp only [List.getElem?_toArray, List.getElem?_cons_succ, List.getElem?_cons_zero]; rfl) (by kernel_rfl) (by kernel_rfl) (by kernel_rfl) (fun _ _ _ h => by exact h) (Or.inl ⟨by rfl, ?_⟩) hHeld ?_; rotate_left; focus (intro w hSw; (try dsimp only at hSw); go_simp; try with_reducible rfl)
  try simp only [Act.put, List.setIfInBounds_toArray, List.set_cons_zero, List.set_cons_succ]
  refine wpAnyH_ready (rs := [11]) (by kernel_rfl) (by simp) (AllReadyH.cons (i := 11) (by simp only [List.getElem?_toArray, List.getElem?_cons_succ, List.getElem?_cons_zero]; rfl) (fun K hK => ?_) AllReadyH.nil)
  go_simp
  go_at_call 39; (with_reducible refine (HO.out _).mono ?_); rintro e wk ⟨rfl, hf⟩; have hk := Fr.trans ((Fr.refl noneOf W).drew) hf
  try go_wp2_with fail
  refine hK.out _ _ ⟨HCL.out _ hk, hk⟩ (fun hHeld => ?_)
  clear hK K
  try simp only [Act.put, List.setIfInBounds_toArray, List.set_cons_zero, List.set_cons_succ]
  refine wpAnyH_take (i := 12) (v := ?_) (by simp only [List.getElem?_toArray, List.getElem?_cons_succ, List.getElem?_cons_zero]; rfl) (by kernel_rfl) (by kernel_rfl) (by kernel_rfl) (fun _ _ _ h => by exact h) (Or.inl ⟨by rfl, ?_⟩) hHeld ?_; rotate_left; focus (intro w hSw; (try dsimp only at hSw); go_simp; try with_reducible rfl)
  try simp only [Act.put, List.setIfInBounds_toArray, List.set_cons_zero, List.set_cons_succ]
  refine wpAnyH_take (i := 13) (v := ?_) (by simp only [List.getElem?_toArray, List.getElem?_cons_succ, List.getElem?_cons_zero]; rfl) (by kernel_rfl) (by kernel_rfl) (by kernel_rfl) (fun _ _ _ h => by exact h) (Or.inl ⟨by rfl, ?_⟩) hHeld ?_; rotate_left; focus (intro w hSw; (try dsimp only at hSw); go_simp; try with_reducible rfl)
  try simp only [Act.put, List.setIfInBounds_toArray, List.set_cons_zero, List.set_cons_succ]
  refine wpAnyH_take (i := 14) (v := ?_) (by simp only [List.getElem?_toArray, List.getElem?_cons_succ, List.getElem?_cons_zero]; rfl) (by kernel_rfl) (by kernel_rfl) (by kernel_rfl) (fun _ _ _ h => by exact h) (Or.inl ⟨by rfl, ?_⟩) hHeld ?_; rotate_left; focus (intro w hSw; (try dsimp only at hSw); go_simp; try with_reducible rfl)
  try simp only [Act.put, List.setIfInBounds_toArray, List.set_cons_zero, List.set_cons_succ]
  refine wpAnyH_take (i := 15) (v := ?_) (by simp only [List.getElem?_toArray, List.getElem?_cons_succ, List.getElem?_cons_zero]; rfl) (by kernel_rfl) (by kernel_rfl) (by kernel_rfl) (fun _ _ _ h => by exact h) (Or.inl ⟨by rfl, ?_⟩) hHeld ?_; rotate_left; focus (intro w hSw; (try dsimp only at hSw); go_simp; try with_reducible rfl)
  try simp only [Act.put, List.setIfInBounds_toArray, List.set_cons_zero, List.set_cons_succ]
  refine wpAnyH_take (i := 16) (v := ?_) (by simp only [List.getElem?_toArray, List.getElem?_cons_succ, List.getElem?_cons_zero]; rfl) (by kernel_rfl) (by kernel_rfl) (by kernel_rfl) (fun _ _ _ h => by exact h) (Or.inl ⟨by rfl, ?_⟩) hHeld ?_; rotate_left; focus (intro w hSw; (try dsimp only at hSw); go_simp; try with_reducible rfl)
  try simp only [Act.put, List.setIfInBounds_toArray, List.set_cons_zero, List.set_cons_succ]
  refine wpAnyH_ready (rs := [17]) (by kernel_rfl) (by simp) (AllReadyH.cons (i := 17) (by simp only [List.getElem?_toArray, List.getElem?_cons_succ, List.getElem?_cons_zero]; rfl) (fun K hK => ?_) AllReadyH.nil)
  go_simp
  go_at_call 40; (with_reducible refine (HP.out _).mono ?_); rintro e wk2 ⟨rfl, hf2⟩; have hk := Fr.trans hk hf2
  try go_wp2_with fail
  refine hK.out _ _ ⟨HCL.out _ hk, hk⟩ (fun hHeld => ?_)
  clear hK K
  try simp only [Act.put, List.setIfInBounds_toArray, List.set_cons_zero, List.set_cons_succ]
  refine wpAnyH_take (i := 18) (v := ?_) (by simp only [List.getElem?_toArray, List.getElem?_cons_succ, List.getElem?_cons_zero]; rfl) (by kernel_rfl) (by kernel_rfl) (by kernel_rfl) (fun _ _ _ h => by exact h) (Or.inl ⟨by rfl, ?_⟩) hHeld ?_; rotate_left; focus (intro w hSw; (try dsimp only at hSw); go_simp; try with_reducible rfl)
  try simp only [Act.put, List.setIfInBounds_toArray, List.set_cons_zero, List.set_cons_succ]
  refine wpAnyH_take (i := 19) (v := ?_) (by simp only [List.getElem?_toArray, List.getElem?_cons_succ, List.getElem?_cons_zero]; rfl) (by kernel_rfl) (by kernel_rfl) (by kernel_rfl) (fun _ _ _ h => by exact h) (Or.inl ⟨by rfl, ?_⟩) hHeld ?_; rotate_left; focus (intro w hSw; (try dsimp only at hSw); go_simp; try with_reducible rfl)
  try simp only [Act.put, List.setIfInBounds_toArray, List.set_cons_zero, List.set_cons_succ]
  refine wpAnyH_take (i := 20) (v := ?_) (by simp only [List.getElem?_toArray, List.getElem?_cons_succ, List.getElem?_cons_zero]; rfl) (by kernel_rfl) (by kernel_rfl) (by kernel_rfl) (fun _ _ _ h => by exact h) (Or.inl ⟨by rfl, ?_⟩) hHeld ?_; rotate_left; focus (intro w hSw; (try dsimp only at hSw); go_simp; try with_reducible rfl)
  try simp only [Act.put, List.setIfInBounds_toArray, List.set_cons_zero, List.set_cons_succ]
  refine wpAnyH_take (i := 21) (v := undef) (by simp only [List.getElem?_toArray, List.getElem?_cons_succ, List.getElem?_cons_zero]; rfl) (by kernel_rfl) (by kernel_rfl) (by kernel_rfl) (fun _ _ _ h => by exact h) (Or.inr ⟨by rfl, rfl⟩) hHeld ?_
  try simp only [Act.put, List.setIfInBounds_toArray, List.set_cons_zero, List.set_cons_succ]
  refine wpAnyH_take (i := 22) (v := undef) (by simp only [List.getElem?_toArray, List.getElem?_cons_succ, List.getElem?_cons_zero]; rfl) (by kernel_rfl) (by kernel_rfl) (by kernel_rfl) (fun _ _ _ h => by exact h) (Or.inr ⟨by rfl, rfl⟩) hHeld ?_
  try simp only [Act.put, List.setIfInBounds_toArray, List.set_cons_zero, List.set_cons_succ]
  refine wpAnyH_take (i := 23) (v := undef) (by simp only [List.getElem?_toArray, List.getElem?_cons_succ, List.getElem?_cons_zero]; rfl) (by kernel_rfl) (by kernel_rfl) (by kernel_rfl) (fun _ _ _ h => by exact h) (Or.inr ⟨by rfl, rfl⟩) hHeld ?_
  try simp only [Act.put, List.setIfInBounds_toArray, List.set_cons_zero, List.set_cons_succ]
  refine wpAnyH_take (i := 24) (v := undef) (by simp only [List.getElem?_toArray, List.getElem?_cons_succ, List.getElem?_cons_zero]; rfl) (by kernel_rfl) (by kernel_rfl) (by kernel_rfl) (fun _ _ _ h => by exact h) (Or.inr ⟨by rfl, rfl⟩) hHeld ?_
  try simp only [Act.put, List.setIfInBounds_toArray, List.set_cons_zero, List.set_cons_succ]
  refine wpAnyH_take (i := 25) (v := undef) (by simp only [List.getElem?_toArray, List.getElem?_cons_succ, List.getElem?_cons_zero]; rfl) (by kernel_rfl) (by kernel_rfl) (by kernel_rfl) (fun _ _ _ h => by exact h) (Or.inr ⟨by rfl, rfl⟩) hHeld ?_
  try simp only [Act.put, List.setIfInBounds_toArray, List.set_cons_zero, List.set_cons_succ]
  refine wpAnyH_take (i := 26) (v := ?_) (by simp only [List.getElem?_toArray, List.getElem?_cons_succ, List.getElem?_cons_zero]; rfl) (by kernel_rfl) (by kernel_rfl) (by kernel_rfl) (fun _ _ _ h => by exact h) (Or.inl ⟨by rfl, ?_⟩) hHeld ?_; rotate_left; focus (intro w hSw; (try dsimp only at hSw); go_simp; try with_reducible rfl)
  try simp only [Act.put, List.setIfInBounds_toArray, List.set_cons_zero, List.set_cons_succ]
  refine wpAnyH_take (i := 27) (v := ?_) (by simp only [List.getElem?_toArray, List.getElem?_cons_succ, List.getElem?_cons_zero]; rfl) (by kernel_rfl) (by kernel_rfl) (by kernel_rfl) (fun _ _ _ h => by exact h) (Or.inl ⟨by rfl, ?_⟩) hHeld ?_; rotate_left; focus (intro w hSw; (try dsimp only at hSw); go_simp; try with_reducible rfl)
  try simp only [Act.put, List.setIfInBounds_toArray, List.set_cons_zero, List.set_cons_succ]
  refine wpAnyH_take (i := 28) (v := undef) (by simp only [List.getElem?_toArray, List.getElem?_cons_succ, List.getElem?_cons_zero]; rfl) (by kernel_rfl) (by kernel_rfl) (by kernel_rfl) (fun _ _ _ h => by exact h) (Or.inr ⟨by rfl, rfl⟩) hHeld ?_
  try simp only [Act.put, List.setIfInBounds_toArray, List.set_cons_zero, List.set_cons_succ]
  refine wpAnyH_take (i := 29) (v := undef) (by simp only [List.getElem?_toArray, List.getElem?_cons_succ, List.getElem?_cons_zero]; rfl) (by kernel_rfl) (by kernel_rfl) (by kernel_rfl) (fun _ _ _ h => by exact h) (Or.inr ⟨by rfl, rfl⟩) hHeld ?_
  try simp only [Act.put, List.setIfInBounds_toArray, List.set_cons_zero, List.set_cons_succ]
  refine wpAnyH_take (i := 30) (v := undef) (by simp only [List.getElem?_toArray, List.getElem?_cons_succ, List.getElem?_cons_zero]; rfl) (by kernel_rfl) (by kernel_rfl) (by kernel_rfl) (fun _ _ _ h => by exact h) (Or.inr ⟨by rfl, rfl⟩) hHeld ?_
  try simp only [Act.put, List.setIfInBounds_toArray, List.set_cons_zero, List.set_cons_succ]
  refine wpAnyH_take (i := 31) (v := undef) (by simp only [List.getElem?_toArray, List.getElem?_cons_succ, List.getElem?_cons_zero]; rfl) (by kernel_rfl) (by kernel_rfl) (by kernel_rfl) (fun _ _ _ h => by exact h) (Or.inr ⟨by rfl, rfl⟩) hHeld ?_
  try simp only [Act.put, List.setIfInBounds_toArray, List.set_cons_zero, List.set_cons_succ]
  refine wpAnyH_take (i := 32) (v := undef) (by simp only [List.getElem?_toArray, List.getElem?_cons_succ, List.getElem?_cons_zero]; rfl) (by kernel_rfl) (by kernel_rfl) (by kernel_rfl) (fun _ _ _ h => by exact h) (Or.inr ⟨by rfl, rfl⟩) hHeld ?_
  try simp only [Act.put, List.setIfInBounds_toArray, List.set_cons_zero, List.set_cons_succ]
  refine wpAnyH_take (i := 33) (v := ?_) (by simp only [List.getElem?_toArray, List.getElem?_cons_succ, List.getElem?_cons_zero]; rfl) (by kernel_rfl) (by kernel_rfl) (by kernel_rfl) (fun _ _ _ h => by exact h) (Or.inl ⟨by rfl, ?_⟩) hHeld ?_; rotate_left; focus (intro w hSw; (try dsimp only at hSw); go_simp; try with_reducible rfl)
  try simp only [Act.put, List.setIfInBounds_toArray, List.set_cons_zero, List.set_cons_succ]
  refine wpAnyH_done (by kernel_rfl) ?_ _
  all_goals
    go_wp2
    go_ret
    exact ⟨rfl, HFW.out.trans hk⟩
set_option maxHeartbeats 4000000 in
theorem check_node_no (k g s : Int) (key : Bool) (body path : ByteArray) (n c : Int) (w : World) (hk1 : 1 ≤ k) (hk9 : k ≤ 9)
    (HO : Hid (∀ w, Calls Tryd.prog 39 #[.agg #[.int .i64 k, .int .i64 g, .int .i64 s, .bool key, .string body, .string path, .int .i64 n, .int .i64 c]] w fun e w' => e = .returned (.agg #[.int .i64 k, .int .i64 g, .int .i64 s, .bool key, .string body, .string path, .int .i64 n, .int .i64 c]) ∧ Fr noneOf w w'))
    (HP : Hid (∀ w, Calls Tryd.prog 40 #[.string path] w fun e w' => e = .returned (.bool true) ∧ Fr noneOf w w')) (hn1 : 15 < n) :
    Calls Tryd.prog 13 #[.agg #[.int .i64 k, .int .i64 g, .int .i64 s, .bool key, .string body, .string path, .int .i64 n, .int .i64 c]] w fun e w' => e = .returned (.bool false) ∧ Fr noneOf w w' := by
  have d1 : decide (k < 1) = false := by simp; omega
  have d2 : decide ((9 : Int) < k) = false := by simp; omega
  have HN := Lib.hid hn1
  have HB := Lib.hid (Blk.new w 25 #[.int .i64 k, .int .i64 g, .int .i64 s, .bool key, .string body, .string path, .int .i64 n, .int .i64 c])
  obtain ⟨b, hb⟩ : ∃ b, b = w.heap.size := ⟨_, rfl⟩
  obtain ⟨W, hW⟩ : ∃ W, W = w.alloc (.cells #[.int .i64 k, .int .i64 g, .int .i64 s, .bool key, .string body, .string path, .int .i64 n, .int .i64 c] 25) := ⟨_, rfl⟩
  have HFW : Hid (Fr noneOf w W) := Lib.hid (by rw [hW]; exact (Fr.refl _ _).alloc _)
  rw [← hW, ← hb] at HB
  clear hn1 hk1 hk9
  go_enter Tryd.func13, Tryd.ntmps13
  go_wp2
  rw [← hW, ← hb]
  clear hW hb
  have HCL : Hid (∀ w', Fr noneOf W w' → w'.cell? ⟨b, 0, none⟩ = some (.int .i64 k) ∧ w'.cell? ⟨b, 1, none⟩ = some (.int .i64 g) ∧ w'.cell? ⟨b, 2, none⟩ = some (.int .i64 s) ∧ w'.cell? ⟨b, 3, none⟩ = some (.bool key) ∧ w'.cell? ⟨b, 4, none⟩ = some (.string body) ∧ w'.cell? ⟨b, 5, none⟩ = some (.string path) ∧ w'.cell? ⟨b, 6, none⟩ = some (.int .i64 n) ∧ w'.cell? ⟨b, 7, none⟩ = some (.int .i64 c)) := Lib.hid (fun w' hf => ⟨(HB.out.fr0 hf).cell 0, (HB.out.fr0 hf).cell 1, (HB.out.fr0 hf).cell 2, (HB.out.fr0 hf).cell 3, (HB.out.fr0 hf).cell 4, (HB.out.fr0 hf).cell 5, (HB.out.fr0 hf).cell 6, (HB.out.fr0 hf).cell 7⟩)
  refine wp_region_held_drew (S := (fun w' => (w'.cell? ⟨b, 0, none⟩ = some (.int .i64 k) ∧ w'.cell? ⟨b, 1, none⟩ = some (.int .i64 g) ∧ w'.cell? ⟨b, 2, none⟩ = some (.int .i64 s) ∧ w'.cell? ⟨b, 3, none⟩ = some (.bool key) ∧ w'.cell? ⟨b, 4, none⟩ = some (.string body) ∧ w'.cell? ⟨b, 5, none⟩ = some (.string path) ∧ w'.cell? ⟨b, 6, none⟩ = some (.int .i64 n) ∧ w'.cell? ⟨b, 7, none⟩ = some (.int .i64 c)) ∧ Fr noneOf W w')) (by kernel_rfl) ⟨HCL.out _ (Fr.refl noneOf W).drew, (Fr.refl noneOf W).drew⟩ (fun hHeld => ?_)
  refine wpAnyH_take (i := 0) (v := ?_) (by simp only [List.getElem?_toArray, List.getElem?_cons_succ, List.getElem?_cons_zero]; rfl) (by kernel_rfl) (by kernel_rfl) (by kernel_rfl) (fun _ _ _ h => by exact h) (Or.inl ⟨by rfl, ?_⟩) hHeld ?_; rotate_left; focus (intro w hSw; (try dsimp only at hSw); go_simp; try with_reducible rfl)
  try simp only [Act.put, List.setIfInBounds_toArray, List.set_cons_zero, List.set_cons_succ]
  refine wpAnyH_take (i := 1) (v := ?_) (by simp only [List.getElem?_toArray, List.getElem?_cons_succ, List.getElem?_cons_zero]; rfl) (by kernel_rfl) (by kernel_rfl) (by kernel_rfl) (fun _ _ _ h => by exact h) (Or.inl ⟨by rfl, ?_⟩) hHeld ?_; rotate_left; focus (intro w hSw; (try dsimp only at hSw); go_simp; try with_reducible rfl)
  try simp only [Act.put, List.setIfInBounds_toArray, List.set_cons_zero, List.set_cons_succ]
  refine wpAnyH_take (i := 2) (v := ?_) (by simp only [List.getElem?_toArray, List.getElem?_cons_succ, List.getElem?_cons_zero]; rfl) (by kernel_rfl) (by kernel_rfl) (by kernel_rfl) (fun _ _ _ h => by exact h) (Or.inl ⟨by rfl, ?_⟩) hHeld ?_; rotate_left; focus (intro w hSw; (try dsimp only at hSw); go_simp; try with_reducible rfl)
  try simp only [Act.put, List.setIfInBounds_toArray, List.set_cons_zero, List.set_cons_succ]
  refine wpAnyH_take (i := 3) (v := ?_) (by simp only [List.getElem?_toArray, List.getElem?_cons_succ, List.getElem?_cons_zero]; rfl) (by kernel_rfl) (by kernel_rfl) (by kernel_rfl) (fun _ _ _ h => by exact h) (Or.inl ⟨by rfl, ?_⟩) hHeld ?_; rotate_left; focus (intro w hSw; (try dsimp only at hSw); go_simp; try with_reducible rfl)
  try simp only [Act.put, List.setIfInBounds_toArray, List.set_cons_zero, List.set_cons_succ]
  refine wpAnyH_take (i := 4) (v := ?_) (by simp only [List.getElem?_toArray, List.getElem?_cons_succ, List.getElem?_cons_zero]; rfl) (by kernel_rfl) (by kernel_rfl) (by kernel_rfl) (fun _ _ _ h => by exact h) (Or.inl ⟨by rfl, ?_⟩) hHeld ?_; rotate_left; focus (intro w hSw; (try dsimp only at hSw); go_simp; try with_reducible rfl)
  try simp only [Act.put, List.setIfInBounds_toArray, List.set_cons_zero, List.set_cons_succ]
  refine wpAnyH_take (i := 5) (v := ?_) (by simp only [List.getElem?_toArray, List.getElem?_cons_succ, List.getElem?_cons_zero]; rfl) (by kernel_rfl) (by kernel_rfl) (by kernel_rfl) (fun _ _ _ h => by exact h) (Or.inl ⟨by rfl, ?_⟩) hHeld ?_; rotate_left; focus (intro w hSw; (try dsimp only at hSw); go_simp; try with_reducible rfl)
  try simp only [Act.put, List.setIfInBounds_toArray, List.set_cons_zero, List.set_cons_succ]
  refine wpAnyH_take (i := 6) (v := ?_) (by simp only [List.getElem?_toArray, List.getElem?_cons_succ, List.getElem?_cons_zero]; rfl) (by kernel_rfl) (by kernel_rfl) (by kernel_rfl) (fun _ _ _ h => by exact h) (Or.inl ⟨by rfl, ?_⟩) hHeld ?_; rotate_left; focus (intro w hSw; (try dsimp only at hSw); go_simp; try with_reducible rfl)
  try simp only [Act.put, List.setIfInBounds_toArray, List.set_cons_zero, List.set_cons_succ]
  refine wpAnyH_take (i := 7) (v := ?_) (by simp only [List.getElem?_toArray, List.getElem?_cons_succ, List.getElem?_cons_zero]; rfl) (by kernel_rfl) (by kernel_rfl) (by kernel_rfl) (fun _ _ _ h => by exact h) (Or.inl ⟨by rfl, ?_⟩) hHeld ?_; rotate_left; focus (intro w hSw; (try dsimp only at hSw); go_simp; try with_reducible rfl)
  try simp only [Act.put, List.setIfInBounds_toArray, List.set_cons_zero, List.set_cons_succ]
  refine wpAnyH_take (i := 8) (v := ?_) (by simp only [List.getElem?_toArray, List.getElem?_cons_succ, List.getElem?_cons_zero]; rfl) (by kernel_rfl) (by kernel_rfl) (by kernel_rfl) (fun _ _ _ h => by exact h) (Or.inl ⟨by rfl, ?_⟩) hHeld ?_; rotate_left; focus (intro w hSw; (try dsimp only at hSw); go_simp; try with_reducible rfl)
  try simp only [Act.put, List.setIfInBounds_toArray, List.set_cons_zero, List.set_cons_succ]
  refine wpAnyH_take (i := 9) (v := ?_) (by simp only [List.getElem?_toArray, List.getElem?_cons_succ, List.getElem?_cons_zero]; rfl) (by kernel_rfl) (by kernel_rfl) (by kernel_rfl) (fun _ _ _ h => by exact h) (Or.inl ⟨by rfl, ?_⟩) hHeld ?_; rotate_left; focus (intro w hSw; (try dsimp only at hSw); go_simp; try with_reducible rfl)
  try simp only [Act.put, List.setIfInBounds_toArray, List.set_cons_zero, List.set_cons_succ]
  refine wpAnyH_take (i := 10) (v := ?_) (by simp only [List.getElem?_toArray, List.getElem?_cons_succ, List.getElem?_cons_zero]; rfl) (by kernel_rfl) (by kernel_rfl) (by kernel_rfl) (fun _ _ _ h => by exact h) (Or.inl ⟨by rfl, ?_⟩) hHeld ?_; rotate_left; focus (intro w hSw; (try dsimp only at hSw); go_simp; try with_reducible rfl)
  try simp only [Act.put, List.setIfInBounds_toArray, List.set_cons_zero, List.set_cons_succ]
  refine wpAnyH_ready (rs := [11]) (by kernel_rfl) (by simp) (AllReadyH.cons (i := 11) (by simp only [List.getElem?_toArray, List.getElem?_cons_succ, List.getElem?_cons_zero]; rfl) (fun K hK => ?_) AllReadyH.nil)
  go_simp
  go_at_call 39; (with_reducible refine (HO.out _).mono ?_); rintro e wk ⟨rfl, hf⟩; have hk := Fr.trans ((Fr.refl noneOf W).drew) hf
  try go_wp2_with fail
  refine hK.out _ _ ⟨HCL.out _ hk, hk⟩ (fun hHeld => ?_)
  clear hK K
  try simp only [Act.put, List.setIfInBounds_toArray, List.set_cons_zero, List.set_cons_succ]
  refine wpAnyH_take (i := 12) (v := ?_) (by simp only [List.getElem?_toArray, List.getElem?_cons_succ, List.getElem?_cons_zero]; rfl) (by kernel_rfl) (by kernel_rfl) (by kernel_rfl) (fun _ _ _ h => by exact h) (Or.inl ⟨by rfl, ?_⟩) hHeld ?_; rotate_left; focus (intro w hSw; (try dsimp only at hSw); go_simp; try with_reducible rfl)
  try simp only [Act.put, List.setIfInBounds_toArray, List.set_cons_zero, List.set_cons_succ]
  refine wpAnyH_take (i := 13) (v := ?_) (by simp only [List.getElem?_toArray, List.getElem?_cons_succ, List.getElem?_cons_zero]; rfl) (by kernel_rfl) (by kernel_rfl) (by kernel_rfl) (fun _ _ _ h => by exact h) (Or.inl ⟨by rfl, ?_⟩) hHeld ?_; rotate_left; focus (intro w hSw; (try dsimp only at hSw); go_simp; try with_reducible rfl)
  try simp only [Act.put, List.setIfInBounds_toArray, List.set_cons_zero, List.set_cons_succ]
  refine wpAnyH_take (i := 14) (v := ?_) (by simp only [List.getElem?_toArray, List.getElem?_cons_succ, List.getElem?_cons_zero]; rfl) (by kernel_rfl) (by kernel_rfl) (by kernel_rfl) (fun _ _ _ h => by exact h) (Or.inl ⟨by rfl, ?_⟩) hHeld ?_; rotate_left; focus (intro w hSw; (try dsimp only at hSw); go_simp; try with_reducible rfl)
  try simp only [Act.put, List.setIfInBounds_toArray, List.set_cons_zero, List.set_cons_succ]
  refine wpAnyH_take (i := 15) (v := ?_) (by simp only [List.getElem?_toArray, List.getElem?_cons_succ, List.getElem?_cons_zero]; rfl) (by kernel_rfl) (by kernel_rfl) (by kernel_rfl) (fun _ _ _ h => by exact h) (Or.inl ⟨by rfl, ?_⟩) hHeld ?_; rotate_left; focus (intro w hSw; (try dsimp only at hSw); go_simp; try with_reducible rfl)
  try simp only [Act.put, List.setIfInBounds_toArray, List.set_cons_zero, List.set_cons_succ]
  refine wpAnyH_take (i := 16) (v := ?_) (by simp only [List.getElem?_toArray, List.getElem?_cons_succ, List.getElem?_cons_zero]; rfl) (by kernel_rfl) (by kernel_rfl) (by kernel_rfl) (fun _ _ _ h => by exact h) (Or.inl ⟨by rfl, ?_⟩) hHeld ?_; rotate_left; focus (intro w hSw; (try dsimp only at hSw); go_simp; try with_reducible rfl)
  try simp only [Act.put, List.setIfInBounds_toArray, List.set_cons_zero, List.set_cons_succ]
  refine wpAnyH_ready (rs := [17]) (by kernel_rfl) (by simp) (AllReadyH.cons (i := 17) (by simp only [List.getElem?_toArray, List.getElem?_cons_succ, List.getElem?_cons_zero]; rfl) (fun K hK => ?_) AllReadyH.nil)
  go_simp
  go_at_call 40; (with_reducible refine (HP.out _).mono ?_); rintro e wk2 ⟨rfl, hf2⟩; have hk := Fr.trans hk hf2
  try go_wp2_with fail
  refine hK.out _ _ ⟨HCL.out _ hk, hk⟩ (fun hHeld => ?_)
  clear hK K
  try simp only [Act.put, List.setIfInBounds_toArray, List.set_cons_zero, List.set_cons_succ]
  refine wpAnyH_take (i := 18) (v := ?_) (by simp only [List.getElem?_toArray, List.getElem?_cons_succ, List.getElem?_cons_zero]; rfl) (by kernel_rfl) (by kernel_rfl) (by kernel_rfl) (fun _ _ _ h => by exact h) (Or.inl ⟨by rfl, ?_⟩) hHeld ?_; rotate_left; focus (intro w hSw; (try dsimp only at hSw); go_simp; try with_reducible rfl)
  try simp only [Act.put, List.setIfInBounds_toArray, List.set_cons_zero, List.set_cons_succ]
  refine wpAnyH_take (i := 19) (v := ?_) (by simp only [List.getElem?_toArray, List.getElem?_cons_succ, List.getElem?_cons_zero]; rfl) (by kernel_rfl) (by kernel_rfl) (by kernel_rfl) (fun _ _ _ h => by exact h) (Or.inl ⟨by rfl, ?_⟩) hHeld ?_; rotate_left; focus (intro w hSw; (try dsimp only at hSw); go_simp; try with_reducible rfl)
  try simp only [Act.put, List.setIfInBounds_toArray, List.set_cons_zero, List.set_cons_succ]
  refine wpAnyH_take (i := 20) (v := ?_) (by simp only [List.getElem?_toArray, List.getElem?_cons_succ, List.getElem?_cons_zero]; rfl) (by kernel_rfl) (by kernel_rfl) (by kernel_rfl) (fun _ _ _ h => by exact h) (Or.inl ⟨by rfl, ?_⟩) hHeld ?_; rotate_left; focus (intro w hSw; (try dsimp only at hSw); go_simp; try with_reducible rfl)
  try simp only [Act.put, List.setIfInBounds_toArray, List.set_cons_zero, List.set_cons_succ]
  refine wpAnyH_take (i := 21) (v := ?_) (by simp only [List.getElem?_toArray, List.getElem?_cons_succ, List.getElem?_cons_zero]; rfl) (by kernel_rfl) (by kernel_rfl) (by kernel_rfl) (fun _ _ _ h => by exact h) (Or.inl ⟨by rfl, ?_⟩) hHeld ?_; rotate_left; focus (intro w hSw; (try dsimp only at hSw); go_simp; try with_reducible rfl)
  try simp only [Act.put, List.setIfInBounds_toArray, List.set_cons_zero, List.set_cons_succ]
  refine wpAnyH_take (i := 22) (v := ?_) (by simp only [List.getElem?_toArray, List.getElem?_cons_succ, List.getElem?_cons_zero]; rfl) (by kernel_rfl) (by kernel_rfl) (by kernel_rfl) (fun _ _ _ h => by exact h) (Or.inl ⟨by rfl, ?_⟩) hHeld ?_; rotate_left; focus (intro w hSw; (try dsimp only at hSw); go_simp; try with_reducible rfl)
  try simp only [Act.put, List.setIfInBounds_toArray, List.set_cons_zero, List.set_cons_succ]
  refine wpAnyH_take (i := 23) (v := ?_) (by simp only [List.getElem?_toArray, List.getElem?_cons_succ, List.getElem?_cons_zero]; rfl) (by kernel_rfl) (by kernel_rfl) (by kernel_rfl) (fun _ _ _ h => by exact h) (Or.inl ⟨by rfl, ?_⟩) hHeld ?_; rotate_left; focus (intro w hSw; (try dsimp only at hSw); go_simp; try with_reducible rfl)
  try simp only [Act.put, List.setIfInBounds_toArray, List.set_cons_zero, List.set_cons_succ]
  refine wpAnyH_ready (rs := [24]) (by kernel_rfl) (by simp) (AllReadyH.cons (i := 24) (by simp only [List.getElem?_toArray, List.getElem?_cons_succ, List.getElem?_cons_zero]; rfl) (fun K hK => ?_) AllReadyH.nil)
  go_simp
  go_at_call 38; (with_reducible refine (within_no n 15 _ HN.out).mono ?_); rintro e wk3 ⟨rfl, rfl⟩
  try go_wp2_with fail
  refine hK.out _ _ ⟨HCL.out _ hk, hk⟩ (fun hHeld => ?_)
  clear hK K
  try simp only [Act.put, List.setIfInBounds_toArray, List.set_cons_zero, List.set_cons_succ]
  refine wpAnyH_take (i := 25) (v := ?_) (by simp only [List.getElem?_toArray, List.getElem?_cons_succ, List.getElem?_cons_zero]; rfl) (by kernel_rfl) (by kernel_rfl) (by kernel_rfl) (fun _ _ _ h => by exact h) (Or.inl ⟨by rfl, ?_⟩) hHeld ?_; rotate_left; focus (intro w hSw; (try dsimp only at hSw); go_simp; try with_reducible rfl)
  try simp only [Act.put, List.setIfInBounds_toArray, List.set_cons_zero, List.set_cons_succ]
  refine wpAnyH_take (i := 26) (v := ?_) (by simp only [List.getElem?_toArray, List.getElem?_cons_succ, List.getElem?_cons_zero]; rfl) (by kernel_rfl) (by kernel_rfl) (by kernel_rfl) (fun _ _ _ h => by exact h) (Or.inl ⟨by rfl, ?_⟩) hHeld ?_; rotate_left; focus (intro w hSw; (try dsimp only at hSw); go_simp; try with_reducible rfl)
  try simp only [Act.put, List.setIfInBounds_toArray, List.set_cons_zero, List.set_cons_succ]
  refine wpAnyH_take (i := 27) (v := ?_) (by simp only [List.getElem?_toArray, List.getElem?_cons_succ, List.getElem?_cons_zero]; rfl) (by kernel_rfl) (by kernel_rfl) (by kernel_rfl) (fun _ _ _ h => by exact h) (Or.inl ⟨by rfl, ?_⟩) hHeld ?_; rotate_left; focus (intro w hSw; (try dsimp only at hSw); go_simp; try with_reducible rfl)
  try simp only [Act.put, List.setIfInBounds_toArray, List.set_cons_zero, List.set_cons_succ]
  refine wpAnyH_take (i := 28) (v := undef) (by simp only [List.getElem?_toArray, List.getElem?_cons_succ, List.getElem?_cons_zero]; rfl) (by kernel_rfl) (by kernel_rfl) (by kernel_rfl) (fun _ _ _ h => by exact h) (Or.inr ⟨by rfl, rfl⟩) hHeld ?_
  try simp only [Act.put, List.setIfInBounds_toArray, List.set_cons_zero, List.set_cons_succ]
  refine wpAnyH_take (i := 29) (v := undef) (by simp only [List.getElem?_toArray, List.getElem?_cons_succ, List.getElem?_cons_zero]; rfl) (by kernel_rfl) (by kernel_rfl) (by kernel_rfl) (fun _ _ _ h => by exact h) (Or.inr ⟨by rfl, rfl⟩) hHeld ?_
  try simp only [Act.put, List.setIfInBounds_toArray, List.set_cons_zero, List.set_cons_succ]
  refine wpAnyH_take (i := 30) (v := undef) (by simp only [List.getElem?_toArray, List.getElem?_cons_succ, List.getElem?_cons_zero]; rfl) (by kernel_rfl) (by kernel_rfl) (by kernel_rfl) (fun _ _ _ h => by exact h) (Or.inr ⟨by rfl, rfl⟩) hHeld ?_
  try simp only [Act.put, List.setIfInBounds_toArray, List.set_cons_zero, List.set_cons_succ]
  refine wpAnyH_take (i := 31) (v := undef) (by simp only [List.getElem?_toArray, List.getElem?_cons_succ, List.getElem?_cons_zero]; rfl) (by kernel_rfl) (by kernel_rfl) (by kernel_rfl) (fun _ _ _ h => by exact h) (Or.inr ⟨by rfl, rfl⟩) hHeld ?_
  try simp only [Act.put, List.setIfInBounds_toArray, List.set_cons_zero, List.set_cons_succ]
  refine wpAnyH_take (i := 32) (v := undef) (by simp only [List.getElem?_toArray, List.getElem?_cons_succ, List.getElem?_cons_zero]; rfl) (by kernel_rfl) (by kernel_rfl) (by kernel_rfl) (fun _ _ _ h => by exact h) (Or.inr ⟨by rfl, rfl⟩) hHeld ?_
  try simp only [Act.put, List.setIfInBounds_toArray, List.set_cons_zero, List.set_cons_succ]
  refine wpAnyH_take (i := 33) (v := ?_) (by simp only [List.getElem?_toArray, List.getElem?_cons_succ, List.getElem?_cons_zero]; rfl) (by kernel_rfl) (by kernel_rfl) (by kernel_rfl) (fun _ _ _ h => by exact h) (Or.inl ⟨by rfl, ?_⟩) hHeld ?_; rotate_left; focus (intro w hSw; (try dsimp only at hSw); go_simp; try with_reducible rfl)
  try simp only [Act.put, List.setIfInBounds_toArray, List.set_cons_zero, List.set_cons_succ]
  refine wpAnyH_done (by kernel_rfl) ?_ _
  all_goals
    go_wp2
    go_ret
    exact ⟨rfl, HFW.out.trans hk⟩
set_option maxHeartbeats 4000000 in
theorem check_frame_no (k g s : Int) (key : Bool) (body path : ByteArray) (n c : Int) (w : World) (hk1 : 1 ≤ k) (hk9 : k ≤ 9)
    (HO : Hid (∀ w, Calls Tryd.prog 39 #[.agg #[.int .i64 k, .int .i64 g, .int .i64 s, .bool key, .string body, .string path, .int .i64 n, .int .i64 c]] w fun e w' => e = .returned (.agg #[.int .i64 k, .int .i64 g, .int .i64 s, .bool key, .string body, .string path, .int .i64 n, .int .i64 c]) ∧ Fr noneOf w w'))
    (HP : Hid (∀ w, Calls Tryd.prog 40 #[.string path] w fun e w' => e = .returned (.bool true) ∧ Fr noneOf w w')) (hn0 : 0 ≤ n) (hn1 : n ≤ 15) (hc0 : 0 ≤ c) (hc1 : c ≤ 1048576)
    (HF : Hid (k ≠ 5 ∧ (g < 0 ∨ s < 0))) :
    Calls Tryd.prog 13 #[.agg #[.int .i64 k, .int .i64 g, .int .i64 s, .bool key, .string body, .string path, .int .i64 n, .int .i64 c]] w fun e w' => e = .returned (.bool false) ∧ Fr noneOf w w' := by
  have d1 : decide (k < 1) = false := by simp; omega
  have d2 : decide ((9 : Int) < k) = false := by simp; omega
  have HN := Lib.hid (And.intro hn0 hn1)
  have HC := Lib.hid (And.intro hc0 hc1)
  have HB := Lib.hid (Blk.new w 25 #[.int .i64 k, .int .i64 g, .int .i64 s, .bool key, .string body, .string path, .int .i64 n, .int .i64 c])
  obtain ⟨b, hb⟩ : ∃ b, b = w.heap.size := ⟨_, rfl⟩
  obtain ⟨W, hW⟩ : ∃ W, W = w.alloc (.cells #[.int .i64 k, .int .i64 g, .int .i64 s, .bool key, .string body, .string path, .int .i64 n, .int .i64 c] 25) := ⟨_, rfl⟩
  have HFW : Hid (Fr noneOf w W) := Lib.hid (by rw [hW]; exact (Fr.refl _ _).alloc _)
  rw [← hW, ← hb] at HB
  clear hn0 hn1 hc0 hc1 hk1 hk9
  go_enter Tryd.func13, Tryd.ntmps13
  go_wp2
  rw [← hW, ← hb]
  clear hW hb
  have HCL : Hid (∀ w', Fr noneOf W w' → w'.cell? ⟨b, 0, none⟩ = some (.int .i64 k) ∧ w'.cell? ⟨b, 1, none⟩ = some (.int .i64 g) ∧ w'.cell? ⟨b, 2, none⟩ = some (.int .i64 s) ∧ w'.cell? ⟨b, 3, none⟩ = some (.bool key) ∧ w'.cell? ⟨b, 4, none⟩ = some (.string body) ∧ w'.cell? ⟨b, 5, none⟩ = some (.string path) ∧ w'.cell? ⟨b, 6, none⟩ = some (.int .i64 n) ∧ w'.cell? ⟨b, 7, none⟩ = some (.int .i64 c)) := Lib.hid (fun w' hf => ⟨(HB.out.fr0 hf).cell 0, (HB.out.fr0 hf).cell 1, (HB.out.fr0 hf).cell 2, (HB.out.fr0 hf).cell 3, (HB.out.fr0 hf).cell 4, (HB.out.fr0 hf).cell 5, (HB.out.fr0 hf).cell 6, (HB.out.fr0 hf).cell 7⟩)
  have hk0 := Fr.refl noneOf W
  (go_region_held3 (fun w' => (w'.cell? ⟨b, 0, none⟩ = some (.int .i64 k) ∧ w'.cell? ⟨b, 1, none⟩ = some (.int .i64 g) ∧ w'.cell? ⟨b, 2, none⟩ = some (.int .i64 s) ∧ w'.cell? ⟨b, 3, none⟩ = some (.bool key) ∧ w'.cell? ⟨b, 4, none⟩ = some (.string body) ∧ w'.cell? ⟨b, 5, none⟩ = some (.string path) ∧ w'.cell? ⟨b, 6, none⟩ = some (.int .i64 n) ∧ w'.cell? ⟨b, 7, none⟩ = some (.int .i64 c)) ∧ Fr noneOf W w')
    (first | exact ⟨HCL.out _ hk, hk⟩ | exact ⟨HCL.out _ hk0.drew, hk0.drew⟩)
    (first
      | (go_at_call 39; go_split_ands; (with_reducible refine (HO.out _).mono ?_); rintro e wk ⟨rfl, hf⟩; have hk := Fr.trans (S := noneOf) (a := W) (by assumption) hf)
      | (go_at_call 40; go_split_ands; (with_reducible refine (HP.out _).mono ?_); rintro e wk ⟨rfl, hf⟩; have hk := Fr.trans (S := noneOf) (a := W) (by assumption) hf)
      | (go_at_call 38; go_split_ands; (with_reducible refine (within_yes n 15 _ HN.out.1 HN.out.2).mono ?_); rintro e wk ⟨rfl, rfl⟩; have hk := (by assumption : Fr noneOf W _))
      | (go_at_call 38; go_split_ands; (with_reducible refine (within_yes c 1048576 _ HC.out.1 HC.out.2).mono ?_); rintro e wk ⟨rfl, rfl⟩; have hk := (by assumption : Fr noneOf W _))))
  all_goals
    obtain ⟨c0, c1, c2, c3, c4, c5, c6, c7⟩ := HCL.out _ hk
    have hbw := (HB.out.fr0 hk).lt
    have hne : (k == 5) = false := by simpa using HF.out.1
    go_wp2_with (go_at_call 42; (with_reducible refine (fcheck_no g s key body _ HF.out.2).mono ?_); rintro e w2 ⟨rfl, hf2⟩)
    go_ret
    exact ⟨rfl, (HFW.out.trans hk).trans hf2⟩
end Go.Proofs.YtblnmghbcgbgdaaDoor
