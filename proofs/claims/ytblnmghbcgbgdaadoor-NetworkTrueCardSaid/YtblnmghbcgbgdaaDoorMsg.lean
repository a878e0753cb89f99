/-
  Messages as data; their bytes; two messages of the same bytes are one.
  Conditions: none.
-/
import Derived.Test.YtblnmghbcgbgdaaDoorNumsR
namespace Go.Proofs.YtblnmghbcgbgdaaDoor
open Go.RowKit Nums
set_option linter.unusedVariables false
set_option linter.unusedSimpArgs false

/-- A message that may be. -/
inductive Ms where
  | bare (k : Int)
  | path (k : Int) (p : List UInt8)
  | refuse (n : Nat)
  | alive (g s : Int) (key : Bool)
  | frame (g s : Nat) (key : Bool) (body : List UInt8)
  | hand (k : Int) (p : List UInt8) (n c : Nat)
def Ms.val : Ms → Array Value
  | .bare k => #[.int .i64 k, .int .i64 0, .int .i64 0, .bool false, .string ⟨#[]⟩, .string ⟨#[]⟩, .int .i64 0, .int .i64 0]
  | .path k p => #[.int .i64 k, .int .i64 0, .int .i64 0, .bool false, .string ⟨#[]⟩, .string ⟨p.toArray⟩, .int .i64 0, .int .i64 0]
  | .refuse n => #[.int .i64 3, .int .i64 0, .int .i64 0, .bool false, .string ⟨#[]⟩, .string ⟨#[]⟩, .int .i64 n, .int .i64 0]
  | .alive g s key => #[.int .i64 5, .int .i64 g, .int .i64 s, .bool key, .string ⟨#[]⟩, .string ⟨#[]⟩, .int .i64 0, .int .i64 0]
  | .frame g s key b => #[.int .i64 6, .int .i64 g, .int .i64 s, .bool key, .string ⟨b.toArray⟩, .string ⟨#[]⟩, .int .i64 0, .int .i64 0]
  | .hand k p n c => #[.int .i64 k, .int .i64 0, .int .i64 0, .bool false, .string ⟨#[]⟩, .string ⟨p.toArray⟩, .int .i64 n, .int .i64 c]
def big (r : Nat) : Bool := decide (16 ≤ r)
/-- A path that may be. -/
def pathL (p : List UInt8) : Prop := p.length ≤ 16 ∧ Lib.idxFunc big true ⟨p.toArray⟩ < 0
def Ms.ok : Ms → Prop
  | .bare k => k = 1 ∨ k = 7
  | .path k p => (k = 2 ∨ k = 4) ∧ pathL p
  | .refuse n => n ≤ 15
  | .alive g s _ => (-1 ≤ g ∧ g ≤ 1073741824) ∧ -1 ≤ s ∧ s ≤ 1073741824
  | .frame g s _ b => g ≤ 1073741824 ∧ s ≤ 1073741824 ∧ b.length ≤ 80
  | .hand k p n c => (k = 8 ∨ k = 9) ∧ pathL p ∧ n ≤ 15 ∧ c ≤ 1048576
def flag (b : Bool) : Int := if b then 1 else 0
def Ms.kd : Ms → Int
  | .bare k => k
  | .path k _ => k
  | .refuse _ => 3
  | .alive _ _ _ => 5
  | .frame _ _ _ _ => 6
  | .hand k _ _ _ => k
def Ms.rest : Ms → List UInt8
  | .bare _ => []
  | .path _ p => putText p
  | .refuse n => put [(n : Int)]
  | .alive g s key => put [g, s, flag key]
  | .frame g s key b => put [(g : Int), (s : Int), flag key] ++ putText b
  | .hand _ p n c => put [(n : Int), (c : Int)] ++ putText p
def Ms.enc (m : Ms) : List UInt8 := put [m.kd] ++ m.rest
theorem enc_split : ∀ (u v : Nat) (r t : List UInt8), enc u ++ r = enc v ++ t → u = v ∧ r = t := by
  intro u
  induction u using Nat.strongRecOn with
  | _ u ih =>
    intro v r t h
    by_cases hu : u < 128
    · by_cases hv : v < 128
      · rw [enc_lt hu, enc_lt hv] at h
        simp only [List.singleton_append, List.cons.injEq] at h
        obtain ⟨h1, h2⟩ := h
        have := congrArg UInt8.toNat h1
        rw [UInt8.toNat_ofNat', UInt8.toNat_ofNat'] at this
        exact ⟨by omega, h2⟩
      · rw [enc_lt hu, enc_ge (u := v) (by omega)] at h
        simp only [List.singleton_append, List.cons_append, List.cons.injEq] at h
        have := congrArg UInt8.toNat h.1
        rw [UInt8.toNat_ofNat', UInt8.toNat_ofNat'] at this
        omega
    · by_cases hv : v < 128
      · rw [enc_lt hv, enc_ge (u := u) (by omega)] at h
        simp only [List.singleton_append, List.cons_append, List.cons.injEq] at h
        have := congrArg UInt8.toNat h.1
        rw [UInt8.toNat_ofNat', UInt8.toNat_ofNat'] at this
        omega
      · rw [enc_ge (u := u) (by omega), enc_ge (u := v) (by omega)] at h
        simp only [List.cons_append, List.cons.injEq] at h
        obtain ⟨h1, h2⟩ := h
        have := congrArg UInt8.toNat h1
        rw [UInt8.toNat_ofNat', UInt8.toNat_ofNat'] at this
        obtain ⟨h3, h4⟩ := ih (u / 128) (by omega) (v / 128) r t h2
        exact ⟨by omega, h4⟩
theorem fold_inj {m n : Int} (h : fold m = fold n) : m = n := by
  unfold fold at h
  split at h <;> split at h <;> omega
theorem put_split {m n : Int} {l k : List Int} {r t : List UInt8} (h : put (m :: l) ++ r = put (n :: k) ++ t) : m = n ∧ put l ++ r = put k ++ t := by
  have e : ∀ (x : Int) (y : List Int), put (x :: y) = enc (fold x) ++ put y := fun x y => by simp [put]
  rw [e, e, List.append_assoc, List.append_assoc] at h
  obtain ⟨h1, h2⟩ := enc_split _ _ _ _ h
  exact ⟨fold_inj h1, h2⟩
theorem putText_split {p q : List UInt8} (h : putText p = putText q) : p = q := by
  unfold putText at h
  exact (enc_split _ _ _ _ h).2
theorem flag_inj {a b : Bool} (h : flag a = flag b) : a = b := by cases a <;> cases b <;> simp_all [flag]
theorem put_nil_app (r : List UInt8) : put [] ++ r = r := rfl
theorem put_inj3 {a b c x y z : Int} {r t : List UInt8} (h : put [a, b, c] ++ r = put [x, y, z] ++ t) : a = x ∧ b = y ∧ c = z ∧ r = t := by
  obtain ⟨h1, h⟩ := put_split h
  obtain ⟨h2, h⟩ := put_split h
  obtain ⟨h3, h⟩ := put_split h
  exact ⟨h1, h2, h3, h⟩
theorem put_inj2 {a b x y : Int} {r t : List UInt8} (h : put [a, b] ++ r = put [x, y] ++ t) : a = x ∧ b = y ∧ r = t := by
  obtain ⟨h1, h⟩ := put_split h
  obtain ⟨h2, h⟩ := put_split h
  exact ⟨h1, h2, h⟩
theorem ms_inj (x y : Ms) (hx : x.ok) (hy : y.ok) (h : x.enc = y.enc) : x = y := by
  obtain ⟨hk, hr⟩ := put_split h
  have hr : x.rest = y.rest := hr
  cases x with
  | bare k =>
    cases y <;> simp only [Ms.ok, Ms.kd] at hx hy hk <;> first | (exfalso; omega) | (subst hk; rfl)
  | path k p =>
    cases y <;> simp only [Ms.ok, Ms.kd] at hx hy hk <;> first | (exfalso; omega) | (subst hk; rw [putText_split hr])
  | refuse n =>
    cases y <;> simp only [Ms.ok, Ms.kd] at hx hy hk <;> first | (exfalso; omega) | skip
    have := put_split (r := []) (t := []) (l := []) (k := []) (by simpa [Ms.rest] using hr)
    rw [show n = _ from Int.ofNat.inj this.1]
  | alive g s key =>
    cases y <;> simp only [Ms.ok, Ms.kd] at hx hy hk <;> first | (exfalso; omega) | skip
    obtain ⟨h1, h2, h3, _⟩ := put_inj3 (r := []) (t := []) (by simpa [Ms.rest] using hr)
    rw [h1, h2, flag_inj h3]
  | frame g s key b =>
    cases y <;> simp only [Ms.ok, Ms.kd] at hx hy hk <;> first | (exfalso; omega) | skip
    obtain ⟨h1, h2, h3, h4⟩ := put_inj3 hr
    rw [show g = _ from Int.ofNat.inj h1, show s = _ from Int.ofNat.inj h2, flag_inj h3, putText_split h4]
  | hand k p n c =>
    cases y <;> simp only [Ms.ok, Ms.kd] at hx hy hk <;> first | (exfalso; omega) | skip
    obtain ⟨h1, h2, h4⟩ := put_inj2 hr
    subst hk
    rw [show n = _ from Int.ofNat.inj h1, show c = _ from Int.ofNat.inj h2, putText_split h4]
theorem flag_range (b : Bool) : 0 ≤ flag b ∧ flag b ≤ 1 := by cases b <;> simp [flag]
theorem ms_len (m : Ms) (h : m.ok) : m.enc.length ≤ 140 ∧ 1 ≤ m.enc.length := by
  have h1 : ∀ n : Int, -9223372036854775808 ≤ n → n ≤ 9223372036854775807 → (enc (fold n)).length ≤ 10 := fun n a b => enc_len10 _ (fold_lt a b)
  have h0 : ∀ n : Int, 1 ≤ (enc (fold n)).length := fun n => enc_pos _
  have hk := h0 m.kd
  have e : m.enc = enc (fold m.kd) ++ m.rest := by simp [Ms.enc, put]
  rw [e, List.length_append]
  cases m <;> simp only [Ms.ok, Ms.kd, Ms.rest, put, putText, List.flatMap_cons, List.flatMap_nil, List.length_append, List.length_nil, pathL] at h hk ⊢
  case bare k => have := h1 k (by omega) (by omega); omega
  case path k p => have := h1 k (by omega) (by omega); have := h1 (p.length : Int) (by omega) (by omega); omega
  case refuse n => have := h1 3 (by omega) (by omega); have := h1 (n : Int) (by omega) (by omega); omega
  case alive g s key => have := h1 5 (by omega) (by omega); have := h1 g (by omega) (by omega); have := h1 s (by omega) (by omega); have := h1 (flag key) (by have := flag_range key; omega) (by have := flag_range key; omega); omega
  case frame g s key b => have := h1 6 (by omega) (by omega); have := h1 (g : Int) (by omega) (by omega); have := h1 (s : Int) (by omega) (by omega); have := h1 (flag key) (by have := flag_range key; omega) (by have := flag_range key; omega); have := h1 (b.length : Int) (by omega) (by omega); omega
  case hand k p n c => have := h1 k (by omega) (by omega); have := h1 (n : Int) (by omega) (by omega); have := h1 (c : Int) (by omega) (by omega); have := h1 (p.length : Int) (by omega) (by omega); omega
end Go.Proofs.YtblnmghbcgbgdaaDoor
