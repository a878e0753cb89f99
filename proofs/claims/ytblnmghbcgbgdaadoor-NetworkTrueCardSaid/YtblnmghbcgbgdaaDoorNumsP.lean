/-
  Plain mathematics of chapter 3's numbers (no program in sight): a number's fold, its bytes; bytes of rows of numbers; lengths.
  Conditions: none.
-/
namespace Go.Proofs.YtblnmghbcgbgdaaDoor.Nums

/-- A number without a sign. -/
def fold (n : Int) : Nat := if 0 ≤ n then (2 * n).toNat else (-2 * n - 1).toNat
/-- The bytes of a number without a sign. -/
def enc (u : Nat) : List UInt8 := if h : u < 128 then [UInt8.ofNat u] else UInt8.ofNat (u % 128 + 128) :: enc (u / 128)
termination_by u
decreasing_by omega
def put (l : List Int) : List UInt8 := l.flatMap fun n => enc (fold n)
def putText (l : List UInt8) : List UInt8 := enc (fold l.length) ++ l

theorem enc_lt {u : Nat} (h : u < 128) : enc u = [UInt8.ofNat u] := by rw [enc, dif_pos h]
theorem enc_ge {u : Nat} (h : 128 ≤ u) : enc u = UInt8.ofNat (u % 128 + 128) :: enc (u / 128) := by rw [enc, dif_neg (by omega)]
theorem fold_lt {n : Int} (h0 : -9223372036854775808 ≤ n) (h1 : n ≤ 9223372036854775807) : fold n < 18446744073709551616 := by
  unfold fold; split <;> omega
theorem put_nil : put [] = [] := rfl
theorem put_snoc (l : List Int) (n : Int) : put (l ++ [n]) = put l ++ enc (fold n) := by simp [put]
theorem put_append (l m : List Int) : put (l ++ m) = put l ++ put m := by simp [put]
theorem put_one (n : Int) : put [n] = enc (fold n) := by simp [put]

theorem enc_len (k : Nat) : ∀ u, u < 128 ^ (k + 1) → (enc u).length ≤ k + 1 := by
  induction k with
  | zero => intro u h; rw [enc_lt (by simpa using h)]; simp
  | succ k ih =>
    intro u h
    by_cases hu : u < 128
    · rw [enc_lt hu]; simp
    · rw [enc_ge (by omega), List.length_cons]
      have : u / 128 < 128 ^ (k + 1) := by
        rw [Nat.div_lt_iff_lt_mul (by omega)]
        rw [Nat.pow_succ] at h
        exact h
      have := ih _ this
      omega
theorem enc_len10 (u : Nat) (h : u < 18446744073709551616) : (enc u).length ≤ 10 := enc_len 9 u (by omega)
theorem enc_pos (u : Nat) : 0 < (enc u).length := by
  by_cases h : u < 128
  · rw [enc_lt h]; simp
  · rw [enc_ge (by omega)]; simp
theorem put_len (l : List Int) (h : ∀ n ∈ l, -9223372036854775808 ≤ n ∧ n ≤ 9223372036854775807) : (put l).length ≤ 10 * l.length := by
  induction l with
  | nil => simp [put]
  | cons n l ih =>
    have h1 := enc_len10 (fold n) (fold_lt (h n (by simp)).1 (h n (by simp)).2)
    have h2 := ih (fun m hm => h m (by simp [hm]))
    have e : put (n :: l) = enc (fold n) ++ put l := by simp [put]
    rw [e, List.length_append, List.length_cons]
    omega
theorem enc_mono : ∀ v u, u ≤ v → (enc u).length ≤ (enc v).length := by
  intro v
  induction v using Nat.strongRecOn with
  | _ v ih =>
    intro u h
    by_cases hv : v < 128
    · rw [enc_lt hv, enc_lt (by omega)]; simp
    · by_cases hu : u < 128
      · rw [enc_lt hu]; have := enc_pos v; simp; omega
      · rw [enc_ge (u := v) (by omega), enc_ge (u := u) (by omega), List.length_cons, List.length_cons]
        have := ih (v / 128) (by omega) (u / 128) (Nat.div_le_div_right h)
        omega
theorem enc_pair : ∀ x, (enc (2 * x)).length = (enc (2 * x + 1)).length := by
  intro x
  by_cases h : 2 * x < 128
  · rw [enc_lt h, enc_lt (by omega)]; simp
  · rw [enc_ge (u := 2 * x) (by omega), enc_ge (u := 2 * x + 1) (by omega), List.length_cons, List.length_cons, show (2 * x + 1) / 128 = (2 * x) / 128 from by omega]
theorem fold_nonneg (n : Nat) : fold (n : Int) = 2 * n := by unfold fold; rw [if_pos (by omega)]; omega
theorem fold_neg (n : Nat) : fold (-(n : Int) - 1) = 2 * n + 1 := by unfold fold; rw [if_neg (by omega)]; omega
theorem put_mono {x y : Nat} (h : x ≤ y) : (put [(x : Int)]).length ≤ (put [(y : Int)]).length := by
  rw [put_one, put_one, fold_nonneg, fold_nonneg]
  exact enc_mono _ _ (by omega)
theorem put_mirror (x : Nat) : (put [(x : Int)]).length = (put [-(x : Int) - 1]).length := by
  rw [put_one, put_one, fold_nonneg, fold_neg, enc_pair]
theorem putText_nil : putText [] = put [0] := by simp [putText, put_one]
end Go.Proofs.YtblnmghbcgbgdaaDoor.Nums
