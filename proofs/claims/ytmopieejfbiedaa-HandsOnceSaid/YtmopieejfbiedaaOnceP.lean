/-
  Plain: what a table's steps keep, for HandsOnce. No program.
-/
namespace Go.Proofs.Ytmopieejfbiedaa

/-- all: what went, then what stands; most: the greatest number of each viewer; R: what was raised. -/
structure Once (all : List (Int × Int)) (most : List Int) (R : Nat → Nat → Prop) : Prop where
  len : most.length = 16
  low : ∀ h ∈ all, 0 ≤ h.1 ∧ h.1 ≤ 3 ∧ 1 ≤ h.2 ∧ h.2 ≤ 15 ∧ R h.1.toNat h.2.toNat
  rise : all.Pairwise (fun x y => x.1 = y.1 → x.2 < y.2)
  top : ∀ h ∈ all, ∀ m, most[h.1.toNat]? = some m → h.2 ≤ m

theorem Once.more {all : List (Int × Int)} {most : List Int} {R S : Nat → Nat → Prop} (h : Once all most R) (hs : ∀ v k, R v k → S v k) : Once all most S :=
  ⟨h.len, fun x hx => ⟨(h.low x hx).1, (h.low x hx).2.1, (h.low x hx).2.2.1, (h.low x hx).2.2.2.1, hs _ _ (h.low x hx).2.2.2.2⟩, h.rise, h.top⟩
theorem Once.raise {all : List (Int × Int)} {most : List Int} {R : Nat → Nat → Prop} (h : Once all most R) (v k : Nat) (m : Int) (hv : v ≤ 3) (hk : k ≤ 15) (hk1 : 1 ≤ k) (hm : most[v]? = some m) (hmk : m < (k : Int)) (hR : R v k) :
    Once (all ++ [((v : Int), (k : Int))]) (most.set v k) R := by
  refine ⟨by simp [h.len], ?_, ?_, ?_⟩
  · intro x hx
    rcases List.mem_append.1 hx with hx | hx
    · exact h.low x hx
    · simp at hx
      subst hx
      simp only [Int.toNat_natCast]
      exact ⟨by omega, by omega, by omega, by omega, hR⟩
  · rw [List.pairwise_append]
    refine ⟨h.rise, by simp, ?_⟩
    intro x hx y hy
    simp at hy
    subst hy
    intro e
    simp only at e
    have e2 : x.1.toNat = v := by omega
    have := h.top x hx m (by rw [e2]; exact hm)
    simp only
    omega
  · intro x hx q hq
    rcases List.mem_append.1 hx with hx | hx
    · by_cases e : x.1.toNat = v
      · rw [e, List.getElem?_set_self (by rw [h.len]; omega)] at hq
        cases hq
        have := h.top x hx m (by rw [e]; exact hm)
        omega
      · rw [List.getElem?_set_ne (fun z => e z.symm)] at hq
        exact h.top x hx q hq
    · simp at hx
      subst hx
      simp only [Int.toNat_natCast] at hq
      rw [List.getElem?_set_self (by rw [h.len]; omega)] at hq
      cases hq
      exact Int.le_refl _
/-- What the law's inner loops ask. -/
theorem Once.asks {all : List (Int × Int)} {most : List Int} {R : Nat → Nat → Prop} (h : Once all most R) {i j : Nat} {x y : Int × Int} (hij : i < j) (hx : all[i]? = some x) (hy : all[j]? = some y) : x ≠ y ∧ (x.1 = y.1 → ¬ x.2 > y.2) := by
  obtain ⟨hi, rfl⟩ := List.getElem?_eq_some_iff.1 hx
  obtain ⟨hj, rfl⟩ := List.getElem?_eq_some_iff.1 hy
  have := List.pairwise_iff_getElem.1 h.rise i j hi hj hij
  constructor
  · intro e
    have h1 := this (by rw [e])
    rw [e] at h1
    omega
  · intro e
    have := this e
    omega
end Go.Proofs.Ytmopieejfbiedaa
