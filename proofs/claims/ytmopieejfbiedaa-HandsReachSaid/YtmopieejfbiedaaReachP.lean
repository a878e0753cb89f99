/-
  Plain: what HandsReach's rounds keep. No program.
-/
namespace Go.Proofs.Ytmopieejfbiedaa

def lastD (l : List Int) : Int := l.getLast?.getD 0
theorem lastD_nil : lastD [] = 0 := rfl
theorem lastD_snoc (l : List Int) (x : Int) : lastD (l ++ [x]) = x := by simp [lastD]
theorem lastD_at (l : List Int) (h : 0 < l.length) : l[l.length - 1]? = some (lastD l) := by
  rw [lastD, ← List.getLast?_eq_getElem?]
  cases l with
  | nil => simp at h
  | cons a l => simp [List.getLast?_cons]
theorem take_snoc {l : List Int} {d : Nat} {x : Int} (h : l[d]? = some x) : l.take (d + 1) = l.take d ++ [x] := by
  obtain ⟨hd, rfl⟩ := List.getElem?_eq_some_iff.1 h
  rw [List.take_succ_eq_append_getElem hd]
theorem lastD_take {l : List Int} {d : Nat} {x : Int} (h : l[d]? = some x) : lastD (l.take (d + 1)) = x := by
  rw [take_snoc h, lastD_snoc]
theorem drop_at {l : List Int} {d : Nat} {x : Int} (h : l[d]? = some x) : l.drop d = x :: l.drop (d + 1) := by
  obtain ⟨hd, rfl⟩ := List.getElem?_eq_some_iff.1 h
  exact List.drop_eq_getElem_cons hd

/-- The numbers that were raised: they rise, from 1 to 63, and are 12 at most. -/
structure Want (want : List Int) (k : Nat) : Prop where
  rise : want.Pairwise (· < ·)
  low : ∀ x ∈ want, 1 ≤ x ∧ x ≤ 63
  le : want.length ≤ k

theorem Want.nil (k : Nat) : Want [] k := ⟨List.Pairwise.nil, by simp, Nat.zero_le _⟩
theorem lastD_mem {l : List Int} (h : 0 < l.length) : lastD l ∈ l := List.mem_of_getElem? (lastD_at l h)
theorem Want.bd {want : List Int} {k : Nat} (h : Want want k) : 0 ≤ lastD want ∧ lastD want ≤ 63 := by
  rcases Nat.eq_zero_or_pos want.length with h0 | h0
  · have := List.length_eq_zero_iff.1 h0
    subst this
    simp [lastD]
  · have := h.low _ (lastD_mem h0)
    omega
theorem Want.more {want : List Int} {k : Nat} (h : Want want k) : Want want (k + 1) := ⟨h.rise, h.low, by have := h.le; omega⟩
theorem Want.take_lt {want : List Int} {k d : Nat} {x : Int} (h : Want want k) (hx : want[d]? = some x) : lastD (want.take d) < x := by
  obtain ⟨hd, rfl⟩ := List.getElem?_eq_some_iff.1 hx
  rcases Nat.eq_zero_or_pos d with h0 | h0
  · subst h0
    have := h.low _ (List.getElem_mem hd)
    simp [lastD]
    omega
  · obtain ⟨e, rfl⟩ : ∃ e, d = e + 1 := ⟨d - 1, by omega⟩
    have he : want[e]? = some (want[e]'(by omega)) := List.getElem?_eq_getElem _
    rw [lastD_take he]
    exact List.pairwise_iff_getElem.1 h.rise e (e + 1) (by omega) hd (by omega)
theorem Want.snoc {want : List Int} {k : Nat} {n : Int} (h : Want want k) (h0 : 1 ≤ n) (h1 : n ≤ 63) (hl : lastD want < n) : Want (want ++ [n]) (k + 1) := by
  refine ⟨?_, ?_, by have := h.le; simp; omega⟩
  · rw [List.pairwise_append]
    refine ⟨h.rise, by simp, ?_⟩
    intro x hx y hy
    simp at hy
    subst hy
    obtain ⟨i, hi, rfl⟩ := List.getElem_of_mem hx
    have hpos : 0 < want.length := by omega
    have hla := lastD_at want hpos
    obtain ⟨hq, hq'⟩ := List.getElem?_eq_some_iff.1 hla
    by_cases e : i = want.length - 1
    · subst e
      omega
    · have := List.pairwise_iff_getElem.1 h.rise i (want.length - 1) hi hq (by omega)
      omega
  · intro x hx
    rcases List.mem_append.1 hx with hx | hx
    · exact h.low x hx
    · simp at hx
      subst hx
      omega
/-- The hands that were sent. -/
def sent (l : List Int) : List (Int × Int) := l.map (fun x => ((2 : Int), x))
theorem sent_len (l : List Int) : (sent l).length = l.length := by simp [sent]
theorem sent_snoc (l : List Int) (x : Int) : sent (l ++ [x]) = sent l ++ [(((2 : Nat) : Int), x)] := by simp [sent]
theorem sent_at {l : List Int} {i : Nat} {x : Int} (h : l[i]? = some x) : (sent l)[i]? = some ((2 : Int), x) := by simp [sent, h]
/-- What is left to do, in rounds. -/
def left (N k n d : Nat) : Nat := 2 * (N - k) + (n - d)
end Go.Proofs.Ytmopieejfbiedaa
