/-
  slices.Delete of one packet of a row of the call's own.
  Conditions: the index lies within.
-/
import Derived.Test.YtblnmghbcgbgdaaPk
import Derived.Lib.SliceRun
import Derived.Deep.RegionLaw
namespace Go.Proofs.Ytblnmghbcgbgdaa
open Go.RowKit Go.Lib
set_option linter.unusedVariables false

theorem clear_packet (w : World) (g o c : Nat) (ty : TypeId) (hc : ∀ j, j < 3 → (w.cell? ⟨g, o + j, none⟩).isSome = true) (hf : ∀ j, j < 3 → w.frozen? ⟨g, o + j, none⟩ = false) :
    (Builtin.clear_ #[43] ty #[.slice (some ⟨g, o, none⟩) 1 c]).run Try.prog w = .ok (.tuple #[]) (w.setCells g o [.int .i64 0, .int .i64 0, .string ⟨#[]⟩]) := by
  have hst := run_storeCells_cells (P := Try.prog) g o [.int .i64 0, .int .i64 0, .string ⟨#[]⟩] 0 w (by simpa using hc) (by simpa using hf) (by intro v hv; simp at hv; rcases hv with rfl | rfl | rfl <;> rfl)
  simp only [Nat.add_zero] at hst
  have hz : (Builtin.zeroCells (Value.agg #[.int .i64 0, .int .i64 0, .string ⟨#[]⟩]).cells 1).toList = [.int .i64 0, .int .i64 0, .string ⟨#[]⟩] := by
    simp [Builtin.zeroCells, Value.cells, List.range, List.range.loop]
  simp [Builtin.clear_, run_underlying Try.underlying43, hz, hst]
set_option maxHeartbeats 4000000 in
theorem delete_pk (g cap : Nat) (cur : Array Value) (L : List Pk) (i j : Nat) (w : World) (hg : w.heap[g]? = some (.cells cur 27 (0, 0))) (hnc : L.length ≤ cap) (hcap : cap ≤ maxLen) (hsz : cur.size = cap * 3) (hps : cur.toList.take (L.length * 3) = pkCells L) (hj : Hid (j = i + 1)) (hi : j ≤ L.length) :
    Calls Try.prog 22 #[.slice (some ⟨g, 0, none⟩) L.length cap, .int .i64 i, .int .i64 j] w fun e w' => e = .returned (.slice (some ⟨g, 0, none⟩) (L.length - 1) cap) ∧ (∃ cur', w'.heap[g]? = some (.cells cur' 27 (0, 0)) ∧ cur'.size = cap * 3 ∧ cur'.toList.take ((L.length - 1) * 3) = pkCells (L.eraseIdx i)) ∧ Fr (justOf g) w w' := by
  have hij : i < j := by have := hj.out; omega
  unfold maxLen at hcap
  obtain ⟨n, hn⟩ : ∃ n, n = L.length := ⟨_, rfl⟩
  rw [← hn] at hnc hps hi ⊢
  obtain ⟨news, hnews⟩ : ∃ news, news = pkCells (L.drop j) := ⟨_, rfl⟩
  have hlen : news.length = (n - j) * 3 := by rw [hnews, pkCells_len]; simp [hn]
  have hcell : ∀ k, k < cap * 3 → w.cell? ⟨g, k, none⟩ = cur[k]? := fun k _ => cell_of_row w g k cur _ (0, 0) hg
  have hcurL : ∀ k, k < n * 3 → cur[k]? = (pkCells L)[k]? := fun k hk => by rw [← hps, List.getElem?_take, if_pos hk]; simp
  obtain ⟨A, hA, hsrc⟩ : ∃ A : Addr, (if cap = j then (some ⟨g, 0, none⟩ : Option Addr) else some ⟨g, j * 3, none⟩) = some A ∧ Hid (∀ t u, news[t]? = some u → w.drew.cell? (A.add t) = some u) := by
    by_cases h : cap = j
    · refine ⟨⟨g, 0, none⟩, by simp [h], fun t u hu => ?_⟩
      have h0 : news.length = 0 := by rw [hlen]; omega
      rw [List.length_eq_zero_iff.1 h0] at hu
      simp at hu
    · refine ⟨⟨g, j * 3, none⟩, by simp [h], fun t u hu => ?_⟩
      have ht : t < (n - j) * 3 := by
        have := (List.getElem?_eq_some_iff.1 hu).1
        rwa [hlen] at this
      have ha : (⟨g, j * 3, none⟩ : Addr).add t = ⟨g, j * 3 + t, none⟩ := by unfold Addr.add; split <;> simp_all
      rw [ha]
      refine (hcell _ (by omega)).trans ?_
      rw [hcurL _ (by omega), ← hu, hnews, ← pkCells_drop, List.getElem?_drop]
  have s2 : Hid (∀ u ∈ news, u.oneCell' = true) := by rw [hnews]; exact pkCells_one _
  have s3 : Hid (∀ t, t < news.length → (w.drew.cell? ⟨g, 0 + i * 3 + t, none⟩).isSome = true ∧ w.drew.frozen? ⟨g, 0 + i * 3 + t, none⟩ = false) := by
    intro t ht
    rw [hlen] at ht
    rw [Nat.zero_add]
    refine ⟨?_, frozen_of_row w g _ cur _ hg⟩
    show (w.cell? _).isSome = true
    rw [hcell _ (by omega)]
    have : i * 3 + t < cur.size := by omega
    simp [this]
  have s1 : Hid (news.length = (n - j) * 3) := hlen
  obtain ⟨W1, hW1⟩ : ∃ W1, W1 = w.drew.setCells g (0 + i * 3) news := ⟨_, rfl⟩
  obtain ⟨c1, hg1, hs1, hl1⟩ := heap_setCells_same g 27 news (0 + i * 3) w.drew cur hg (by omega)
  rw [← hW1] at hg1
  have hcl : ∀ ty, (Builtin.clear_ #[43] ty #[.slice (some ⟨g, (i + (n - j)) * 3, none⟩) 1 (cap - (i + (n - j)))]).run Try.prog W1 = .ok (.tuple #[]) (W1.setCells g ((i + (n - j)) * 3) [.int .i64 0, .int .i64 0, .string ⟨#[]⟩]) := fun ty =>
    clear_packet W1 g _ _ ty (fun t ht => by rw [cell_of_row _ _ _ _ _ _ hg1]; have : (i + (n - j)) * 3 + t < c1.size := by omega
                                             simp [this]) (fun t ht => frozen_of_row _ _ _ _ _ hg1)
  have hW : Hid (W1 = w.drew.setCells g (0 + i * 3) news) := hW1
  have hic : i ≤ cap := by omega
  have hjc : j ≤ cap := by omega
  have FIN : Hid (∃ cur', (W1.setCells g ((i + (n - j)) * 3) [.int .i64 0, .int .i64 0, .string ⟨#[]⟩]).heap[g]? = some (.cells cur' 27 (0, 0)) ∧ cur'.size = cap * 3 ∧ cur'.toList.take ((n - 1) * 3) = pkCells (L.eraseIdx i)) := by
    obtain ⟨c2, hg2, hs2, hl2⟩ := heap_setCells_same g 27 [.int .i64 0, .int .i64 0, .string ⟨#[]⟩] ((i + (n - j)) * 3) W1 c1 hg1 (by simp; omega)
    refine ⟨c2, hg2, by omega, ?_⟩
    have hn1 : n - 1 = i + (n - j) := by have := hj.out; omega
    rw [hl2, hn1, List.append_assoc, List.take_append_of_le_length (by simp; omega), List.take_take, Nat.min_self, hl1, Nat.zero_add, List.append_assoc, ← List.append_assoc, List.take_append_of_le_length (by simp; omega), List.take_of_length_le (by simp; omega)]
    have e1 : cur.toList.take (i * 3) = pkCells (L.take i) := by rw [← pkCells_take, ← hps, List.take_take, Nat.min_eq_left (by omega)]
    rw [e1, hnews, hj.out, ← pkCells_append, eraseIdx_parts]
  have HFR : Hid (Fr (justOf g) w (W1.setCells g ((i + (n - j)) * 3) [.int .i64 0, .int .i64 0, .string ⟨#[]⟩])) := by
    rw [hW1]
    exact Fr.setCells (S := justOf g) g (.inl rfl) _ _ _ (Fr.setCells (S := justOf g) g (.inl rfl) _ _ _ (Fr.refl (justOf g) w).drew)
  have hne : ((i : Int) == (j : Int)) = false := by simp; omega
  have hnn : n - (i + (n - j)) = 1 := by have := hj.out; omega
  have hnn' : n - 1 = i + (n - j) := by have := hj.out; omega
  rw [hnn'] at FIN ⊢
  clear hW1 hg1 hnews hlen hcell hcurL hs1 hl1 hg hps hsz hn
  go_enter Try.func22, Try.ntmps22
  go_wp2_with fail
  obtain ⟨i0, hi0, hz0, hz1, hz2⟩ := info_parts packet_info
  go_region_law (refine step_append_room rfl (.tmp 22) (.tmp 25) 43 rfl 27 i0 3 Try.underlying43 hi0 hz1 g 0 i cap (by simp [Act.eval, Act.put]) A (n - j) (cap - j) news (by simp [Act.eval, Act.put]) s1.out hsrc.out s2.out (by omega) s3.out ?_; rw [← hW.out])
  go_wp2
  go_ret
  exact ⟨rfl, FIN.out, HFR.out⟩
end Go.Proofs.Ytblnmghbcgbgdaa
