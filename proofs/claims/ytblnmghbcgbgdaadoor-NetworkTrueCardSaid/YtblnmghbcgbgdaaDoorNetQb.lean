/-
  A network of packets: Send where there is no room, Take, Copy; the network whose packets are known one by one.
  Conditions: none.
-/
import Derived.Test.YtblnmghbcgbgdaaDoorNetPut
import Derived.Deep.DeepCutAuto
import Derived.Deep.RegionLaw
import Derived.Deep.AppendLies
import Derived.Lib.SliceRun
import Derived.Deep.RegionHeld3
import Derived.StillTailTactics
namespace Go.Proofs.YtblnmghbcgbgdaaDoor
open Go.RowKit
set_option linter.unusedVariables false

theorem net_full {base : Nat} {room lost : Int} {n : Nat} {ps : List Value} {f : Int → Int → Int} {b : Nat} (x y : Int) (s : ByteArray) {w : World} (h : Nt base room lost n ps f b w) (hx : I64 x) (hy : I64 y) (hs : s.size ≤ 9223372036854775807) (hm : mayBe x y s.size = true) (hroom : room ≤ f x y) (hlo : -9223372036854775808 ≤ lost) (hl1 : lost ≤ 9223372036854775806) :
    Calls Tryd.prog 19 #[.pointer (some ⟨b, 0, none⟩), .agg #[.int .i64 x, .int .i64 y, .string s]] w fun e w' => e = .returned (.bool false) ∧ Nt base room (lost + 1) n ps f b w' ∧ Fr (justOf b) w w' := by
  have HM : Hid (∀ w, Calls Tryd.prog 48 #[.agg #[.int .i64 x, .int .i64 y, .string s]] w fun e w' => e = .returned (.bool true) ∧ Fr noneOf w w') := Lib.hid (fun w => by
    have := may_any x y s w hs
    rw [hm] at this
    exact this)
  have HBX := Lib.hid (Blk.new w 53 #[.int .i64 x, .int .i64 y, .string s])
  have H := Lib.hid h
  have HXY := Lib.hid (And.intro hx hy)
  have HR := Lib.hid hroom
  clear h hx hy hs hm hroom
  go_enter Tryd.func19, Tryd.ntmps19
  go_upto_region 4 with (go_at_call 48; refine (HM.out _).mono ?_; rintro e w1 ⟨rfl, hf1⟩; have d0 : w1.cell? ⟨w.heap.size, 0, none⟩ = some (.int .i64 x) := (HBX.out.fr0 hf1).cell 0; have d1 : w1.cell? ⟨w.heap.size, 1, none⟩ = some (.int .i64 y) := (HBX.out.fr0 hf1).cell 1)
  have hf4 := Lib.hid ((((Fr.refl noneOf w).alloc (.cells #[.int .i64 x, .int .i64 y, .string s] 53)).trans hf1).alloc (.cells #[.int .i64 x, .int .i64 y] 94))
  have HBK := Lib.hid (Blk.new w1 94 #[.int .i64 x, .int .i64 y])
  have hl1 : w.heap.size < w1.heap.size := by have := hf1.size; simp at this; omega
  obtain ⟨k0, hk0⟩ : ∃ k0, k0 = w1.heap.size := ⟨_, rfl⟩
  rw [← hk0] at HBK hl1
  obtain ⟨W, hW⟩ : ∃ W, W = w1.alloc (.cells #[.int .i64 x, .int .i64 y] 94) := ⟨_, rfl⟩
  rw [← hW] at hf4 HBK
  rw [← hk0, ← hW]
  obtain ⟨v, g, hB, hL, hO, h1, h2, h3, h4, h5⟩ := H.out
  obtain ⟨A, c, rfl, hnc, hzA, hAb⟩ := row_form hO
  have HOW := Lib.hid hO
  have HLW := Lib.hid hL
  have HBW := Lib.hid hB
  have HNE := Lib.hid (And.intro h3 (And.intro h4 h5))
  have HBI := Lib.hid (And.intro h1 h2)
  have HB := Lib.hid (hB.fr0 hf4.out)
  have HL := Lib.hid (lk_fr hL hf4.out (fun x => x))
  have hgw : g < w.heap.size := by obtain ⟨_, _, hg, _⟩ := hL; exact (Array.getElem?_eq_some_iff.1 hg).1
  have hbw' : b < w.heap.size := hB.lt
  have HBXW : Hid (Blk W w.heap.size 53 #[.int .i64 x, .int .i64 y, .string s]) := Lib.hid (by rw [hW]; exact (HBX.out.fr0 hf1).alloc _)
  clear hk0 hW d0 d1 hf1 hnc hzA hAb
  have c0 : W.cell? ⟨b, 0, none⟩ = some (.int .i64 room) := HB.out.cell 0
  have c2 : W.cell? ⟨b, 2, none⟩ = some (.map (some g)) := HB.out.cell 2
  have k1 : W.cell? ⟨k0, 0, none⟩ = some (.int .i64 x) := HBK.out.cell 0
  have k2 : W.cell? ⟨k0, 1, none⟩ = some (.int .i64 y) := HBK.out.cell 1
  have r1 := HL.out.run HXY.out.1 HXY.out.2
  have r2 := Lk.run (w := W.drew) HL.out HXY.out.1 HXY.out.2
  obtain ⟨F, hF⟩ : ∃ F, F = f x y := ⟨_, rfl⟩
  have hFr : room ≤ F := by rw [hF]; exact HR.out
  rw [← hF] at r1 r2
  have HFF := Lib.hid hF
  have c3 : W.cell? ⟨b, 3, none⟩ = some (.int .i64 lost) := HB.out.cell 3
  have f3 : W.frozen? ⟨b, 3, none⟩ = false := HB.out.frozen 3
  clear hF hB hL hO h1 h2 h3 h4 h5
  go_region
  all_goals
    go_wp2
    go_ret
    have q : Fr noneOf w W.drew := hf4.out.drew
    have hst : ∀ u, Fr (justOf b) W.drew (W.drew.setCell ⟨b, 3, none⟩ u) := fun u => Fr.put b 3 u (Fr.refl (justOf b) W.drew)
    have qq : ∀ u, Fr (justOf b) w (W.drew.setCell ⟨b, 3, none⟩ u) := fun u => (Fr.of0 _ q).trans (hst u)
    exact ⟨rfl, ⟨_, g, (HB.out.drew).set_ 3 _, lk_fr HLW.out (qq _) HNE.out.1, ownsRow_frS HOW.out (qq _) (fun z hz e => HNE.out.2.1 (by rw [hz, show z = b from e])), HBI.out.1, HBI.out.2, HNE.out.1, HNE.out.2.1, HNE.out.2.2⟩, qq _⟩
end Go.Proofs.YtblnmghbcgbgdaaDoor

namespace Go.Proofs.YtblnmghbcgbgdaaDoor
open Go.RowKit
set_option linter.unusedVariables false

/-- A packet: from, to, its bytes. -/
structure Pk where
  x : Int
  y : Int
  s : ByteArray
def Pk.cells (p : Pk) : List Value := [.int .i64 p.x, .int .i64 p.y, .string p.s]
def pkCells (L : List Pk) : List Value := L.flatMap Pk.cells
theorem pkCells_nil : pkCells [] = [] := rfl
theorem pkCells_cons (p : Pk) (L : List Pk) : pkCells (p :: L) = p.cells ++ pkCells L := rfl
theorem pkCells_append (L M : List Pk) : pkCells (L ++ M) = pkCells L ++ pkCells M := by simp [pkCells]
theorem pkCells_snoc (L : List Pk) (x y : Int) (s : ByteArray) : pkCells (L ++ [⟨x, y, s⟩]) = pkCells L ++ [.int .i64 x, .int .i64 y, .string s] := by rw [pkCells_append]; rfl
theorem pkCells_len (L : List Pk) : (pkCells L).length = L.length * 3 := by
  induction L with
  | nil => rfl
  | cons a L ih => rw [pkCells_cons, List.length_append, ih]; simp [Pk.cells]; omega
theorem pkCells_take (L : List Pk) (i : Nat) : (pkCells L).take (i * 3) = pkCells (L.take i) := by
  induction L generalizing i with
  | nil => simp [pkCells]
  | cons a L ih =>
    cases i with
    | zero => simp [pkCells]
    | succ i =>
      rw [pkCells_cons, List.take_succ_cons, pkCells_cons, show (i + 1) * 3 = a.cells.length + i * 3 by simp [Pk.cells]; omega, List.take_length_add_append, ih]
theorem pkCells_drop (L : List Pk) (i : Nat) : (pkCells L).drop (i * 3) = pkCells (L.drop i) := by
  induction L generalizing i with
  | nil => simp [pkCells]
  | cons a L ih =>
    cases i with
    | zero => simp
    | succ i =>
      rw [pkCells_cons, List.drop_succ_cons, show (i + 1) * 3 = a.cells.length + i * 3 by simp [Pk.cells]; omega, List.drop_length_add_append, ih]
theorem pkCells_at (L : List Pk) (i : Nat) (p : Pk) (h : L[i]? = some p) : (pkCells L)[i * 3]? = some (.int .i64 p.x) ∧ (pkCells L)[i * 3 + 1]? = some (.int .i64 p.y) ∧ (pkCells L)[i * 3 + 2]? = some (.string p.s) := by
  induction L generalizing i with
  | nil => simp at h
  | cons a L ih =>
    cases i with
    | zero => simp at h; subst h; exact ⟨rfl, rfl, rfl⟩
    | succ i =>
      have e : ∀ k, (pkCells (a :: L))[(i + 1) * 3 + k]? = (pkCells L)[i * 3 + k]? := fun k => by
        rw [pkCells_cons, List.getElem?_append_right (by simp [Pk.cells]; omega)]
        congr 1
        simp [Pk.cells]; omega
      have := ih i (by simpa using h)
      exact ⟨(e 0).trans this.1, (e 1).trans this.2.1, (e 2).trans this.2.2⟩
theorem pkCells_one (L : List Pk) : ∀ u ∈ pkCells L, u.oneCell' = true := by
  intro u hu
  simp only [pkCells, List.mem_flatMap] at hu
  obtain ⟨p, _, hp⟩ := hu
  simp [Pk.cells] at hp
  rcases hp with rfl | rfl | rfl <;> rfl
theorem eraseIdx_parts {α : Type} (L : List α) (i : Nat) : L.take i ++ L.drop (i + 1) = L.eraseIdx i := by
  induction L generalizing i with
  | nil => simp
  | cons a L ih =>
    cases i with
    | zero => simp
    | succ i => simp [ih]

/-- A block of which many cells are stored into. -/
theorem heap_setCells_same (g : Nat) (t : TypeId) : ∀ (vs : List Value) (o : Nat) (w : World) (cur : Array Value), w.heap[g]? = some (.cells cur t (0, 0)) → o + vs.length ≤ cur.size →
    ∃ cur', (w.setCells g o vs).heap[g]? = some (.cells cur' t (0, 0)) ∧ cur'.size = cur.size ∧ cur'.toList = cur.toList.take o ++ vs ++ cur.toList.drop (o + vs.length)
  | [], o, w, cur, h, _ => ⟨cur, h, rfl, by simp⟩
  | v :: vs, o, w, cur, h, hl => by
    obtain ⟨c', h1, h2, h3⟩ := heap_setCells_same g t vs (o + 1) (w.setCell ⟨g, o, none⟩ v) (cur.setIfInBounds o v) (heap_setCell_same w g o cur t v h) (by simp at hl ⊢; omega)
    refine ⟨c', h1, by simpa using h2, ?_⟩
    have ho : o < cur.size := by simp at hl; omega
    rw [h3]
    have e : (cur.setIfInBounds o v).toList = cur.toList.set o v := by simp
    rw [e, List.take_set, List.drop_set]
    rw [if_pos (by omega)]
    have ht : (cur.toList.take (o + 1)).set o v = cur.toList.take o ++ [v] := by
      rw [List.take_succ_eq_append_getElem (by simpa using ho)]
      rw [List.set_append_right _ _ (by simp; omega)]
      simp [Nat.min_eq_left (Nat.le_of_lt ho)]
    rw [ht, show o + 1 + vs.length = o + (v :: vs).length by simp; omega]
    simp
theorem Fr.setCells {S : Nat → Prop} {a : World} (g : Nat) (hp : S g ∨ a.heap.size ≤ g) : ∀ (vs : List Value) (o : Nat) (w : World), Fr S a w → Fr S a (w.setCells g o vs)
  | [], _, _, h => h
  | v :: vs, o, _, h => Fr.setCells g hp vs (o + 1) _ (h.setCell (p := ⟨g, o, none⟩) hp v)
end Go.Proofs.YtblnmghbcgbgdaaDoor

namespace Go.Proofs.YtblnmghbcgbgdaaDoor
open Go.RowKit Go.Lib
set_option linter.unusedVariables false

theorem clear_packet (w : World) (g o c : Nat) (ty : TypeId) (hc : ∀ j, j < 3 → (w.cell? ⟨g, o + j, none⟩).isSome = true) (hf : ∀ j, j < 3 → w.frozen? ⟨g, o + j, none⟩ = false) :
    (Builtin.clear_ #[88] ty #[.slice (some ⟨g, o, none⟩) 1 c]).run Tryd.prog w = .ok (.tuple #[]) (w.setCells g o [.int .i64 0, .int .i64 0, .string ⟨#[]⟩]) := by
  have hst := run_storeCells_cells (P := Tryd.prog) g o [.int .i64 0, .int .i64 0, .string ⟨#[]⟩] 0 w (by simpa using hc) (by simpa using hf) (by intro v hv; simp at hv; rcases hv with rfl | rfl | rfl <;> rfl)
  simp only [Nat.add_zero] at hst
  have hz : (Builtin.zeroCells (Value.agg #[.int .i64 0, .int .i64 0, .string ⟨#[]⟩]).cells 1).toList = [.int .i64 0, .int .i64 0, .string ⟨#[]⟩] := by
    simp [Builtin.zeroCells, Value.cells, List.range, List.range.loop]
  simp [Builtin.clear_, run_underlying Tryd.underlying88, hz, hst]
set_option maxHeartbeats 4000000 in
theorem delete_pk (g cap : Nat) (cur : Array Value) (L : List Pk) (i j : Nat) (w : World) (hg : w.heap[g]? = some (.cells cur 53 (0, 0))) (hnc : L.length ≤ cap) (hcap : cap ≤ maxLen) (hsz : cur.size = cap * 3) (hps : cur.toList.take (L.length * 3) = pkCells L) (hj : Hid (j = i + 1)) (hi : j ≤ L.length) :
    Calls Tryd.prog 51 #[.slice (some ⟨g, 0, none⟩) L.length cap, .int .i64 i, .int .i64 j] w fun e w' => e = .returned (.slice (some ⟨g, 0, none⟩) (L.length - 1) cap) ∧ (∃ cur', w'.heap[g]? = some (.cells cur' 53 (0, 0)) ∧ cur'.size = cap * 3 ∧ cur'.toList.take ((L.length - 1) * 3) = pkCells (L.eraseIdx i)) ∧ Fr (justOf g) w w' := by
  have hij : i < j := by have := hj.out; omega
  unfold maxLen at hcap
  obtain ⟨n, hn⟩ : ∃ n, n = L.length := ⟨_, rfl⟩
  rw [← hn] at hnc hps hi ⊢
  obtain ⟨news, hnews⟩ : ∃ news, news = pkCells (L.drop j) := ⟨_, rfl⟩
  have hlen : news.length = (n - j) * 3 := by rw [hnews, pkCells_len]; simp [hn]
  have hcell : ∀ k, k < cap * 3 → w.cell? ⟨g, k, none⟩ = cur[k]? := fun k _ => cell_of_row w g k cur _ (0, 0) hg
  have hcurL : ∀ k, k < n * 3 → cur[k]? = (pkCells L)[k]? := fun k hk => by rw [← hps, List.getElem?_take, if_pos hk]; simp
  obtain ⟨A, hA, hsrc⟩ : ∃ A : Addr, (if cap = j then (some ⟨g, 0, none⟩ : Option Addr) else some ⟨g, j * 3, none⟩) = some A ∧ Hid (∀ t u, news[t]? = some u → w.drew.cell? (A.add t) = some u) := by
    by_cases h : cap = j
    · refine ⟨⟨g, 0, none⟩, by simp [h], fun t u hu => ?_⟩
      have h0 : news.length = 0 := by rw [hlen]; omega
      rw [List.length_eq_zero_iff.1 h0] at hu
      simp at hu
    · refine ⟨⟨g, j * 3, none⟩, by simp [h], fun t u hu => ?_⟩
      have ht : t < (n - j) * 3 := by
        have := (List.getElem?_eq_some_iff.1 hu).1
        rwa [hlen] at this
      have ha : (⟨g, j * 3, none⟩ : Addr).add t = ⟨g, j * 3 + t, none⟩ := by unfold Addr.add; split <;> simp_all
      rw [ha]
      refine (hcell _ (by omega)).trans ?_
      rw [hcurL _ (by omega), ← hu, hnews, ← pkCells_drop, List.getElem?_drop]
  have s2 : Hid (∀ u ∈ news, u.oneCell' = true) := by rw [hnews]; exact pkCells_one _
  have s3 : Hid (∀ t, t < news.length → (w.drew.cell? ⟨g, 0 + i * 3 + t, none⟩).isSome = true ∧ w.drew.frozen? ⟨g, 0 + i * 3 + t, none⟩ = false) := by
    intro t ht
    rw [hlen] at ht
    rw [Nat.zero_add]
    refine ⟨?_, frozen_of_row w g _ cur _ hg⟩
    show (w.cell? _).isSome = true
    rw [hcell _ (by omega)]
    have : i * 3 + t < cur.size := by omega
    simp [this]
  have s1 : Hid (news.length = (n - j) * 3) := hlen
  obtain ⟨W1, hW1⟩ : ∃ W1, W1 = w.drew.setCells g (0 + i * 3) news := ⟨_, rfl⟩
  obtain ⟨c1, hg1, hs1, hl1⟩ := heap_setCells_same g 53 news (0 + i * 3) w.drew cur hg (by omega)
  rw [← hW1] at hg1
  have hcl : ∀ ty, (Builtin.clear_ #[88] ty #[.slice (some ⟨g, (i + (n - j)) * 3, none⟩) 1 (cap - (i + (n - j)))]).run Tryd.prog W1 = .ok (.tuple #[]) (W1.setCells g ((i + (n - j)) * 3) [.int .i64 0, .int .i64 0, .string ⟨#[]⟩]) := fun ty =>
    clear_packet W1 g _ _ ty (fun t ht => by rw [cell_of_row _ _ _ _ _ _ hg1]; have : (i + (n - j)) * 3 + t < c1.size := by omega
                                             simp [this]) (fun t ht => frozen_of_row _ _ _ _ _ hg1)
  have hW : Hid (W1 = w.drew.setCells g (0 + i * 3) news) := hW1
  have hic : i ≤ cap := by omega
  have hjc : j ≤ cap := by omega
  have FIN : Hid (∃ cur', (W1.setCells g ((i + (n - j)) * 3) [.int .i64 0, .int .i64 0, .string ⟨#[]⟩]).heap[g]? = some (.cells cur' 53 (0, 0)) ∧ cur'.size = cap * 3 ∧ cur'.toList.take ((n - 1) * 3) = pkCells (L.eraseIdx i)) := by
    obtain ⟨c2, hg2, hs2, hl2⟩ := heap_setCells_same g 53 [.int .i64 0, .int .i64 0, .string ⟨#[]⟩] ((i + (n - j)) * 3) W1 c1 hg1 (by simp; omega)
    refine ⟨c2, hg2, by omega, ?_⟩
    have hn1 : n - 1 = i + (n - j) := by have := hj.out; omega
    rw [hl2, hn1, List.append_assoc, List.take_append_of_le_length (by simp; omega), List.take_take, Nat.min_self, hl1, Nat.zero_add, List.append_assoc, ← List.append_assoc, List.take_append_of_le_length (by simp; omega), List.take_of_length_le (by simp; omega)]
    have e1 : cur.toList.take (i * 3) = pkCells (L.take i) := by rw [← pkCells_take, ← hps, List.take_take, Nat.min_eq_left (by omega)]
    rw [e1, hnews, hj.out, ← pkCells_append, eraseIdx_parts]
  have HFR : Hid (Fr (justOf g) w (W1.setCells g ((i + (n - j)) * 3) [.int .i64 0, .int .i64 0, .string ⟨#[]⟩])) := by
    rw [hW1]
    exact Fr.setCells (S := justOf g) g (.inl rfl) _ _ _ (Fr.setCells (S := justOf g) g (.inl rfl) _ _ _ (Fr.refl (justOf g) w).drew)
  have hne : ((i : Int) == (j : Int)) = false := by simp; omega
  have hnn : n - (i + (n - j)) = 1 := by have := hj.out; omega
  have hnn' : n - 1 = i + (n - j) := by have := hj.out; omega
  rw [hnn'] at FIN ⊢
  clear hW1 hg1 hnews hlen hcell hcurL hs1 hl1 hg hps hsz hn
  go_enter Tryd.func51, Tryd.ntmps51
  go_wp2_with fail
  obtain ⟨i0, hi0, hz0, hz1, hz2⟩ := info_parts packet_info
  go_region_law (refine step_append_room rfl (.tmp 22) (.tmp 25) 88 rfl 53 i0 3 Tryd.underlying88 hi0 hz1 g 0 i cap (by simp [Act.eval, Act.put]) A (n - j) (cap - j) news (by simp [Act.eval, Act.put]) s1.out hsrc.out s2.out (by omega) s3.out ?_; rw [← hW.out])
  go_wp2
  go_ret
  exact ⟨rfl, FIN.out, HFR.out⟩
end Go.Proofs.YtblnmghbcgbgdaaDoor

namespace Go.Proofs.YtblnmghbcgbgdaaDoor
open Go.RowKit
set_option linter.unusedVariables false
set_option linter.unusedSimpArgs false

/-- The blocks of a network, laid open: b itself, its map g, its row r. -/
structure Open23 (room lost : Int) (L : List Pk) (f : Int → Int → Int) (b g r cap : Nat) (w : World) : Prop where
  blk : Blk w b 90 #[.int .i64 room, .slice (some ⟨r, 0, none⟩) L.length cap, .map (some g), .int .i64 lost]
  lk : Lk w g f
  row : ∃ cur, w.heap[r]? = some (.cells cur 53 (0, 0)) ∧ cur.size = cap * 3 ∧ cur.toList.take (L.length * 3) = pkCells L
  len : L.length ≤ cap
  cap : cap ≤ maxLen
  gb : g ≠ b
  rb : r ≠ b
  rg : r ≠ g
theorem Open23.fr {room lost : Int} {L : List Pk} {f : Int → Int → Int} {b g r cap : Nat} {w w' : World} (h : Open23 room lost L f b g r cap w) {S : Nat → Prop} (hf : Fr S w w') (h1 : ¬ S b) (h2 : ¬ S g) (h3 : ¬ S r) : Open23 room lost L f b g r cap w' := by
  obtain ⟨cur, hr, h5, h6⟩ := h.row
  refine ⟨h.blk.fr hf h1, lk_fr h.lk hf h2, ⟨cur, (hf.block r ?_ h3).trans hr, h5, h6⟩, h.len, h.cap, h.gb, h.rb, h.rg⟩
  rcases Nat.lt_or_ge r w.heap.size with hl | hl
  · exact hl
  · rw [Array.getElem?_eq_none hl] at hr; cases hr
def take1S (P b g r : Nat) : Nat → Prop := fun i => i = P ∨ i = b ∨ i = g ∨ i = r
set_option maxHeartbeats 4000000 in
theorem take1 (room lost : Int) (L : List Pk) (f : Int → Int → Int) (b g r cap P N I i : Nat) (p : Pk) (w : World) (h : Open23 room lost L f b g r cap w) (hi : L[i]? = some p) (hx : I64 p.x) (hy : I64 p.y) (hf1 : 1 ≤ f p.x p.y) (hf2 : f p.x p.y ≤ 9223372036854775807)
    (hP : Blk w P 53 #[.int .i64 0, .int .i64 0, .string ⟨#[]⟩]) (hN : Blk w N 44 #[.pointer (some ⟨b, 0, none⟩)]) (hI : Blk w I 3 #[.int .i64 i])
    (d1 : N ≠ P ∧ I ≠ P ∧ b ≠ P ∧ g ≠ P ∧ r ≠ P) (d2 : N ≠ b ∧ N ≠ g ∧ N ≠ r ∧ I ≠ b ∧ I ≠ g ∧ I ≠ r) :
    Calls Tryd.prog 50 #[.pointer (some ⟨r, i * 3, none⟩), .pointer (some ⟨P, 0, none⟩), .pointer (some ⟨N, 0, none⟩), .pointer (some ⟨I, 0, none⟩)] w fun e w' => e = .returned (.bool true) ∧ Blk w' P 53 #[.int .i64 p.x, .int .i64 p.y, .string p.s] ∧ Open23 room lost (L.eraseIdx i) (upd f p.x p.y (f p.x p.y - 1)) b g r cap w' ∧ Fr (take1S P b g r) w w' := by
  have hil : i < L.length := by rw [List.getElem?_eq_some_iff] at hi; exact hi.1
  obtain ⟨cur, hr, hcs, hct⟩ := h.row
  have HR := Lib.hid (And.intro hr (And.intro hcs hct))
  obtain ⟨x, y, s⟩ := p
  dsimp only at hx hy hf1 hf2 ⊢
  have hc : ∀ k, k < L.length * 3 → w.cell? ⟨r, k, none⟩ = (pkCells L)[k]? := fun k hk => by
    rw [cell_of_row w r k cur _ (0, 0) hr, ← hct, List.getElem?_take, if_pos hk]; simp
  obtain ⟨e0, e1, e2⟩ := pkCells_at L i _ hi
  have c0 : w.cell? ⟨r, i * 3, none⟩ = some (.int .i64 x) := (hc _ (by omega)).trans e0
  have c1 : w.cell? ⟨r, i * 3 + 1, none⟩ = some (.int .i64 y) := (hc _ (by omega)).trans e1
  have c2 : w.cell? ⟨r, i * 3 + 2, none⟩ = some (.string s) := (hc _ (by omega)).trans e2
  clear e0 e1 e2 hc
  have p0 := hP.cell 0
  have p1 := hP.cell 1
  have p2 := hP.cell 2
  simp at p0 p1 p2
  have q0 := hP.frozen 0
  have q1 := hP.frozen 1
  have q2 := hP.frozen 2
  have HO := Lib.hid h
  have HI := Lib.hid hi
  have HXY := Lib.hid (And.intro hx hy)
  have HB := Lib.hid (And.intro hP (And.intro hN hI))
  clear h hr hcs hct hi hx hy hP hN hI
  obtain ⟨W, hW⟩ : ∃ W, W = ((w.setCell ⟨P, 0, none⟩ (.int .i64 x)).setCell ⟨P, 1, none⟩ (.int .i64 y)).setCell ⟨P, 2, none⟩ (.string s) := ⟨_, rfl⟩
  go_enter Tryd.func50, Tryd.ntmps50
  go_upto_region 2 with fail
  rw [← hW]
  have HFW : Hid (Fr (justOf P) w W) := Lib.hid (by rw [hW]; exact Fr.put P 2 _ (Fr.put P 1 _ (Fr.put P 0 _ (Fr.refl (justOf P) w))))
  have HPW : Hid (Blk W P 53 #[.int .i64 x, .int .i64 y, .string s]) := Lib.hid (by rw [hW]; exact ((HB.out.1.set_ 0 _).set_ 1 _).set_ 2 _)
  have HNW := Lib.hid (HB.out.2.1.fr HFW.out d1.1)
  have HIW := Lib.hid (HB.out.2.2.fr HFW.out d1.2.1)
  have HOW := Lib.hid (HO.out.fr HFW.out d1.2.2.1 d1.2.2.2.1 d1.2.2.2.2)
  clear hW c0 c1 c2 p0 p1 p2 q0 q1 q2
  have n0 : W.cell? ⟨N, 0, none⟩ = some (.pointer (some ⟨b, 0, none⟩)) := HNW.out.cell 0
  have b2 : W.cell? ⟨b, 2, none⟩ = some (.map (some g)) := HOW.out.blk.cell 2
  have k1 : W.cell? ⟨P, 0, none⟩ = some (.int .i64 x) := HPW.out.cell 0
  have k2 : W.cell? ⟨P, 1, none⟩ = some (.int .i64 y) := HPW.out.cell 1
  have r1 := HOW.out.lk.run HXY.out.1 HXY.out.2
  have r2 := Lk.run (w := W.drew) HOW.out.lk HXY.out.1 HXY.out.2
  obtain ⟨F, hF⟩ : ∃ F, F = f x y := ⟨_, rfl⟩
  have hF1 : 1 ≤ F := by rw [hF]; exact hf1
  have hF2 : F ≤ 9223372036854775807 := by rw [hF]; exact hf2
  clear hf1 hf2
  rw [← hF] at r1 r2
  have HFF := Lib.hid hF
  clear hF
  obtain ⟨es, clock, hge, hO⟩ := HOW.out.lk
  obtain ⟨v0, st, es1, clock1, hE, hO1, j, e0, hj, hst, hk⟩ := lk_entry (w := W.drew) hge hO HXY.out.1 HXY.out.2
  obtain ⟨Z, hZ⟩ : ∃ Z, Z = ChangeMaps.setBlock W.drew g (.map es1 clock1) := ⟨_, rfl⟩
  rw [← hZ] at hE
  have hZg : Z.heap[g]? = some (.map es1 clock1) := by rw [hZ]; exact ChangeMaps.heap_setBlock_same hge _
  have r3 := Lk.run (w := Z) ⟨es1, clock1, hZg, hO1⟩ HXY.out.1 HXY.out.2
  rw [← HFF.out] at r3
  obtain ⟨es', hS, hO2⟩ := lk_store hZg hO1 hj hst hk (F - 1)
  obtain ⟨Y, hY⟩ : ∃ Y, Y = ChangeMaps.setBlock Z g (.map es' clock1) := ⟨_, rfl⟩
  rw [← hY] at hS
  have hE' : (Instr.mapEntry 87 (.map (some g)) (.agg #[.int .i64 x, .int .i64 y])).run Tryd.prog W.drew = .ok (.tuple #[v0, .int .i64 (st : Int)]) Z := hE
  have hS' : (Instr.entryStore 87 (.map (some g)) (.int .i64 (st : Int)) (.int .i64 (F - 1))).run Tryd.prog Z = .ok () Y := hS
  have HVY : Hid (Fr (justOf g) W Y) := Lib.hid (by rw [hY, hZ]; exact Fr.setBlock (Fr.setBlock (Fr.refl (justOf g) W).drew g (.inl rfl) _) g (.inl rfl) _)
  have HLY : Hid (Lk Y g (upd f x y (F - 1))) := Lib.hid (by rw [hY]; exact ⟨es', clock1, ChangeMaps.heap_setBlock_same hZg _, hO2⟩)
  clear hE hS hZ hY hge hO hO1 hj hst hk hO2 hZg
  go_region
  all_goals
    go_upto_region 3 with fail
  clear hE' hS' r1 r2 r3 n0 b2 k1 k2
  have HNY := Lib.hid (HNW.out.fr HVY.out (fun e => d2.2.1 e))
  have HIY := Lib.hid (HIW.out.fr HVY.out (fun e => d2.2.2.2.2.1 e))
  have HPY := Lib.hid (HPW.out.fr HVY.out (fun e => d1.2.2.2.1 (Eq.symm e)))
  have HBY := Lib.hid (HOW.out.blk.fr HVY.out (fun e => HOW.out.gb (Eq.symm e)))
  obtain ⟨cur, hr, hcs, hct⟩ := HOW.out.row
  have hrW : r < W.heap.size := by
    rcases Nat.lt_or_ge r W.heap.size with hl | hl
    · exact hl
    · rw [Array.getElem?_eq_none hl] at hr; cases hr
  have HRY : Hid (Y.heap[r]? = some (.cells cur 53 (0, 0)) ∧ cur.size = cap * 3 ∧ cur.toList.take (L.length * 3) = pkCells L) := Lib.hid ⟨(HVY.out.block r hrW HOW.out.rg).trans hr, hcs, hct⟩
  have HD : Hid (∀ w, w.heap[r]? = some (.cells cur 53 (0, 0)) → Calls Tryd.prog 51 #[.slice (some ⟨r, 0, none⟩) L.length cap, .int .i64 i, .int .i64 ((i : Int) + 1)] w fun e w' => e = .returned (.slice (some ⟨r, 0, none⟩) (L.length - 1 : Nat) cap) ∧ (∃ cur', w'.heap[r]? = some (.cells cur' 53 (0, 0)) ∧ cur'.size = cap * 3 ∧ cur'.toList.take ((L.length - 1) * 3) = pkCells (L.eraseIdx i)) ∧ Fr (justOf r) w w') := Lib.hid (fun w hw => by
    have h := delete_pk r cap cur L i (i + 1) w hw HO.out.len HO.out.cap hcs hct (Lib.hid rfl) (by omega)
    simpa using h)
  clear hr hcs hct hrW
  have n0 : Y.cell? ⟨N, 0, none⟩ = some (.pointer (some ⟨b, 0, none⟩)) := HNY.out.cell 0
  have b1 : Y.cell? ⟨b, 1, none⟩ = some (.slice (some ⟨r, 0, none⟩) L.length cap) := HBY.out.cell 1
  have i0 : Y.cell? ⟨I, 0, none⟩ = some (.int .i64 i) := HIY.out.cell 0
  have hcap := HO.out.cap
  have hlen := HO.out.len
  unfold maxLen at hcap
  have HST : Hid (∀ (w : World) u, (w.cell? ⟨N, 0, none⟩ = some (.pointer (some ⟨b, 0, none⟩)) ∧ w.cell? ⟨I, 0, none⟩ = some (.int .i64 i)) → ((w.setCell ⟨b, 1, none⟩ u).cell? ⟨N, 0, none⟩ = some (.pointer (some ⟨b, 0, none⟩)) ∧ (w.setCell ⟨b, 1, none⟩ u).cell? ⟨I, 0, none⟩ = some (.int .i64 i))) := Lib.hid (fun w u h =>
    ⟨(World.cell?_setCell_other w ⟨b, 1, none⟩ ⟨N, 0, none⟩ u (fun e => d2.1 (congrArg Addr.block e).symm)).trans h.1, (World.cell?_setCell_other w ⟨b, 1, none⟩ ⟨I, 0, none⟩ u (fun e => d2.2.2.2.1 (congrArg Addr.block e).symm)).trans h.2⟩)
  have hle : i + 1 ≤ L.length := by omega
  have hwr : IntKind.i64.wrap ((i : Int) + 1) = (i : Int) + 1 := IntWalk.i64_in _ (by omega)
  have HRD : Hid (Y.drew.heap[r]? = some (.cells cur 53 (0, 0))) := Lib.hid HRY.out.1
  refine wp_region_noPanic ?_
  refine wp_region_held_drew (S := fun w' => w'.cell? ⟨N, 0, none⟩ = some (.pointer (some ⟨b, 0, none⟩)) ∧ w'.cell? ⟨I, 0, none⟩ = some (.int .i64 i)) (by kernel_rfl) ⟨n0, i0⟩ (fun hHeld => ?_)
  refine wpAnyH_take (i := 0) (v := ?_) rfl (by kernel_rfl) (by kernel_rfl) (by kernel_rfl) (fun _ _ _ h => h) (Or.inl ⟨by rfl, ?_⟩) hHeld ?_; rotate_left; focus (intro w hSw; (try dsimp only at hSw); go_simp; with_reducible rfl)
  try simp only [Act.put, List.setIfInBounds_toArray, List.set_cons_zero, List.set_cons_succ]
  refine wpAnyH_take (i := 1) (v := ?_) rfl (by kernel_rfl) (by kernel_rfl) (by kernel_rfl) (fun _ _ _ h => h) (Or.inl ⟨by rfl, ?_⟩) hHeld ?_; rotate_left; focus (intro w hSw; (try dsimp only at hSw); go_simp; with_reducible rfl)
  try simp only [Act.put, List.setIfInBounds_toArray, List.set_cons_zero, List.set_cons_succ]
  refine wpAnyH_take (i := 2) (v := ?_) rfl (by kernel_rfl) (by kernel_rfl) (by kernel_rfl) (fun _ _ _ h => h) (Or.inl ⟨by rfl, ?_⟩) hHeld ?_; rotate_left; focus (intro w hSw; (try dsimp only at hSw); go_simp; with_reducible rfl)
  try simp only [Act.put, List.setIfInBounds_toArray, List.set_cons_zero, List.set_cons_succ]
  refine wpAnyH_take (i := 3) (v := ?_) rfl (by kernel_rfl) (by kernel_rfl) (by kernel_rfl) (fun _ _ _ h => h) (Or.inl ⟨by rfl, ?_⟩) hHeld ?_; rotate_left; focus (intro w hSw; (try dsimp only at hSw); go_simp; with_reducible rfl)
  try simp only [Act.put, List.setIfInBounds_toArray, List.set_cons_zero, List.set_cons_succ]
  refine wpAnyH_take (i := 5) (v := ?_) rfl (by kernel_rfl) (by kernel_rfl) (by kernel_rfl) (fun _ _ _ h => h) (Or.inl ⟨by rfl, ?_⟩) hHeld ?_; rotate_left; focus (intro w hSw; (try dsimp only at hSw); go_simp; with_reducible rfl)
  try simp only [Act.put, List.setIfInBounds_toArray, List.set_cons_zero, List.set_cons_succ]
  refine wpAnyH_take (i := 6) (v := ?_) rfl (by kernel_rfl) (by kernel_rfl) (by kernel_rfl) (fun _ _ _ h => h) (Or.inl ⟨by rfl, ?_⟩) hHeld ?_; rotate_left; focus (intro w hSw; (try dsimp only at hSw); go_simp; with_reducible rfl)
  try simp only [Act.put, List.setIfInBounds_toArray, List.set_cons_zero, List.set_cons_succ]
  refine wpAnyH_take (i := 7) (v := ?_) rfl (by kernel_rfl) (by kernel_rfl) (by kernel_rfl) (fun _ _ _ h => h) (Or.inl ⟨by rfl, ?_⟩) hHeld ?_; rotate_left; focus (intro w hSw; (try dsimp only at hSw); go_simp; with_reducible rfl)
  try simp only [Act.put, List.setIfInBounds_toArray, List.set_cons_zero, List.set_cons_succ]
  refine wpAnyH_ready (rs := [4]) (by kernel_rfl) (by simp) (AllReadyH.cons (i := 4) rfl (fun K hK => ?_) AllReadyH.nil)
  go_simp
  refine hK.out _ _ ⟨n0, i0⟩ (fun hHeld => ?_)
  clear hK K
  try simp only [Act.put, List.setIfInBounds_toArray, List.set_cons_zero, List.set_cons_succ]
  refine wpAnyH_ready (rs := [8]) (by kernel_rfl) (by simp) (AllReadyH.cons (i := 8) rfl (fun K hK => ?_) AllReadyH.nil)
  go_simp
  go_at_call 51; (with_reducible refine (HD.out _ HRD.out).mono ?_); rintro e w3 ⟨rfl, hc3, hf3⟩; have n3 : w3.cell? ⟨N, 0, none⟩ = some (.pointer (some ⟨b, 0, none⟩)) := (HNY.out.drew.fr hf3 d2.2.2.1).cell 0; have i3 : w3.cell? ⟨I, 0, none⟩ = some (.int .i64 i) := (HIY.out.drew.fr hf3 d2.2.2.2.2.2).cell 0; have HB3 := Lib.hid (HBY.out.drew.fr hf3 (fun e => HOW.out.rb (Eq.symm e))); have b3 : w3.cell? ⟨b, 1, none⟩ = some (.slice (some ⟨r, 0, none⟩) L.length cap) := HB3.out.cell 1; have f3 : w3.frozen? ⟨b, 1, none⟩ = false := HB3.out.frozen 1
  go_wp2_with fail
  refine hK.out _ _ ⟨n3, i3⟩ (fun hHeld => ?_)
  clear hK K
  try simp only [Act.put, List.setIfInBounds_toArray, List.set_cons_zero, List.set_cons_succ]
  refine wpAnyH_take (i := 9) (v := ?_) rfl (by kernel_rfl) (by kernel_rfl) (by kernel_rfl) (fun _ _ _ h => h) (Or.inl ⟨by rfl, ?_⟩) hHeld ?_; rotate_left; focus (intro w hSw; (try dsimp only at hSw); go_simp; with_reducible rfl)
  try simp only [Act.put, List.setIfInBounds_toArray, List.set_cons_zero, List.set_cons_succ]
  refine wpAnyH_take (i := 10) (v := ?_) rfl (by kernel_rfl) (by kernel_rfl) (by kernel_rfl) (fun _ _ _ h => h) (Or.inl ⟨by rfl, ?_⟩) hHeld ?_; rotate_left; focus (intro w hSw; (try dsimp only at hSw); go_simp; with_reducible rfl)
  try simp only [Act.put, List.setIfInBounds_toArray, List.set_cons_zero, List.set_cons_succ]
  refine wpAnyH_ready (rs := [11]) (by kernel_rfl) (by simp) (AllReadyH.cons (i := 11) rfl (fun K hK => ?_) AllReadyH.nil)
  go_simp
  refine hK.out _ _ (HST.out _ _ ⟨n3, i3⟩) (fun hHeld => ?_)
  clear hK K
  try simp only [Act.put, List.setIfInBounds_toArray, List.set_cons_zero, List.set_cons_succ]
  refine wpAnyH_done (by kernel_rfl) (NoPanic.normal ?_) _
  go_wp2
  go_ret
  obtain ⟨cur', hr3, hs3, hc3⟩ := hc3
  have q3 : Fr (justOf r) Y w3 := Fr.trans (Fr.refl (justOf r) Y).drew hf3
  have hst : Fr (justOf b) w3 (w3.setCell ⟨b, 1, none⟩ (.slice (some ⟨r, 0, none⟩) (L.length - 1 : Nat) cap)) := Fr.put b 1 _ (Fr.refl (justOf b) w3)
  have hle1 : (L.eraseIdx i).length = L.length - 1 := by rw [List.length_eraseIdx]; simp [hil]
  have hrw : r < w3.heap.size := by
    rcases Nat.lt_or_ge r w3.heap.size with hl | hl
    · exact hl
    · rw [Array.getElem?_eq_none hl] at hr3; cases hr3
  refine ⟨rfl, (HPY.out.fr q3 (fun e => d1.2.2.2.2 (Eq.symm e))).fr hst (fun e => d1.2.2.1 (Eq.symm e)), ⟨?_, ?_, ⟨cur', (hst.block r hrw HOW.out.rb).trans hr3, hs3, ?_⟩, ?_, HO.out.cap, HOW.out.gb, HOW.out.rb, HOW.out.rg⟩, ?_⟩
  · rw [hle1]
    exact HB3.out.set_ 1 _
  · rw [← HFF.out]
    exact lk_fr (lk_fr HLY.out q3 (fun e => HOW.out.rg (Eq.symm e))) hst HOW.out.gb
  · rw [hle1]; exact hc3
  · rw [hle1]; omega
  · have a1 : Fr (take1S P b g r) w W := HFW.out.mono (fun i e => .inl e)
    have a2 : Fr (take1S P b g r) W Y := HVY.out.mono (fun i e => .inr (.inr (.inl e)))
    have a3 : Fr (take1S P b g r) Y w3 := q3.mono (fun i e => .inr (.inr (.inr e)))
    have a4 : Fr (take1S P b g r) w3 _ := hst.mono (fun i e => .inr (.inl e))
    exact ((a1.trans a2).trans a3).trans a4
end Go.Proofs.YtblnmghbcgbgdaaDoor

namespace Go.Proofs.YtblnmghbcgbgdaaDoor
open Go.RowKit
set_option linter.unusedVariables false

theorem open_len {room lost : Int} {L : List Pk} {f : Int → Int → Int} {b g r cap : Nat} {w : World} (h : Open23 room lost L f b g r cap w) : Calls Tryd.prog 44 #[.pointer (some ⟨b, 0, none⟩)] w fun e w' => e = .returned (.int .i64 (L.length : Int)) ∧ w = w' := by
  have c1 : w.cell? ⟨b, 1, none⟩ = some (.slice (some ⟨r, 0, none⟩) L.length cap) := h.blk.cell 1
  clear h
  go_enter Tryd.func44, Tryd.ntmps44
  go_wp2
  go_ret
  exact ⟨rfl, rfl⟩
set_option maxHeartbeats 2000000 in
theorem with_take (room lost : Int) (L : List Pk) (f : Int → Int → Int) (b g r cap P N I i : Nat) (p : Pk) (w : World) (h : Open23 room lost L f b g r cap w) (hi : L[i]? = some p) (hx : I64 p.x) (hy : I64 p.y) (hf1 : 1 ≤ f p.x p.y) (hf2 : f p.x p.y ≤ 9223372036854775807)
    (hP : Blk w P 53 #[.int .i64 0, .int .i64 0, .string ⟨#[]⟩]) (hN : Blk w N 44 #[.pointer (some ⟨b, 0, none⟩)]) (hI : Blk w I 3 #[.int .i64 i])
    (d1 : N ≠ P ∧ I ≠ P ∧ b ≠ P ∧ g ≠ P ∧ r ≠ P) (d2 : N ≠ b ∧ N ≠ g ∧ N ≠ r ∧ I ≠ b ∧ I ≠ g ∧ I ≠ r) :
    Calls Tryd.prog 49 #[.pointer (some ⟨b, 0, none⟩), .int .i64 i, .func (.func 50) #[] #[.pointer (some ⟨P, 0, none⟩), .pointer (some ⟨N, 0, none⟩), .pointer (some ⟨I, 0, none⟩)]] w fun e w' => e = .returned (.bool true) ∧ Blk w' P 53 #[.int .i64 p.x, .int .i64 p.y, .string p.s] ∧ Open23 room lost (L.eraseIdx i) (upd f p.x p.y (f p.x p.y - 1)) b g r cap w' ∧ Fr (take1S P b g r) w w' := by
  have hil : i < L.length := by rw [List.getElem?_eq_some_iff] at hi; exact hi.1
  have T1 := Lib.hid (take1 room lost L f b g r cap P N I i p w h hi hx hy hf1 hf2 hP hN hI d1 d2)
  have OL := Lib.hid (open_len h)
  have c1 : w.cell? ⟨b, 1, none⟩ = some (.slice (some ⟨r, 0, none⟩) L.length cap) := h.blk.cell 1
  have hi0 : (0 : Int) ≤ (i : Int) := by omega
  have hi1 : ¬ ((L.length : Int) ≤ (i : Int)) := by omega
  have hi2 : (i : Int) < (L.length : Int) := by omega
  have hcap := h.cap
  unfold maxLen at hcap
  clear h hi hP hN hI hf1 hf2 hx hy
  go_enter Tryd.func49, Tryd.ntmps49
  go_wp2_with (first
    | (go_at_call 44; (with_reducible refine OL.out.mono ?_); rintro e w' ⟨rfl, rfl⟩)
    | (go_at_call 50; (with_reducible refine T1.out.mono ?_); rintro e w1 ⟨rfl, hp1, ho1, hf1⟩))
  go_ret
  exact ⟨rfl, hp1, ho1, hf1⟩
theorem Nt.opened {base : Nat} {room lost : Int} {L : List Pk} {f : Int → Int → Int} {b : Nat} {w : World} (h : Nt base room lost L.length (pkCells L) f b w) (hL : 0 < L.length) : ∃ g r cap, Open23 room lost L f b g r cap w ∧ Sx base b ∧ Sx base g ∧ base ≤ r := by
  obtain ⟨v, g, hB, hK, hO, h1, h2, h3, h4, h5⟩ := h
  obtain ⟨hx, ⟨_, h0⟩ | ⟨r, cap, cur, rfl, hb, hh, hn, hc, hs, ht⟩⟩ := hO
  · omega
  · exact ⟨g, r, cap, ⟨hB, hK, ⟨cur, hh, hs, ht⟩, hn, hc, h3, fun e => h4 (by simp [Value.ownBlock, e]), fun e => h5 (by simp [Value.ownBlock, e])⟩, h2, h1, hb⟩
theorem Open23.shut {base : Nat} {room lost : Int} {L : List Pk} {f : Int → Int → Int} {b g r cap : Nat} {w : World} (h : Open23 room lost L f b g r cap w) (h1 : Sx base b) (h2 : Sx base g) (h3 : base ≤ r) : Nt base room lost L.length (pkCells L) f b w := by
  obtain ⟨cur, hh, hs, ht⟩ := h.row
  exact ⟨_, g, h.blk, h.lk, ⟨pkCells_len L, .inr ⟨r, cap, cur, rfl, h3, hh, h.len, h.cap, hs, ht⟩⟩, h2, h1, h.gb, by simp [Value.ownBlock, h.rb], by simp [Value.ownBlock, h.rg]⟩
theorem Open23.lts {room lost : Int} {L : List Pk} {f : Int → Int → Int} {b g r cap : Nat} {w : World} (h : Open23 room lost L f b g r cap w) : b < w.heap.size ∧ g < w.heap.size ∧ r < w.heap.size := by
  obtain ⟨cur, hh, hs, ht⟩ := h.row
  obtain ⟨es, clock, hg, _⟩ := h.lk
  exact ⟨h.blk.lt, (Array.getElem?_eq_some_iff.1 hg).1, (Array.getElem?_eq_some_iff.1 hh).1⟩
/-- Take of one that is under way. -/
theorem net_take {base : Nat} {room lost : Int} {L : List Pk} {f : Int → Int → Int} {b i : Nat} {p : Pk} {w : World} (h : Nt base room lost L.length (pkCells L) f b w) (hi : L[i]? = some p) (hx : I64 p.x) (hy : I64 p.y) (hf1 : 1 ≤ f p.x p.y) (hf2 : f p.x p.y ≤ 9223372036854775807) (hbw : base ≤ w.heap.size) :
    Calls Tryd.prog 21 #[.pointer (some ⟨b, 0, none⟩), .int .i64 i] w fun e w' => e = .returned (.tuple #[.agg #[.int .i64 p.x, .int .i64 p.y, .string p.s], .bool true]) ∧ Nt base room lost (L.eraseIdx i).length (pkCells (L.eraseIdx i)) (upd f p.x p.y (f p.x p.y - 1)) b w' ∧ Fr (SO base b w) w w' := by
  have hil : i < L.length := by rw [List.getElem?_eq_some_iff] at hi; exact hi.1
  obtain ⟨g, r, cap, hO, q1, q2, q3⟩ := h.opened (by omega)
  obtain ⟨l1, l2, l3⟩ := hO.lts
  have f3 : Fr noneOf w (((w.alloc (.cells #[.pointer (some ⟨b, 0, none⟩)] 44)).alloc (.cells #[.int .i64 i] 3)).alloc (.cells #[.int .i64 0, .int .i64 0, .string ⟨#[]⟩] 53)) := (((Fr.refl noneOf w).alloc _).alloc _).alloc _
  have hN := ((Blk.new w 44 #[.pointer (some ⟨b, 0, none⟩)]).alloc (.cells #[.int .i64 i] 3)).alloc (.cells #[.int .i64 0, .int .i64 0, .string ⟨#[]⟩] 53)
  have hI := (Blk.new (w.alloc (.cells #[.pointer (some ⟨b, 0, none⟩)] 44)) 3 #[.int .i64 i]).alloc (.cells #[.int .i64 0, .int .i64 0, .string ⟨#[]⟩] 53)
  have hP := Blk.new ((w.alloc (.cells #[.pointer (some ⟨b, 0, none⟩)] 44)).alloc (.cells #[.int .i64 i] 3)) 53 #[.int .i64 0, .int .i64 0, .string ⟨#[]⟩]
  have hO3 := hO.fr f3 (fun x => x) (fun x => x) (fun x => x)
  rw [show ((w.alloc (.cells #[.pointer (some ⟨b, 0, none⟩)] 44)).alloc (.cells #[.int .i64 i] 3)).heap.size = w.heap.size + 1 + 1 by simp] at hP
  rw [show (w.alloc (.cells #[.pointer (some ⟨b, 0, none⟩)] 44)).heap.size = w.heap.size + 1 by simp] at hI
  have T := Lib.hid (with_take room lost L f b g r cap (w.heap.size + 1 + 1) w.heap.size (w.heap.size + 1) i p _ hO3 hi hx hy hf1 hf2 hP hN hI (by omega) (by omega))
  have F3 := Lib.hid f3
  obtain ⟨x, y, s⟩ := p
  have HQ := Lib.hid (And.intro q1 (And.intro q2 q3))
  have HOB := Lib.hid hO.blk
  clear h hO hO3 hN hI hP hi hx hy hf1 hf2 f3 q1 q2 q3
  dsimp only at T ⊢
  go_enter Tryd.func21, Tryd.ntmps21
  go_wp2_with (go_at_call 49; (with_reducible refine T.out.mono ?_); rintro e w1 ⟨rfl, hp1, ho1, hf1⟩; have HB := Lib.hid hp1; have HO1 := Lib.hid ho1; have d0 : w1.cell? ⟨w.heap.size + 1 + 1, 0, none⟩ = some (.int .i64 x) := HB.out.cell 0; have d1 : w1.cell? ⟨w.heap.size + 1 + 1, 1, none⟩ = some (.int .i64 y) := HB.out.cell 1; have d2 : w1.cell? ⟨w.heap.size + 1 + 1, 2, none⟩ = some (.string s) := HB.out.cell 2; have e0 := HB.out.frozen 0; have e1 := HB.out.frozen 1; have e2 := HB.out.frozen 2; clear hp1 ho1)
  have hS : Fr (justOf (w.heap.size + 1 + 1)) w1 (((w1.setCell ⟨w.heap.size + 1 + 1, 0, none⟩ (.int .i64 x)).setCell ⟨w.heap.size + 1 + 1, 1, none⟩ (.int .i64 y)).setCell ⟨w.heap.size + 1 + 1, 2, none⟩ (.string s)) := Fr.put _ 2 _ (Fr.put _ 1 _ (Fr.put _ 0 _ (Fr.refl _ w1)))
  have E := Lib.hid (((HB.out.set_ 0 (.int .i64 x)).set_ 1 (.int .i64 y)).set_ 2 (.string s))
  have E0 := E.out.cell 0
  have E1 := E.out.cell 1
  have E2 := E.out.cell 2
  refine bodyPost_ret (v := .tuple #[.agg #[.int .i64 x, .int .i64 y, .string s], .bool true]) (by simp [results, Tryd.results21, go_sem, E0, E1, E2]) rfl ⟨rfl, ?_, ?_⟩
  · have hne : ∀ z, z < w.heap.size → ¬ justOf (w.heap.size + 1 + 1) z := fun z hz e => by have e : z = w.heap.size + 1 + 1 := e; omega
    exact (HO1.out.fr hS (hne _ l1) (hne _ l2) (hne _ l3)).shut HQ.out.1 HQ.out.2.1 HQ.out.2.2
  · have k1 : Fr (SO base b w) w w1 := (F3.out.of0 (SO base b w)).trans' hf1 (fun i hi e => by
      rcases e with e | e | e | e
      · exact absurd hi (by omega)
      · exact ⟨by rw [e]; exact HQ.out.1, .inl e⟩
      · exact ⟨by rw [e]; exact HQ.out.2.1, .inr ⟨_, _, _, _, HOB.out, .inl e⟩⟩
      · exact ⟨by rw [e]; exact sx_of HQ.out.2.2, .inr ⟨_, _, _, _, HOB.out, .inr (by rw [e]; rfl)⟩⟩)
    exact k1.trans' hS (fun i hi e => by have e : i = w.heap.size + 1 + 1 := e; exact absurd hi (by omega))
end Go.Proofs.YtblnmghbcgbgdaaDoor

namespace Go.Proofs.YtblnmghbcgbgdaaDoor
open Go.RowKit
set_option linter.unusedVariables false

theorem with_out {base : Nat} {room lost : Int} {n : Nat} {ps : List Value} {f : Int → Int → Int} {b : Nat} {w : World} (h : Nt base room lost n ps f b w) (i : Int) (hi : i < 0 ∨ (n : Int) ≤ i) (v : Value) : Calls Tryd.prog 49 #[.pointer (some ⟨b, 0, none⟩), .int .i64 i, v] w fun e w' => e = .returned (.bool false) ∧ Fr noneOf w w' := by
  have HL := Lib.hid (net_len h)
  clear h
  by_cases h : i < 0
  · clear hi
    go_enter Tryd.func49, Tryd.ntmps49
    go_wp2
    go_ret
    exact ⟨rfl, by repeat (first | exact Fr.refl _ _ | apply Fr.drewN | apply Fr.drew)⟩
  · have h0 : 0 ≤ i := by omega
    have h1 : (n : Int) ≤ i := by omega
    clear hi
    go_enter Tryd.func49, Tryd.ntmps49
    go_wp2_with (go_at_call 44; (with_reducible refine HL.out.mono ?_); rintro e w' ⟨rfl, rfl⟩)
    go_ret
    exact ⟨rfl, by repeat (first | exact Fr.refl _ _ | apply Fr.drewN | apply Fr.drew)⟩
theorem Nt.fr {base : Nat} {room lost : Int} {n : Nat} {ps : List Value} {f : Int → Int → Int} {b : Nat} {w w' : World} (h : Nt base room lost n ps f b w) (hf : Fr noneOf w w') : Nt base room lost n ps f b w' := by
  obtain ⟨v, g, hB, hL, hO, h1⟩ := h
  exact ⟨v, g, hB.fr0 hf, lk_fr hL hf (fun x => x), ownsRow_frS hO hf (fun _ _ x => x), h1⟩
theorem take_out {base : Nat} {room lost : Int} {n : Nat} {ps : List Value} {f : Int → Int → Int} {b : Nat} {w : World} (h : Nt base room lost n ps f b w) (i : Int) (hi : i < 0 ∨ (n : Int) ≤ i) : Calls Tryd.prog 21 #[.pointer (some ⟨b, 0, none⟩), .int .i64 i] w fun e w' => e = .returned (.tuple #[.agg #[.int .i64 0, .int .i64 0, .string ⟨#[]⟩], .bool false]) ∧ Fr noneOf w w' := by
  have h4 := Blk.new ((w.alloc (.cells #[.pointer (some ⟨b, 0, none⟩)] 44)).alloc (.cells #[.int .i64 i] 3)) 53 #[.int .i64 0, .int .i64 0, .string ⟨#[]⟩]
  rw [show ((w.alloc (.cells #[.pointer (some ⟨b, 0, none⟩)] 44)).alloc (.cells #[.int .i64 i] 3)).heap.size = w.heap.size + 1 + 1 by simp] at h4
  have H4 := Lib.hid h4
  have HT := Lib.hid (with_out (h.fr ((((Fr.refl noneOf w).alloc (.cells #[.pointer (some ⟨b, 0, none⟩)] 44)).alloc (.cells #[.int .i64 i] 3)).alloc (.cells #[.int .i64 0, .int .i64 0, .string ⟨#[]⟩] 53))) i hi (.func (.func 50) #[] #[.pointer (some ⟨w.heap.size + 1 + 1, 0, none⟩), .pointer (some ⟨w.heap.size, 0, none⟩), .pointer (some ⟨w.heap.size + 1, 0, none⟩)]))
  clear h4 h hi
  go_enter Tryd.func21, Tryd.ntmps21
  go_wp2_with (go_at_call 49; (with_reducible refine HT.out.mono ?_); rintro e w1 ⟨rfl, hf1⟩; have HB := Lib.hid (H4.out.fr0 hf1); have d0 : w1.cell? ⟨w.heap.size + 1 + 1, 0, none⟩ = some (.int .i64 0) := HB.out.cell 0; have d1 : w1.cell? ⟨w.heap.size + 1 + 1, 1, none⟩ = some (.int .i64 0) := HB.out.cell 1; have d2 : w1.cell? ⟨w.heap.size + 1 + 1, 2, none⟩ = some (.string ⟨#[]⟩) := HB.out.cell 2; have e0 := HB.out.frozen 0; have e1 := HB.out.frozen 1; have e2 := HB.out.frozen 2)
  have E := Lib.hid (((HB.out.set_ 0 (.int .i64 0)).set_ 1 (.int .i64 0)).set_ 2 (.string ⟨#[]⟩))
  have E0 := E.out.cell 0
  have E1 := E.out.cell 1
  have E2 := E.out.cell 2
  refine bodyPost_ret (v := .tuple #[.agg #[.int .i64 0, .int .i64 0, .string ⟨#[]⟩], .bool false]) (by simp [results, Tryd.results21, go_sem, E0, E1, E2]) rfl ⟨rfl, ?_⟩
  exact ((((((Fr.refl noneOf w).alloc _).alloc _).alloc _).trans hf1).setCell (p := ⟨w.heap.size + 1 + 1, 0, none⟩) (.inr (by show w.heap.size ≤ w.heap.size + 1 + 1; omega)) _ |>.setCell (p := ⟨w.heap.size + 1 + 1, 1, none⟩) (.inr (by show w.heap.size ≤ w.heap.size + 1 + 1; omega)) _).setCell (p := ⟨w.heap.size + 1 + 1, 2, none⟩) (.inr (by show w.heap.size ≤ w.heap.size + 1 + 1; omega)) _
theorem copy_out {base : Nat} {room lost : Int} {n : Nat} {ps : List Value} {f : Int → Int → Int} {b : Nat} {w : World} (h : Nt base room lost n ps f b w) (i : Int) (hi : i < 0 ∨ (n : Int) ≤ i) : Calls Tryd.prog 23 #[.pointer (some ⟨b, 0, none⟩), .int .i64 i] w fun e w' => e = .returned (.bool false) ∧ Fr noneOf w w' := by
  have HT := Lib.hid (fun v => with_out (h.fr ((Fr.refl noneOf w).alloc (.cells #[.pointer (some ⟨b, 0, none⟩)] 44))) i hi v)
  clear h hi
  go_enter Tryd.func23, Tryd.ntmps23
  go_wp2_with (go_at_call 49; (with_reducible refine (HT.out _).mono ?_); rintro e w1 ⟨rfl, hf1⟩)
  go_ret
  exact ⟨rfl, ((Fr.refl noneOf w).alloc _).trans hf1⟩
end Go.Proofs.YtblnmghbcgbgdaaDoor

namespace Go.Proofs.YtblnmghbcgbgdaaDoor
open Go.RowKit
set_option linter.unusedVariables false

/-- How many of L go from x to y. -/
def cnt : List Pk → Int → Int → Int
  | [], _, _ => 0
  | p :: L, x, y => (if p.x = x ∧ p.y = y then 1 else 0) + cnt L x y
theorem cnt_app (L M : List Pk) (x y : Int) : cnt (L ++ M) x y = cnt L x y + cnt M x y := by
  induction L with
  | nil => simp [cnt]
  | cons p L ih => simp only [List.cons_append, cnt, ih]; omega
theorem cnt_pos (L : List Pk) (x y : Int) : 0 ≤ cnt L x y := by
  induction L with
  | nil => simp [cnt]
  | cons p L ih => simp only [cnt]; split <;> omega
theorem cnt_le (L : List Pk) (x y : Int) : cnt L x y ≤ L.length := by
  induction L with
  | nil => simp [cnt]
  | cons p L ih => simp only [cnt, List.length_cons]; split <;> omega
theorem cnt_snoc (L : List Pk) (p : Pk) : upd (cnt L) p.x p.y (cnt L p.x p.y + 1) = cnt (L ++ [p]) := by
  funext x y
  rw [cnt_app]
  simp only [upd, cnt]
  by_cases h : x = p.x ∧ y = p.y
  · obtain ⟨rfl, rfl⟩ := h
    simp
  · rw [if_neg h, if_neg (fun e => h ⟨e.1.symm, e.2.symm⟩)]
    omega
theorem cnt_split (L : List Pk) (i : Nat) (p : Pk) (h : L[i]? = some p) : L = L.take i ++ p :: L.drop (i + 1) := by
  obtain ⟨hlt, he⟩ := List.getElem?_eq_some_iff.1 h
  rw [← he, List.getElem_cons_drop, List.take_append_drop]
theorem cnt_erase (L : List Pk) (i : Nat) (p : Pk) (h : L[i]? = some p) : upd (cnt L) p.x p.y (cnt L p.x p.y - 1) = cnt (L.eraseIdx i) := by
  have hs := cnt_split L i p h
  rw [← eraseIdx_parts]
  funext x y
  have e : ∀ a b, cnt L a b = cnt (L.take i ++ L.drop (i + 1)) a b + (if p.x = a ∧ p.y = b then 1 else 0) := fun a b => by
    conv => lhs; rw [hs]
    simp only [cnt_app, cnt]
    omega
  simp only [upd]
  by_cases hh : x = p.x ∧ y = p.y
  · obtain ⟨rfl, rfl⟩ := hh
    rw [if_pos ⟨rfl, rfl⟩, e, if_pos ⟨rfl, rfl⟩]
    omega
  · rw [if_neg hh, e, if_neg (fun e => hh ⟨e.1.symm, e.2.symm⟩)]
    omega
theorem cnt_at (L : List Pk) (i : Nat) (p : Pk) (h : L[i]? = some p) : 1 ≤ cnt L p.x p.y := by
  have hs := cnt_split L i p h
  rw [hs, cnt_app]
  have h1 := cnt_pos (L.take i) p.x p.y
  have h2 := cnt_pos (L.drop (i + 1)) p.x p.y
  simp [cnt]
  omega
/-- What a packet of the law's is. -/
def okPk (p : Pk) : Prop := (0 ≤ p.x ∧ p.x ≤ 3) ∧ (0 ≤ p.y ∧ p.y ≤ 3) ∧ p.x ≠ p.y ∧ p.s.size ≤ 4100
theorem cnt_same (L : List Pk) (h : ∀ p ∈ L, okPk p) (x : Int) : cnt L x x = 0 := by
  induction L with
  | nil => rfl
  | cons p L ih =>
    have hp := (h p (by simp)).2.2.1
    simp only [cnt, ih (fun q hq => h q (by simp [hq]))]
    rw [if_neg (fun e => hp (e.1.trans e.2.symm))]
    rfl
/-- The sum of the first j links, of 16. -/
def psum (L : List Pk) : Nat → Int
  | 0 => 0
  | j + 1 => psum L j + cnt L ((j / 4 : Nat) : Int) ((j % 4 : Nat) : Int)
theorem psum_nil (j : Nat) : psum [] j = 0 := by
  induction j with
  | zero => rfl
  | succ j ih => simp [psum, ih, cnt]
theorem psum_cons (p : Pk) (L : List Pk) (hp : okPk p) (j : Nat) : psum (p :: L) j = psum L j + (if 4 * p.x + p.y < j then 1 else 0) := by
  obtain ⟨⟨a1, a2⟩, ⟨b1, b2⟩, _⟩ := hp
  induction j with
  | zero => rw [if_neg (by omega)]; rfl
  | succ j ih =>
    simp only [psum, cnt, ih]
    by_cases h : p.x = ((j / 4 : Nat) : Int) ∧ p.y = ((j % 4 : Nat) : Int)
    · rw [if_pos h, if_neg (by omega), if_pos (by omega)]; omega
    · rw [if_neg h]
      by_cases h2 : 4 * p.x + p.y < (j : Int)
      · rw [if_pos h2, if_pos (by omega)]; omega
      · rw [if_neg h2, if_neg (by omega)]; omega
theorem psum_all (L : List Pk) (h : ∀ p ∈ L, okPk p) : psum L 16 = L.length := by
  induction L with
  | nil => rw [psum_nil]; rfl
  | cons p L ih =>
    have hp := h p (by simp)
    rw [psum_cons p L hp, ih (fun q hq => h q (by simp [hq]))]
    obtain ⟨⟨a1, a2⟩, ⟨b1, b2⟩, _⟩ := hp
    rw [if_pos (by omega)]
    simp
theorem psum_le (L : List Pk) (h : ∀ p ∈ L, okPk p) (j : Nat) : 0 ≤ psum L j ∧ psum L j ≤ L.length := by
  induction L with
  | nil => rw [psum_nil]; simp
  | cons p L ih =>
    have := ih (fun q hq => h q (by simp [hq]))
    rw [psum_cons p L (h p (by simp))]
    simp only [List.length_cons]
    split <;> omega
theorem mayBe_ok (x y : Int) (n : Nat) (h : mayBe x y n = true) : 0 ≤ x ∧ 0 ≤ y ∧ x ≠ y ∧ n ≤ 4100 := by
  simp only [mayBe, Bool.and_eq_true, decide_eq_true_eq, Bool.not_eq_true', beq_eq_false_iff_ne] at h
  omega
theorem mayBe_of (p : Pk) (h : okPk p) : mayBe p.x p.y p.s.size = true := by
  obtain ⟨⟨a1, a2⟩, ⟨b1, b2⟩, c, d⟩ := h
  simp only [mayBe, Bool.and_eq_true, decide_eq_true_eq, Bool.not_eq_true', beq_eq_false_iff_ne]
  omega
/-- A NETWORK OF THE LAW'S: n packets under way, behind k steps at most. -/
def Net (base : Nat) (room : Int) (k n : Nat) (b : Nat) (w : World) : Prop :=
  ∃ (L : List Pk) (lost : Int), L.length = n ∧ Nt base room lost L.length (pkCells L) (cnt L) b w ∧ (∀ p ∈ L, okPk p) ∧ (∀ x y, cnt L x y ≤ room) ∧ 0 ≤ lost ∧ lost ≤ k ∧ n ≤ k ∧ base ≤ w.heap.size
theorem Net.fr {base : Nat} {room : Int} {k n b : Nat} {w w' : World} (h : Net base room k n b w) (hf : Fr noneOf w w') : Net base room k n b w' := by
  obtain ⟨L, lost, h1, h2, h3, h4, h5, h6, h7, h8⟩ := h
  exact ⟨L, lost, h1, h2.fr hf, h3, h4, h5, h6, h7, Nat.le_trans h8 hf.size⟩
theorem Net.more {base : Nat} {room : Int} {k k' n b : Nat} {w : World} (h : Net base room k n b w) (hk : k ≤ k') : Net base room k' n b w := by
  obtain ⟨L, lost, h1, h2, h3, h4, h5, h6, h7, h8⟩ := h
  exact ⟨L, lost, h1, h2, h3, h4, h5, by omega, by omega, h8⟩
end Go.Proofs.YtblnmghbcgbgdaaDoor

namespace Go.Proofs.YtblnmghbcgbgdaaDoor
open Go.RowKit
set_option linter.unusedVariables false
set_option linter.unusedSimpArgs false

set_option maxRecDepth 100000 in
theorem net_not {b : Nat} (x y : Int) (s : ByteArray) (w : World) (hs : s.size ≤ 9223372036854775807) (hm : mayBe x y s.size = false) :
    Calls Tryd.prog 19 #[.pointer (some ⟨b, 0, none⟩), .agg #[.int .i64 x, .int .i64 y, .string s]] w fun e w' => e = .returned (.bool false) ∧ Fr noneOf w w' := by
  have HM : Hid (∀ w, Calls Tryd.prog 48 #[.agg #[.int .i64 x, .int .i64 y, .string s]] w fun e w' => e = .returned (.bool false) ∧ Fr noneOf w w') := Lib.hid (fun w => by
    have := may_any x y s w hs
    rw [hm] at this
    exact this)
  clear hm
  go_enter Tryd.func19, Tryd.ntmps19
  go_wp2_with (go_at_call 48; (with_reducible refine (HM.out _).mono ?_); rintro e w1 ⟨rfl, hf1⟩)
  go_ret
  exact ⟨rfl, ((Fr.refl noneOf w).alloc _).trans hf1⟩
/-- A NETWORK OF THE LAW'S whose packets under way are L, behind k steps at most. -/
def NetL (base : Nat) (room : Int) (k : Nat) (L : List Pk) (b : Nat) (w : World) : Prop :=
  ∃ lost : Int, Nt base room lost L.length (pkCells L) (cnt L) b w ∧ (∀ p ∈ L, okPk p) ∧ (∀ x y, cnt L x y ≤ room) ∧ 0 ≤ lost ∧ lost ≤ k ∧ L.length ≤ k ∧ base ≤ w.heap.size
theorem NetL.fr {base : Nat} {room : Int} {k b : Nat} {L : List Pk} {w w' : World} (h : NetL base room k L b w) (hf : Fr noneOf w w') : NetL base room k L b w' := by
  obtain ⟨lost, h2, h3, h4, h5, h6, h7, h8⟩ := h
  exact ⟨lost, h2.fr hf, h3, h4, h5, h6, h7, Nat.le_trans h8 hf.size⟩
theorem NetL.more {base : Nat} {room : Int} {k k' b : Nat} {L : List Pk} {w : World} (h : NetL base room k L b w) (hk : k ≤ k') : NetL base room k' L b w := by
  obtain ⟨lost, h2, h3, h4, h5, h6, h7, h8⟩ := h
  exact ⟨lost, h2, h3, h4, h5, by omega, by omega, h8⟩
theorem NetL.ok {base : Nat} {room : Int} {k b : Nat} {L : List Pk} {w : World} (h : NetL base room k L b w) : ∀ p ∈ L, okPk p := by
  obtain ⟨lost, h2, h3, _⟩ := h
  exact h3
theorem sendL {base : Nat} {room : Int} {k b : Nat} {L : List Pk} (x y : Int) (s : ByteArray) {w : World} (h : NetL base room k L b w) (hk : k ≤ 90) (hr : room ≤ 12) (hx : 0 ≤ x ∧ x ≤ 3) (hy : 0 ≤ y ∧ y ≤ 3) (hs : s.size ≤ 9223372036854775807) :
    Calls Tryd.prog 19 #[.pointer (some ⟨b, 0, none⟩), .agg #[.int .i64 x, .int .i64 y, .string s]] w fun e w' => ∃ ok : Bool, e = .returned (.bool ok) ∧ NetL base room (k + 1) (if ok then L ++ [⟨x, y, s⟩] else L) b w' ∧ (ok = true → okPk ⟨x, y, s⟩) ∧ Fr (SO base b w) w w' := by
  cases hm : mayBe x y s.size with
  | false =>
    exact (net_not x y s w hs hm).mono fun e w' ⟨he, hf⟩ => ⟨false, he, (h.fr hf).more (by omega), fun h => (by cases h), hf.of0 _⟩
  | true =>
    obtain ⟨lost, h2, h3, h4, h5, h6, h7, h8⟩ := h
    have hxy := mayBe_ok x y s.size hm
    have hp : okPk ⟨x, y, s⟩ := ⟨hx, hy, hxy.2.2.1, hxy.2.2.2⟩
    by_cases hroom : cnt L x y < room
    · refine (net_send x y s h2 (by unfold I64; omega) (by unfold I64; omega) hs hm hroom hr (cnt_pos L x y) (by omega) (Nat.le_succ_of_le h8)).mono fun e w' ⟨he, hN, hf⟩ => ⟨true, he, ⟨lost, ?_, ?_, ?_, h5, by omega, by simp; omega, Nat.le_trans h8 hf.size⟩, fun _ => hp, hf⟩
      · have e1 := cnt_snoc L ⟨x, y, s⟩
        dsimp only at e1
        rw [e1, ← pkCells_snoc] at hN
        rw [if_pos rfl, List.length_append]
        exact hN
      · intro p hpm
        rw [if_pos rfl] at hpm
        rcases List.mem_append.1 hpm with h | h
        · exact h3 p h
        · simp at h; rw [h]; exact hp
      · intro a c
        rw [if_pos rfl, cnt_app]
        simp only [cnt]
        by_cases hh : x = a ∧ y = c
        · obtain ⟨rfl, rfl⟩ := hh
          simp
          omega
        · have := h4 a c
          simp [hh]
          omega
    · exact (net_full x y s h2 (by unfold I64; omega) (by unfold I64; omega) hs hm (by omega) (by omega) (by omega)).mono fun e w' ⟨he, hN, hf⟩ => ⟨false, he, ⟨lost + 1, hN, h3, h4, by omega, by omega, by simp; omega, Nat.le_trans h8 hf.size⟩, fun h => (by cases h), hf.mono (fun i e => by
        have e : i = b := e
        obtain ⟨_, _, _, _, _, _, q, _⟩ := h2
        exact ⟨by rw [e]; exact q, .inl e⟩)⟩
theorem takeL {base : Nat} {room : Int} {k b : Nat} {L : List Pk} (i : Nat) {w : World} (h : NetL base room k L b w) (hr : room ≤ 12) :
    Calls Tryd.prog 21 #[.pointer (some ⟨b, 0, none⟩), .int .i64 i] w fun e w' => Fr (SO base b w) w w' ∧ ((∃ p, L[i]? = some p ∧ e = .returned (.tuple #[.agg #[.int .i64 p.x, .int .i64 p.y, .string p.s], .bool true]) ∧ NetL base room k (L.eraseIdx i) b w')
      ∨ (L[i]? = none ∧ e = .returned (.tuple #[.agg #[.int .i64 0, .int .i64 0, .string ⟨#[]⟩], .bool false]) ∧ NetL base room k L b w')) := by
  have hN := h
  obtain ⟨lost, h2, h3, h4, h5, h6, h7, h8⟩ := h
  by_cases hi : i < L.length
  · obtain ⟨p, hp⟩ : ∃ p, L[i]? = some p := ⟨L[i], List.getElem?_eq_getElem hi⟩
    have hok := h3 p (List.mem_of_getElem? hp)
    obtain ⟨⟨a1, a2⟩, ⟨b1, b2⟩, c, d⟩ := hok
    have hle := h4 p.x p.y
    have hat := cnt_at L i p hp
    refine (net_take h2 hp (by unfold I64; omega) (by unfold I64; omega) hat (by omega) h8).mono fun e w' ⟨he, hN, hf⟩ => ⟨hf, .inl ⟨p, hp, he, ⟨lost, ?_, fun q hq => h3 q (List.mem_of_mem_eraseIdx hq), ?_, h5, h6, by rw [List.length_eraseIdx]; simp [hi]; omega, Nat.le_trans h8 hf.size⟩⟩⟩
    · rw [cnt_erase L i p hp] at hN
      exact hN
    · intro a c
      rw [← cnt_erase L i p hp]
      have := h4 a c
      simp only [upd]
      split <;> omega
  · exact (take_out h2 (i : Int) (by omega)).mono fun e w' ⟨he, hf⟩ => ⟨hf.of0 _, .inr ⟨List.getElem?_eq_none (by omega), he, hN.fr hf⟩⟩
/-- It answers a truth, and what R says of it. -/
def Tells (R : Bool → World → Prop) (e : Ending) (w : World) : Prop := ∃ ok : Bool, e = .returned (.bool ok) ∧ R ok w
set_option maxRecDepth 100000 in
theorem copy1 (R : Bool → World → Prop) (b N r o : Nat) (x y : Int) (s : ByteArray) (w : World) (c0 : w.cell? ⟨r, o, none⟩ = some (.int .i64 x)) (c1 : w.cell? ⟨r, o + 1, none⟩ = some (.int .i64 y)) (c2 : w.cell? ⟨r, o + 2, none⟩ = some (.string s)) (n0 : w.cell? ⟨N, 0, none⟩ = some (.pointer (some ⟨b, 0, none⟩)))
    (hS : Calls Tryd.prog 19 #[.pointer (some ⟨b, 0, none⟩), .agg #[.int .i64 x, .int .i64 y, .string s]] w.drew (Tells R)) :
    Calls Tryd.prog 52 #[.pointer (some ⟨r, o, none⟩), .pointer (some ⟨N, 0, none⟩)] w (Tells R) := by
  have HS := Lib.hid hS
  clear hS
  go_enter Tryd.func52, Tryd.ntmps52
  go_wp2
  refine wp_region_still_tail 4 (by kernel_rfl) (by kernel_rfl) ?_
  simp only [List.take_succ_cons, List.take_zero, List.drop_succ_cons, List.drop_zero]
  change wpStill _ _ (World.drew _) (fun a' => wpList _ _ _ _ a' (World.drew _)) _ _
  repeat still_step
  try refine wpStill_nil ?_
  go_wp2_with (go_at_call 19; (with_reducible refine HS.out.mono ?_); rintro e w1 ⟨ok, rfl, hR⟩)
  go_ret
  exact ⟨ok, rfl, hR⟩
set_option maxRecDepth 100000 in
theorem with_copy (R : Bool → World → Prop) (room lost : Int) (L : List Pk) (f : Int → Int → Int) (b g r cap N i : Nat) (p : Pk) (w : World) (h : Open23 room lost L f b g r cap w) (hi : L[i]? = some p) (hN : Blk w N 44 #[.pointer (some ⟨b, 0, none⟩)])
    (hS : Calls Tryd.prog 19 #[.pointer (some ⟨b, 0, none⟩), .agg #[.int .i64 p.x, .int .i64 p.y, .string p.s]] w.drew (Tells R)) :
    Calls Tryd.prog 49 #[.pointer (some ⟨b, 0, none⟩), .int .i64 i, .func (.func 52) #[] #[.pointer (some ⟨N, 0, none⟩)]] w (Tells R) := by
  have hil : i < L.length := by rw [List.getElem?_eq_some_iff] at hi; exact hi.1
  obtain ⟨cur, hr, hcs, hct⟩ := h.row
  have hc : ∀ k, k < L.length * 3 → w.cell? ⟨r, k, none⟩ = (pkCells L)[k]? := fun k hk => by
    rw [cell_of_row w r k cur _ (0, 0) hr, ← hct, List.getElem?_take, if_pos hk]; simp
  obtain ⟨e0, e1, e2⟩ := pkCells_at L i _ hi
  have T1 := Lib.hid (copy1 R b N r (i * 3) p.x p.y p.s w ((hc _ (by omega)).trans e0) ((hc _ (by omega)).trans e1) ((hc _ (by omega)).trans e2) (hN.cell 0) hS)
  have OL := Lib.hid (open_len h)
  have c1 : w.cell? ⟨b, 1, none⟩ = some (.slice (some ⟨r, 0, none⟩) L.length cap) := h.blk.cell 1
  have hi0 : (0 : Int) ≤ (i : Int) := by omega
  have hi1 : ¬ ((L.length : Int) ≤ (i : Int)) := by omega
  have hi2 : (i : Int) < (L.length : Int) := by omega
  have hcap := h.cap
  unfold maxLen at hcap
  clear h hi hN hS hr hcs hct hc e0 e1 e2
  go_enter Tryd.func49, Tryd.ntmps49
  go_wp2_with (first
    | (go_at_call 44; (with_reducible refine OL.out.mono ?_); rintro e w' ⟨rfl, rfl⟩)
    | (go_at_call 52; (with_reducible refine T1.out.mono ?_); rintro e w1 ⟨ok, rfl, hR⟩))
  go_ret
  exact ⟨ok, rfl, hR⟩
/-- What Copy leaves. -/
def Copied (base : Nat) (room : Int) (k : Nat) (L : List Pk) (b : Nat) (w : World) (ok : Bool) (w' : World) : Prop := (∃ L', NetL base room (k + 1) L' b w' ∧ (L' = L ∨ ∃ p ∈ L, L' = L ++ [p])) ∧ Fr (SO base b w) w w'
set_option maxRecDepth 100000 in
theorem copyL {base : Nat} {room : Int} {k b : Nat} {L : List Pk} (i : Nat) {w : World} (h : NetL base room k L b w) (hk : k ≤ 90) (hr : room ≤ 12) :
    Calls Tryd.prog 23 #[.pointer (some ⟨b, 0, none⟩), .int .i64 i] w (Tells (Copied base room k L b w)) := by
  have hN := h
  obtain ⟨lost, h2, h3, h4, h5, h6, h7, h8⟩ := h
  by_cases hi : i < L.length
  · obtain ⟨p, hp⟩ : ∃ p, L[i]? = some p := ⟨L[i], List.getElem?_eq_getElem hi⟩
    obtain ⟨⟨a1, a2⟩, ⟨b1, b2⟩, c, d⟩ := h3 p (List.mem_of_getElem? hp)
    have hF0 : Fr noneOf w (w.alloc (.cells #[.pointer (some ⟨b, 0, none⟩)] 44)) := (Fr.refl _ _).alloc _
    have hbl : b < w.heap.size := by obtain ⟨_, _, hB, _⟩ := h2; exact hB.lt
    obtain ⟨g, r, cap, hO, q1, q2, q3⟩ := (h2.fr hF0).opened (by omega)
    have HS := sendL p.x p.y p.s (hN.fr hF0.drew) hk hr ⟨a1, a2⟩ ⟨b1, b2⟩ (by omega)
    have HC := Lib.hid (with_copy (Copied base room k L b w) room lost L (cnt L) b g r cap w.heap.size i p _ hO hp (Blk.new w _ _) (HS.mono fun e w' ⟨ok, he, hn, _, hf⟩ => ⟨ok, he, ⟨_, hn, by cases ok; exact .inl rfl; exact .inr ⟨p, List.mem_of_getElem? hp, rfl⟩⟩, (hF0.drew.of0 (SO base b w)).trans' hf (fun i hi e => ⟨e.1, e.2.back hF0.drew hbl⟩)⟩))
    clear h2 h3 h4 hN hp HS hO
    go_enter Tryd.func23, Tryd.ntmps23
    go_wp2_with (go_at_call 49; (with_reducible refine HC.out.mono ?_); rintro e w1 ⟨ok, rfl, hR⟩)
    go_ret
    exact ⟨ok, rfl, hR⟩
  · exact (copy_out h2 (i : Int) (by omega)).mono fun e w' ⟨he, hf⟩ => ⟨false, he, ⟨L, (hN.fr hf).more (by omega), .inl rfl⟩, hf.of0 _⟩
end Go.Proofs.YtblnmghbcgbgdaaDoor
