/-
  Contract of the closure in a network's Take.
-/
import Derived.Test.YtblnmghbcgbgdaaDelete
import Derived.Deep.RegionHeld3
namespace Go.Proofs.Ytblnmghbcgbgdaa
open Go.RowKit
set_option linter.unusedVariables false
set_option linter.unusedSimpArgs false

/-- The blocks of a network, laid open: b itself, its map g, its row r. -/
structure Open23 (room lost : Int) (L : List Pk) (f : Int → Int → Int) (b g r cap : Nat) (w : World) : Prop where
  blk : Blk w b 45 #[.int .i64 room, .slice (some ⟨r, 0, none⟩) L.length cap, .map (some g), .int .i64 lost]
  lk : Lk w g f
  row : ∃ cur, w.heap[r]? = some (.cells cur 27 (0, 0)) ∧ cur.size = cap * 3 ∧ cur.toList.take (L.length * 3) = pkCells L
  len : L.length ≤ cap
  cap : cap ≤ maxLen
  gb : g ≠ b
  rb : r ≠ b
  rg : r ≠ g
theorem Open23.fr {room lost : Int} {L : List Pk} {f : Int → Int → Int} {b g r cap : Nat} {w w' : World} (h : Open23 room lost L f b g r cap w) {S : Nat → Prop} (hf : Fr S w w') (h1 : ¬ S b) (h2 : ¬ S g) (h3 : ¬ S r) : Open23 room lost L f b g r cap w' := by
  obtain ⟨cur, hr, h5, h6⟩ := h.row
  refine ⟨h.blk.fr hf h1, lk_fr h.lk hf h2, ⟨cur, (hf.block r ?_ h3).trans hr, h5, h6⟩, h.len, h.cap, h.gb, h.rb, h.rg⟩
  rcases Nat.lt_or_ge r w.heap.size with hl | hl
  · exact hl
  · rw [Array.getElem?_eq_none hl] at hr; cases hr
def take1S (P b g r : Nat) : Nat → Prop := fun i => i = P ∨ i = b ∨ i = g ∨ i = r
set_option maxHeartbeats 4000000 in
theorem take1 (room lost : Int) (L : List Pk) (f : Int → Int → Int) (b g r cap P N I i : Nat) (p : Pk) (w : World) (h : Open23 room lost L f b g r cap w) (hi : L[i]? = some p) (hx : I64 p.x) (hy : I64 p.y) (hf1 : 1 ≤ f p.x p.y) (hf2 : f p.x p.y ≤ 9223372036854775807)
    (hP : Blk w P 27 #[.int .i64 0, .int .i64 0, .string ⟨#[]⟩]) (hN : Blk w N 23 #[.pointer (some ⟨b, 0, none⟩)]) (hI : Blk w I 3 #[.int .i64 i])
    (d1 : N ≠ P ∧ I ≠ P ∧ b ≠ P ∧ g ≠ P ∧ r ≠ P) (d2 : N ≠ b ∧ N ≠ g ∧ N ≠ r ∧ I ≠ b ∧ I ≠ g ∧ I ≠ r) :
    Calls Try.prog 21 #[.pointer (some ⟨r, i * 3, none⟩), .pointer (some ⟨P, 0, none⟩), .pointer (some ⟨N, 0, none⟩), .pointer (some ⟨I, 0, none⟩)] w fun e w' => e = .returned (.bool true) ∧ Blk w' P 27 #[.int .i64 p.x, .int .i64 p.y, .string p.s] ∧ Open23 room lost (L.eraseIdx i) (upd f p.x p.y (f p.x p.y - 1)) b g r cap w' ∧ Fr (take1S P b g r) w w' := by
  have hil : i < L.length := by rw [List.getElem?_eq_some_iff] at hi; exact hi.1
  obtain ⟨cur, hr, hcs, hct⟩ := h.row
  have HR := Lib.hid (And.intro hr (And.intro hcs hct))
  obtain ⟨x, y, s⟩ := p
  dsimp only at hx hy hf1 hf2 ⊢
  have hc : ∀ k, k < L.length * 3 → w.cell? ⟨r, k, none⟩ = (pkCells L)[k]? := fun k hk => by
    rw [cell_of_row w r k cur _ (0, 0) hr, ← hct, List.getElem?_take, if_pos hk]; simp
  obtain ⟨e0, e1, e2⟩ := pkCells_at L i _ hi
  have c0 : w.cell? ⟨r, i * 3, none⟩ = some (.int .i64 x) := (hc _ (by omega)).trans e0
  have c1 : w.cell? ⟨r, i * 3 + 1, none⟩ = some (.int .i64 y) := (hc _ (by omega)).trans e1
  have c2 : w.cell? ⟨r, i * 3 + 2, none⟩ = some (.string s) := (hc _ (by omega)).trans e2
  clear e0 e1 e2 hc
  have p0 := hP.cell 0
  have p1 := hP.cell 1
  have p2 := hP.cell 2
  simp at p0 p1 p2
  have q0 := hP.frozen 0
  have q1 := hP.frozen 1
  have q2 := hP.frozen 2
  have HO := Lib.hid h
  have HI := Lib.hid hi
  have HXY := Lib.hid (And.intro hx hy)
  have HB := Lib.hid (And.intro hP (And.intro hN hI))
  clear h hr hcs hct hi hx hy hP hN hI
  obtain ⟨W, hW⟩ : ∃ W, W = ((w.setCell ⟨P, 0, none⟩ (.int .i64 x)).setCell ⟨P, 1, none⟩ (.int .i64 y)).setCell ⟨P, 2, none⟩ (.string s) := ⟨_, rfl⟩
  go_enter Try.func21, Try.ntmps21
  go_upto_region 2 with fail
  rw [← hW]
  have HFW : Hid (Fr (justOf P) w W) := Lib.hid (by rw [hW]; exact Fr.put P 2 _ (Fr.put P 1 _ (Fr.put P 0 _ (Fr.refl (justOf P) w))))
  have HPW : Hid (Blk W P 27 #[.int .i64 x, .int .i64 y, .string s]) := Lib.hid (by rw [hW]; exact ((HB.out.1.set_ 0 _).set_ 1 _).set_ 2 _)
  have HNW := Lib.hid (HB.out.2.1.fr HFW.out d1.1)
  have HIW := Lib.hid (HB.out.2.2.fr HFW.out d1.2.1)
  have HOW := Lib.hid (HO.out.fr HFW.out d1.2.2.1 d1.2.2.2.1 d1.2.2.2.2)
  clear hW c0 c1 c2 p0 p1 p2 q0 q1 q2
  have n0 : W.cell? ⟨N, 0, none⟩ = some (.pointer (some ⟨b, 0, none⟩)) := HNW.out.cell 0
  have b2 : W.cell? ⟨b, 2, none⟩ = some (.map (some g)) := HOW.out.blk.cell 2
  have k1 : W.cell? ⟨P, 0, none⟩ = some (.int .i64 x) := HPW.out.cell 0
  have k2 : W.cell? ⟨P, 1, none⟩ = some (.int .i64 y) := HPW.out.cell 1
  have r1 := HOW.out.lk.run HXY.out.1 HXY.out.2
  have r2 := Lk.run (w := W.drew) HOW.out.lk HXY.out.1 HXY.out.2
  obtain ⟨F, hF⟩ : ∃ F, F = f x y := ⟨_, rfl⟩
  have hF1 : 1 ≤ F := by rw [hF]; exact hf1
  have hF2 : F ≤ 9223372036854775807 := by rw [hF]; exact hf2
  clear hf1 hf2
  rw [← hF] at r1 r2
  have HFF := Lib.hid hF
  clear hF
  obtain ⟨es, clock, hge, hO⟩ := HOW.out.lk
  obtain ⟨v0, st, es1, clock1, hE, hO1, j, e0, hj, hst, hk⟩ := lk_entry (w := W.drew) hge hO HXY.out.1 HXY.out.2
  obtain ⟨Z, hZ⟩ : ∃ Z, Z = ChangeMaps.setBlock W.drew g (.map es1 clock1) := ⟨_, rfl⟩
  rw [← hZ] at hE
  have hZg : Z.heap[g]? = some (.map es1 clock1) := by rw [hZ]; exact ChangeMaps.heap_setBlock_same hge _
  have r3 := Lk.run (w := Z) ⟨es1, clock1, hZg, hO1⟩ HXY.out.1 HXY.out.2
  rw [← HFF.out] at r3
  obtain ⟨es', hS, hO2⟩ := lk_store hZg hO1 hj hst hk (F - 1)
  obtain ⟨Y, hY⟩ : ∃ Y, Y = ChangeMaps.setBlock Z g (.map es' clock1) := ⟨_, rfl⟩
  rw [← hY] at hS
  have hE' : (Instr.mapEntry 42 (.map (some g)) (.agg #[.int .i64 x, .int .i64 y])).run Try.prog W.drew = .ok (.tuple #[v0, .int .i64 (st : Int)]) Z := hE
  have hS' : (Instr.entryStore 42 (.map (some g)) (.int .i64 (st : Int)) (.int .i64 (F - 1))).run Try.prog Z = .ok () Y := hS
  have HVY : Hid (Fr (justOf g) W Y) := Lib.hid (by rw [hY, hZ]; exact Fr.setBlock (Fr.setBlock (Fr.refl (justOf g) W).drew g (.inl rfl) _) g (.inl rfl) _)
  have HLY : Hid (Lk Y g (upd f x y (F - 1))) := Lib.hid (by rw [hY]; exact ⟨es', clock1, ChangeMaps.heap_setBlock_same hZg _, hO2⟩)
  clear hE hS hZ hY hge hO hO1 hj hst hk hO2 hZg
  go_region
  all_goals
    go_upto_region 3 with fail
  clear hE' hS' r1 r2 r3 n0 b2 k1 k2
  have HNY := Lib.hid (HNW.out.fr HVY.out (fun e => d2.2.1 e))
  have HIY := Lib.hid (HIW.out.fr HVY.out (fun e => d2.2.2.2.2.1 e))
  have HPY := Lib.hid (HPW.out.fr HVY.out (fun e => d1.2.2.2.1 (Eq.symm e)))
  have HBY := Lib.hid (HOW.out.blk.fr HVY.out (fun e => HOW.out.gb (Eq.symm e)))
  obtain ⟨cur, hr, hcs, hct⟩ := HOW.out.row
  have hrW : r < W.heap.size := by
    rcases Nat.lt_or_ge r W.heap.size with hl | hl
    · exact hl
    · rw [Array.getElem?_eq_none hl] at hr; cases hr
  have HRY : Hid (Y.heap[r]? = some (.cells cur 27 (0, 0)) ∧ cur.size = cap * 3 ∧ cur.toList.take (L.length * 3) = pkCells L) := Lib.hid ⟨(HVY.out.block r hrW HOW.out.rg).trans hr, hcs, hct⟩
  have HD : Hid (∀ w, w.heap[r]? = some (.cells cur 27 (0, 0)) → Calls Try.prog 22 #[.slice (some ⟨r, 0, none⟩) L.length cap, .int .i64 i, .int .i64 ((i : Int) + 1)] w fun e w' => e = .returned (.slice (some ⟨r, 0, none⟩) (L.length - 1 : Nat) cap) ∧ (∃ cur', w'.heap[r]? = some (.cells cur' 27 (0, 0)) ∧ cur'.size = cap * 3 ∧ cur'.toList.take ((L.length - 1) * 3) = pkCells (L.eraseIdx i)) ∧ Fr (justOf r) w w') := Lib.hid (fun w hw => by
    have h := delete_pk r cap cur L i (i + 1) w hw HO.out.len HO.out.cap hcs hct (Lib.hid rfl) (by omega)
    simpa using h)
  clear hr hcs hct hrW
  have n0 : Y.cell? ⟨N, 0, none⟩ = some (.pointer (some ⟨b, 0, none⟩)) := HNY.out.cell 0
  have b1 : Y.cell? ⟨b, 1, none⟩ = some (.slice (some ⟨r, 0, none⟩) L.length cap) := HBY.out.cell 1
  have i0 : Y.cell? ⟨I, 0, none⟩ = some (.int .i64 i) := HIY.out.cell 0
  have hcap := HO.out.cap
  have hlen := HO.out.len
  unfold maxLen at hcap
  have HST : Hid (∀ (w : World) u, (w.cell? ⟨N, 0, none⟩ = some (.pointer (some ⟨b, 0, none⟩)) ∧ w.cell? ⟨I, 0, none⟩ = some (.int .i64 i)) → ((w.setCell ⟨b, 1, none⟩ u).cell? ⟨N, 0, none⟩ = some (.pointer (some ⟨b, 0, none⟩)) ∧ (w.setCell ⟨b, 1, none⟩ u).cell? ⟨I, 0, none⟩ = some (.int .i64 i))) := Lib.hid (fun w u h =>
    ⟨(World.cell?_setCell_other w ⟨b, 1, none⟩ ⟨N, 0, none⟩ u (fun e => d2.1 (congrArg Addr.block e).symm)).trans h.1, (World.cell?_setCell_other w ⟨b, 1, none⟩ ⟨I, 0, none⟩ u (fun e => d2.2.2.2.1 (congrArg Addr.block e).symm)).trans h.2⟩)
  have hle : i + 1 ≤ L.length := by omega
  have hwr : IntKind.i64.wrap ((i : Int) + 1) = (i : Int) + 1 := IntWalk.i64_in _ (by omega)
  have HRD : Hid (Y.drew.heap[r]? = some (.cells cur 27 (0, 0))) := Lib.hid HRY.out.1
  refine wp_region_noPanic ?_
  refine wp_region_held_drew (S := fun w' => w'.cell? ⟨N, 0, none⟩ = some (.pointer (some ⟨b, 0, none⟩)) ∧ w'.cell? ⟨I, 0, none⟩ = some (.int .i64 i)) (by kernel_rfl) ⟨n0, i0⟩ (fun hHeld => ?_)
  refine wpAnyH_take (i := 0) (v := ?_) rfl (by kernel_rfl) (by kernel_rfl) (by kernel_rfl) (fun _ _ _ h => h) (Or.inl ⟨by rfl, ?_⟩) hHeld ?_; rotate_left; focus (intro w hSw; (try dsimp only at hSw); go_simp; with_reducible rfl)
  try simp only [Act.put, List.setIfInBounds_toArray, List.set_cons_zero, List.set_cons_succ]
  refine wpAnyH_take (i := 1) (v := ?_) rfl (by kernel_rfl) (by kernel_rfl) (by kernel_rfl) (fun _ _ _ h => h) (Or.inl ⟨by rfl, ?_⟩) hHeld ?_; rotate_left; focus (intro w hSw; (try dsimp only at hSw); go_simp; with_reducible rfl)
  try simp only [Act.put, List.setIfInBounds_toArray, List.set_cons_zero, List.set_cons_succ]
  refine wpAnyH_take (i := 2) (v := ?_) rfl (by kernel_rfl) (by kernel_rfl) (by kernel_rfl) (fun _ _ _ h => h) (Or.inl ⟨by rfl, ?_⟩) hHeld ?_; rotate_left; focus (intro w hSw; (try dsimp only at hSw); go_simp; with_reducible rfl)
  try simp only [Act.put, List.setIfInBounds_toArray, List.set_cons_zero, List.set_cons_succ]
  refine wpAnyH_take (i := 3) (v := ?_) rfl (by kernel_rfl) (by kernel_rfl) (by kernel_rfl) (fun _ _ _ h => h) (Or.inl ⟨by rfl, ?_⟩) hHeld ?_; rotate_left; focus (intro w hSw; (try dsimp only at hSw); go_simp; with_reducible rfl)
  try simp only [Act.put, List.setIfInBounds_toArray, List.set_cons_zero, List.set_cons_succ]
  refine wpAnyH_take (i := 5) (v := ?_) rfl (by kernel_rfl) (by kernel_rfl) (by kernel_rfl) (fun _ _ _ h => h) (Or.inl ⟨by rfl, ?_⟩) hHeld ?_; rotate_left; focus (intro w hSw; (try dsimp only at hSw); go_simp; with_reducible rfl)
  try simp only [Act.put, List.setIfInBounds_toArray, List.set_cons_zero, List.set_cons_succ]
  refine wpAnyH_take (i := 6) (v := ?_) rfl (by kernel_rfl) (by kernel_rfl) (by kernel_rfl) (fun _ _ _ h => h) (Or.inl ⟨by rfl, ?_⟩) hHeld ?_; rotate_left; focus (intro w hSw; (try dsimp only at hSw); go_simp; with_reducible rfl)
  try simp only [Act.put, List.setIfInBounds_toArray, List.set_cons_zero, List.set_cons_succ]
  refine wpAnyH_take (i := 7) (v := ?_) rfl (by kernel_rfl) (by kernel_rfl) (by kernel_rfl) (fun _ _ _ h => h) (Or.inl ⟨by rfl, ?_⟩) hHeld ?_; rotate_left; focus (intro w hSw; (try dsimp only at hSw); go_simp; with_reducible rfl)
  try simp only [Act.put, List.setIfInBounds_toArray, List.set_cons_zero, List.set_cons_succ]
  refine wpAnyH_ready (rs := [4]) (by kernel_rfl) (by simp) (AllReadyH.cons (i := 4) rfl (fun K hK => ?_) AllReadyH.nil)
  go_simp
  refine hK.out _ _ ⟨n0, i0⟩ (fun hHeld => ?_)
  clear hK K
  try simp only [Act.put, List.setIfInBounds_toArray, List.set_cons_zero, List.set_cons_succ]
  refine wpAnyH_ready (rs := [8]) (by kernel_rfl) (by simp) (AllReadyH.cons (i := 8) rfl (fun K hK => ?_) AllReadyH.nil)
  go_simp
  go_at_call 22; (with_reducible refine (HD.out _ HRD.out).mono ?_); rintro e w3 ⟨rfl, hc3, hf3⟩; have n3 : w3.cell? ⟨N, 0, none⟩ = some (.pointer (some ⟨b, 0, none⟩)) := (HNY.out.drew.fr hf3 d2.2.2.1).cell 0; have i3 : w3.cell? ⟨I, 0, none⟩ = some (.int .i64 i) := (HIY.out.drew.fr hf3 d2.2.2.2.2.2).cell 0; have HB3 := Lib.hid (HBY.out.drew.fr hf3 (fun e => HOW.out.rb (Eq.symm e))); have b3 : w3.cell? ⟨b, 1, none⟩ = some (.slice (some ⟨r, 0, none⟩) L.length cap) := HB3.out.cell 1; have f3 : w3.frozen? ⟨b, 1, none⟩ = false := HB3.out.frozen 1
  go_wp2_with fail
  refine hK.out _ _ ⟨n3, i3⟩ (fun hHeld => ?_)
  clear hK K
  try simp only [Act.put, List.setIfInBounds_toArray, List.set_cons_zero, List.set_cons_succ]
  refine wpAnyH_take (i := 9) (v := ?_) rfl (by kernel_rfl) (by kernel_rfl) (by kernel_rfl) (fun _ _ _ h => h) (Or.inl ⟨by rfl, ?_⟩) hHeld ?_; rotate_left; focus (intro w hSw; (try dsimp only at hSw); go_simp; with_reducible rfl)
  try simp only [Act.put, List.setIfInBounds_toArray, List.set_cons_zero, List.set_cons_succ]
  refine wpAnyH_take (i := 10) (v := ?_) rfl (by kernel_rfl) (by kernel_rfl) (by kernel_rfl) (fun _ _ _ h => h) (Or.inl ⟨by rfl, ?_⟩) hHeld ?_; rotate_left; focus (intro w hSw; (try dsimp only at hSw); go_simp; with_reducible rfl)
  try simp only [Act.put, List.setIfInBounds_toArray, List.set_cons_zero, List.set_cons_succ]
  refine wpAnyH_ready (rs := [11]) (by kernel_rfl) (by simp) (AllReadyH.cons (i := 11) rfl (fun K hK => ?_) AllReadyH.nil)
  go_simp
  refine hK.out _ _ (HST.out _ _ ⟨n3, i3⟩) (fun hHeld => ?_)
  clear hK K
  try simp only [Act.put, List.setIfInBounds_toArray, List.set_cons_zero, List.set_cons_succ]
  refine wpAnyH_done (by kernel_rfl) (NoPanic.normal ?_) _
  go_wp2
  go_ret
  obtain ⟨cur', hr3, hs3, hc3⟩ := hc3
  have q3 : Fr (justOf r) Y w3 := Fr.trans (Fr.refl (justOf r) Y).drew hf3
  have hst : Fr (justOf b) w3 (w3.setCell ⟨b, 1, none⟩ (.slice (some ⟨r, 0, none⟩) (L.length - 1 : Nat) cap)) := Fr.put b 1 _ (Fr.refl (justOf b) w3)
  have hle1 : (L.eraseIdx i).length = L.length - 1 := by rw [List.length_eraseIdx]; simp [hil]
  have hrw : r < w3.heap.size := by
    rcases Nat.lt_or_ge r w3.heap.size with hl | hl
    · exact hl
    · rw [Array.getElem?_eq_none hl] at hr3; cases hr3
  refine ⟨rfl, (HPY.out.fr q3 (fun e => d1.2.2.2.2 (Eq.symm e))).fr hst (fun e => d1.2.2.1 (Eq.symm e)), ⟨?_, ?_, ⟨cur', (hst.block r hrw HOW.out.rb).trans hr3, hs3, ?_⟩, ?_, HO.out.cap, HOW.out.gb, HOW.out.rb, HOW.out.rg⟩, ?_⟩
  · rw [hle1]
    exact HB3.out.set_ 1 _
  · rw [← HFF.out]
    exact lk_fr (lk_fr HLY.out q3 (fun e => HOW.out.rg (Eq.symm e))) hst HOW.out.gb
  · rw [hle1]; exact hc3
  · rw [hle1]; omega
  · have a1 : Fr (take1S P b g r) w W := HFW.out.mono (fun i e => .inl e)
    have a2 : Fr (take1S P b g r) W Y := HVY.out.mono (fun i e => .inr (.inr (.inl e)))
    have a3 : Fr (take1S P b g r) Y w3 := q3.mono (fun i e => .inr (.inr (.inr e)))
    have a4 : Fr (take1S P b g r) w3 _ := hst.mono (fun i e => .inr (.inl e))
    exact ((a1.trans a2).trans a3).trans a4
end Go.Proofs.Ytblnmghbcgbgdaa
