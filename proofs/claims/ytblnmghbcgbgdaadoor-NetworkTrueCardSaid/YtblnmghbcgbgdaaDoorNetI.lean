/-
  A network whose packets are known one by one: Inject and Spoil.
  Conditions: none.
-/
import Derived.Test.YtblnmghbcgbgdaaDoorNetQb
import Derived.Test.YtblnmghbcgbgdaaDoorSpoil
namespace Go.Proofs.YtblnmghbcgbgdaaDoor
open Go.RowKit Crc
set_option linter.unusedVariables false
set_option linter.unusedSimpArgs false
/-- A text that check.Open does not open. -/
def NoOpen (s : ByteArray) : Prop := Hid (∀ w, Calls Tryd.prog 25 #[.string s] w fun e w' => (∃ (S : ByteArray) (n : Int), (n == 0) = false ∧ e = .returned (.tuple #[.string S, .iface 32 (.int .i64 n)])) ∧ Fr noneOf w w')
theorem open_cases (s : ByteArray) (hs : s.size ≤ 4100) : (∃ S : ByteArray, Hid (∀ w, Calls Tryd.prog 25 #[.string s] w fun e w' => e = .returned (.tuple #[.string S, .nilIface]) ∧ Fr noneOf w w')) ∨ NoOpen s := by
  by_cases h : s.size < 4
  · exact .inr (Lib.hid (fun w => (open_short s w h).mono fun e w' ⟨a, b⟩ => ⟨⟨_, 11, rfl, a⟩, b⟩))
  · cases hg : (tailB (crc (List.take (s.size - 4) s.data.toList))).toList == (s.extract (s.size - 4) s.size).toList
    · exact .inr (Lib.hid (fun w => (open_bad s (s.size - 4) w (by omega) (by omega) hg).mono fun e w' ⟨a, b⟩ => ⟨⟨_, 17, rfl, a⟩, b⟩))
    · exact .inl ⟨_, Lib.hid (fun w => open_good s (s.size - 4) w (by omega) (by omega) hg)⟩
/-- What Inject leaves. -/
def Injected (base : Nat) (room : Int) (k : Nat) (L : List Pk) (b : Nat) (q : Pk) (w : World) (ok : Bool) (w' : World) : Prop := (∃ L', NetL base room (k + 1) L' b w' ∧ (L' = L ∨ (NoOpen q.s ∧ okPk q ∧ L' = L ++ [q]))) ∧ Fr (SO base b w) w w'
set_option maxRecDepth 100000 in
theorem injectL {base : Nat} {room : Int} {k b : Nat} {L : List Pk} (x y : Int) (s : ByteArray) {w : World} (h : NetL base room k L b w) (hk : k ≤ 90) (hr : room ≤ 12) (hx : 0 ≤ x ∧ x ≤ 3) (hy : 0 ≤ y ∧ y ≤ 3) (hs : s.size ≤ 4100) :
    Calls Tryd.prog 20 #[.pointer (some ⟨b, 0, none⟩), .agg #[.int .i64 x, .int .i64 y, .string s]] w (Tells (Injected base room k L b ⟨x, y, s⟩ w)) := by
  have HBX := Lib.hid (Blk.new w 53 #[.int .i64 x, .int .i64 y, .string s])
  have hfb : Fr noneOf w (w.alloc (.cells #[.int .i64 x, .int .i64 y, .string s] 53)) := (Fr.refl noneOf w).alloc _
  have HFB := Lib.hid hfb
  have HN := Lib.hid h
  rcases open_cases s hs with ⟨S, HO⟩ | HO
  · clear h hs
    go_enter Tryd.func20, Tryd.ntmps20
    go_wp2_with (go_at_call 25; refine (HO.out _).mono ?_; rintro e w1 ⟨rfl, hf1⟩; have HF1 := Lib.hid (HFB.out.trans hf1); have d0 : w1.cell? ⟨w.heap.size, 0, none⟩ = some (.int .i64 x) := (HBX.out.fr0 hf1).cell 0; have d1 : w1.cell? ⟨w.heap.size, 1, none⟩ = some (.int .i64 y) := (HBX.out.fr0 hf1).cell 1; have d2 : w1.cell? ⟨w.heap.size, 2, none⟩ = some (.string s) := (HBX.out.fr0 hf1).cell 2; clear hf1)
    go_ret
    exact ⟨false, rfl, ⟨L, (HN.out.fr HF1.out).more (by omega), .inl rfl⟩, HF1.out.of0 _⟩
  · have HNO := Lib.hid HO
    have hbl : b < w.heap.size := by obtain ⟨_, ⟨_, _, hB, _⟩, _⟩ := h; exact hB.lt
    unfold NoOpen at HO
    have HS : Hid (∀ w', Fr noneOf w w' → Calls Tryd.prog 19 #[.pointer (some ⟨b, 0, none⟩), .agg #[.int .i64 x, .int .i64 y, .string s]] w' (Tells (Injected base room k L b ⟨x, y, s⟩ w))) := Lib.hid (fun w' hf => (sendL x y s (h.fr hf) hk hr hx hy (by omega)).mono fun e w'' ⟨ok, he, hn, hok, hf2⟩ => ⟨ok, he, ⟨_, hn, by cases ok; exact .inl rfl; exact .inr ⟨HNO.out, hok rfl, rfl⟩⟩, (hf.of0 (SO base b w)).trans' hf2 (fun i hi e => ⟨e.1, e.2.back hf hbl⟩)⟩)
    clear h hs
    go_enter Tryd.func20, Tryd.ntmps20
    go_wp2_with (first
      | (go_at_call 25; refine (HO.out _).mono ?_; rintro e w1 ⟨⟨S, n, hn, rfl⟩, hf1⟩; have HF1 := Lib.hid (HFB.out.trans hf1); have d0 : w1.cell? ⟨w.heap.size, 0, none⟩ = some (.int .i64 x) := (HBX.out.fr0 hf1).cell 0; have d1 : w1.cell? ⟨w.heap.size, 1, none⟩ = some (.int .i64 y) := (HBX.out.fr0 hf1).cell 1; have d2 : w1.cell? ⟨w.heap.size, 2, none⟩ = some (.string s) := (HBX.out.fr0 hf1).cell 2; clear hf1)
      | (go_at_call 19; (with_reducible refine (HS.out _ HF1.out).mono ?_); rintro e w2 ⟨ok, rfl, hR⟩))
    go_ret
    exact ⟨ok, rfl, hR⟩
/-! Spoil. -/
theorem pkCells_set (L : List Pk) : ∀ (i : Nat) (p : Pk) (s : ByteArray), L[i]? = some p → pkCells (L.set i ⟨p.x, p.y, s⟩) = (pkCells L).set (i * 3 + 2) (.string s) := by
  induction L with
  | nil => intro i p s h; simp at h
  | cons q L ih =>
    intro i p s h
    cases i with
    | zero =>
      simp at h
      subst h
      simp [pkCells_cons, Pk.cells]
    | succ i =>
      have h' : L[i]? = some p := by simpa using h
      rw [List.set_cons_succ, pkCells_cons, ih i p s h', pkCells_cons]
      rw [show (i + 1) * 3 + 2 = (i * 3 + 2) + 3 by omega]
      simp [Pk.cells]
theorem cnt_set (L : List Pk) : ∀ (i : Nat) (p : Pk) (s : ByteArray), L[i]? = some p → cnt (L.set i ⟨p.x, p.y, s⟩) = cnt L := by
  induction L with
  | nil => intro i p s h; simp at h
  | cons q L ih =>
    intro i p s h
    cases i with
    | zero =>
      simp at h
      subst h
      funext a c
      simp [cnt]
    | succ i =>
      have h' : L[i]? = some p := by simpa using h
      funext a c
      rw [List.set_cons_succ]
      simp only [cnt]
      rw [ih i p s h']
/-- What the closure of Spoil leaves. -/
def Spoilt (room lost : Int) (L : List Pk) (f : Int → Int → Int) (b g r cap i : Nat) (p : Pk) (w : World) (ok : Bool) (w' : World) : Prop :=
  (Fr noneOf w w') ∨ (∃ s' : ByteArray, s'.size = p.s.size ∧ NoOpen s' ∧ Open23 room lost (L.set i ⟨p.x, p.y, s'⟩) f b g r cap w' ∧ Fr (justOf r) w w')
theorem Open23.spoil {room lost : Int} {L : List Pk} {f : Int → Int → Int} {b g r cap i : Nat} {p : Pk} {w : World} (h : Open23 room lost L f b g r cap w) (hi : L[i]? = some p) (s : ByteArray) :
    Open23 room lost (L.set i ⟨p.x, p.y, s⟩) f b g r cap (w.setCell ⟨r, i * 3 + 2, none⟩ (.string s)) := by
  have hil : i < L.length := by rw [List.getElem?_eq_some_iff] at hi; exact hi.1
  have hf : Fr (justOf r) w (w.setCell ⟨r, i * 3 + 2, none⟩ (.string s)) := Fr.put r (i * 3 + 2) (.string s) (Fr.refl _ _)
  obtain ⟨cur, hr, h5, h6⟩ := h.row
  refine ⟨?_, lk_fr h.lk hf (fun e => h.rg e.symm), ⟨cur.setIfInBounds (i * 3 + 2) (.string s), heap_setCell_same w r (i * 3 + 2) cur 53 (.string s) hr, by simpa using h5, ?_⟩, by rw [List.length_set]; exact h.len, h.cap, h.gb, h.rb, h.rg⟩
  · rw [List.length_set]
    exact h.blk.fr hf (fun e => h.rb e.symm)
  · rw [List.length_set, pkCells_set L i p s hi, ← h6, Array.toList_setIfInBounds, List.take_set]
set_option maxRecDepth 100000 in
theorem spoil1 (room lost : Int) (L : List Pk) (f : Int → Int → Int) (b g r cap A B i : Nat) (p : Pk) (at_ d0 d1 d2 d3 : Int) (w : World) (h : Open23 room lost L f b g r cap w) (hi : L[i]? = some p) (hsz : p.s.size ≤ 4100) (h0 : -9223372036854775808 ≤ at_) (h1 : at_ ≤ 9223372036854775807)
    (hA : Blk w A 3 #[.int .i64 at_]) (hB : Blk w B 49 #[.int .u8 d0, .int .u8 d1, .int .u8 d2, .int .u8 d3]) :
    Calls Tryd.prog 53 #[.pointer (some ⟨r, i * 3, none⟩), .pointer (some ⟨A, 0, none⟩), .pointer (some ⟨B, 0, none⟩)] w (Tells (Spoilt room lost L f b g r cap i p w)) := by
  have hil : i < L.length := by rw [List.getElem?_eq_some_iff] at hi; exact hi.1
  have H := Lib.hid h
  have HI := Lib.hid hi
  obtain ⟨cur, hr, hcs, hct⟩ := h.row
  have hc : ∀ k, k < L.length * 3 → w.cell? ⟨r, k, none⟩ = (pkCells L)[k]? := fun k hk => by
    rw [cell_of_row w r k cur _ (0, 0) hr, ← hct, List.getElem?_take, if_pos hk]; simp
  obtain ⟨e0, e1, e2⟩ := pkCells_at L i _ hi
  have c2 : w.cell? ⟨r, i * 3 + 2, none⟩ = some (.string p.s) := (hc _ (by omega)).trans e2
  have a0 : w.cell? ⟨A, 0, none⟩ = some (.int .i64 at_) := hA.cell 0
  have b0 : w.cell? ⟨B, 0, none⟩ = some (.int .u8 d0) := hB.cell 0
  have b1 : w.cell? ⟨B, 1, none⟩ = some (.int .u8 d1) := hB.cell 1
  have b2 : w.cell? ⟨B, 2, none⟩ = some (.int .u8 d2) := hB.cell 2
  have b3 : w.cell? ⟨B, 3, none⟩ = some (.int .u8 d3) := hB.cell 3
  have HSP := Lib.hid (fun w => wspoil_any p.s at_ d0 d1 d2 d3 w hsz h0 h1)
  obtain ⟨px, py, ps⟩ := p
  dsimp only at *
  have HZ := Lib.hid hsz
  have hFZ : ∀ w', Fr noneOf w w' → w'.frozen? ⟨r, i * 3 + 2, none⟩ = false := fun w' hf => by
    have hr' : w'.heap[r]? = some (.cells cur 53 (0, 0)) := (hf.block r (by
      rcases Nat.lt_or_ge r w.heap.size with hl | hl
      · exact hl
      · rw [Array.getElem?_eq_none hl] at hr; cases hr) (fun x => x)).trans hr
    exact frozen_of_row w' r _ cur _ hr'
  have HFZ := Lib.hid hFZ
  have hrl : r < w.heap.size := by
    rcases Nat.lt_or_ge r w.heap.size with hl | hl
    · exact hl
    · rw [Array.getElem?_eq_none hl] at hr; cases hr
  have HCZ : Hid (∀ w', Fr noneOf w w' → w'.cell? ⟨r, i * 3 + 2, none⟩ = some (.string ps)) := Lib.hid (fun w' hf => (hf.cell (p := ⟨r, i * 3 + 2, none⟩) hrl (fun x => x)).trans c2)
  clear hrl
  clear h hi h0 h1 hA hB hr hcs hct hc e0 e1 e2 hsz hFZ
  go_enter Tryd.func53, Tryd.ntmps53
  go_wp2
  refine wp_region_still_tail 6 (by kernel_rfl) (by kernel_rfl) ?_
  simp only [List.take_succ_cons, List.take_zero, List.drop_succ_cons, List.drop_zero]
  change wpStill _ _ (World.drew _) (fun a' => wpList _ _ _ _ a' (World.drew _)) _ _
  repeat still_step
  try refine wpStill_nil ?_
  have hdw : Fr noneOf w w.drew := (Fr.refl noneOf w).drew
  go_wp2_with (first
    | (go_at_call 54; (with_reducible refine (HSP.out _).mono ?_); rintro e w1 ⟨s', rfl, hsz, hf1⟩; have HF1 := Lib.hid (hdw.trans hf1); have HSZ := Lib.hid hsz; clear hsz hf1; rcases open_cases s' (by have := HSZ.out; have := HZ.out; omega) with ⟨S, HO⟩ | HNO)
    | (go_at_call 25; (with_reducible refine (HO.out _).mono ?_); rintro e w2 ⟨rfl, hf2⟩; have HF2 := Lib.hid (HF1.out.trans hf2); clear hf2)
    | (go_at_call 25; have hno := HNO; unfold NoOpen at hno; (with_reducible refine (hno.out _).mono ?_); rintro e w2 ⟨⟨S, n, hn, rfl⟩, hf2⟩; have HF2 := Lib.hid (HF1.out.trans hf2); have z2 := HFZ.out w2 HF2.out; have k2 := HCZ.out w2 HF2.out; clear hf2 hno))
  · go_ret
    exact ⟨false, rfl, .inl HF2.out⟩
  · go_ret
    have e : (⟨px, py, s'⟩ : Pk) = ⟨(⟨px, py, ps⟩ : Pk).x, (⟨px, py, ps⟩ : Pk).y, s'⟩ := rfl
    exact ⟨true, rfl, .inr ⟨s', HSZ.out, HNO, (H.out.fr HF2.out (fun x => x) (fun x => x) (fun x => x)).spoil HI.out s', Fr.put r _ _ (HF2.out.of0 _)⟩⟩
set_option maxRecDepth 100000 in
theorem with_spoil (room lost : Int) (L : List Pk) (f : Int → Int → Int) (b g r cap A B i : Nat) (p : Pk) (at_ d0 d1 d2 d3 : Int) (w : World) (h : Open23 room lost L f b g r cap w) (hi : L[i]? = some p) (hsz : p.s.size ≤ 4100) (h0 : -9223372036854775808 ≤ at_) (h1 : at_ ≤ 9223372036854775807)
    (hA : Blk w A 3 #[.int .i64 at_]) (hB : Blk w B 49 #[.int .u8 d0, .int .u8 d1, .int .u8 d2, .int .u8 d3]) :
    Calls Tryd.prog 49 #[.pointer (some ⟨b, 0, none⟩), .int .i64 i, .func (.func 53) #[] #[.pointer (some ⟨A, 0, none⟩), .pointer (some ⟨B, 0, none⟩)]] w (Tells (Spoilt room lost L f b g r cap i p w)) := by
  have hil : i < L.length := by rw [List.getElem?_eq_some_iff] at hi; exact hi.1
  have T1 := Lib.hid (spoil1 room lost L f b g r cap A B i p at_ d0 d1 d2 d3 w h hi hsz h0 h1 hA hB)
  have OL := Lib.hid (open_len h)
  have c1 : w.cell? ⟨b, 1, none⟩ = some (.slice (some ⟨r, 0, none⟩) L.length cap) := h.blk.cell 1
  have hi0 : (0 : Int) ≤ (i : Int) := by omega
  have hi1 : ¬ ((L.length : Int) ≤ (i : Int)) := by omega
  have hi2 : (i : Int) < (L.length : Int) := by omega
  have hcap := h.cap
  unfold maxLen at hcap
  clear h hi hA hB h0 h1 hsz
  go_enter Tryd.func49, Tryd.ntmps49
  go_wp2_with (first
    | (go_at_call 44; (with_reducible refine OL.out.mono ?_); rintro e w' ⟨rfl, rfl⟩)
    | (go_at_call 53; (with_reducible refine T1.out.mono ?_); rintro e w1 ⟨ok, rfl, hR⟩))
  go_ret
  exact ⟨ok, rfl, hR⟩
/-- What Spoil leaves. -/
def SpoiltL (base : Nat) (room : Int) (k : Nat) (L : List Pk) (b : Nat) (w : World) (ok : Bool) (w' : World) : Prop := (∃ L', NetL base room k L' b w' ∧ (L' = L ∨ ∃ (i : Nat) (p : Pk) (s' : ByteArray), L[i]? = some p ∧ NoOpen s' ∧ L' = L.set i ⟨p.x, p.y, s'⟩)) ∧ Fr (SO base b w) w w'
set_option maxRecDepth 100000 in
theorem spoilL {base : Nat} {room : Int} {k b : Nat} {L : List Pk} (i : Nat) (at_ d0 d1 d2 d3 : Int) {w : World} (h : NetL base room k L b w) (h0 : -9223372036854775808 ≤ at_) (h1 : at_ ≤ 9223372036854775807) :
    Calls Tryd.prog 24 #[.pointer (some ⟨b, 0, none⟩), .int .i64 i, .int .i64 at_, .agg #[.int .u8 d0, .int .u8 d1, .int .u8 d2, .int .u8 d3]] w (Tells (SpoiltL base room k L b w)) := by
  have hN := h
  obtain ⟨lost, h2, h3, h4, h5, h6, h7, h8⟩ := h
  have hFA : Fr noneOf w (w.alloc (.cells #[.int .i64 at_] 3)) := (Fr.refl _ _).alloc _
  have hA := Blk.new w 3 #[.int .i64 at_]
  have hB := Blk.new (w.alloc (.cells #[.int .i64 at_] 3)) 49 #[.int .u8 d0, .int .u8 d1, .int .u8 d2, .int .u8 d3]
  rw [World.size_alloc] at hB
  have hFB := hFA.alloc (.cells #[.int .u8 d0, .int .u8 d1, .int .u8 d2, .int .u8 d3] 49)
  have hA2 := hA.alloc (.cells #[.int .u8 d0, .int .u8 d1, .int .u8 d2, .int .u8 d3] 49)
  by_cases hi : i < L.length
  · obtain ⟨p, hp⟩ : ∃ p, L[i]? = some p := ⟨L[i], List.getElem?_eq_getElem hi⟩
    have hok := h3 p (List.mem_of_getElem? hp)
    obtain ⟨g, r, cap, hO, q1, q2, q3⟩ := (h2.fr hFB).opened (by omega)
    have HC := Lib.hid (with_spoil room lost L (cnt L) b g r cap w.heap.size (w.heap.size + 1) i p at_ d0 d1 d2 d3 _ hO hp hok.2.2.2 h0 h1 hA2 hB)
    have HFB := Lib.hid hFB
    have HOB := Lib.hid hO.blk
    have HBL : Hid (b < w.heap.size) := Lib.hid (by obtain ⟨_, _, hB, _⟩ := h2; exact hB.lt)
    have HN := Lib.hid hN
    have HP := Lib.hid hp
    have HL : Hid (∀ s' : ByteArray, s'.size = p.s.size → (∀ q ∈ L.set i ⟨p.x, p.y, s'⟩, okPk q) ∧ cnt (L.set i ⟨p.x, p.y, s'⟩) = cnt L) := Lib.hid (fun s' hs' => ⟨fun q hq => by
      rcases List.mem_or_eq_of_mem_set hq with h | h
      · exact h3 q h
      · rw [h]; exact ⟨hok.1, hok.2.1, hok.2.2.1, by rw [hs']; exact hok.2.2.2⟩, cnt_set L i p s' hp⟩)
    have HQ := Lib.hid (And.intro q1 (And.intro q2 q3))
    have HB4 := Lib.hid (And.intro h4 (And.intro h5 (And.intro h6 (And.intro h7 h8))))
    clear h2 h3 h4 h5 h6 h7 h8 hN hp hO hFA hA hB hFB hA2 h0 h1 q1 q2 q3 hok
    go_enter Tryd.func24, Tryd.ntmps24
    go_wp2_with (go_at_call 49; (with_reducible refine HC.out.mono ?_); rintro e w1 ⟨ok, rfl, hR⟩)
    go_ret
    refine ⟨ok, rfl, ?_⟩
    rcases hR with hf | ⟨s', hs', hno, hO2, hf⟩
    · exact ⟨⟨L, HN.out.fr (HFB.out.trans hf), .inl rfl⟩, (HFB.out.trans hf).of0 _⟩
    · obtain ⟨o1, o2⟩ := HL.out s' hs'
      obtain ⟨b4, b5, b6, b7, b8⟩ := HB4.out
      have hsz := HFB.out.size
      refine ⟨⟨L.set i ⟨p.x, p.y, s'⟩, ⟨lost, ?_, o1, by rw [o2]; exact b4, b5, b6, by rw [List.length_set]; exact b7, Nat.le_trans b8 (Nat.le_trans hsz hf.size)⟩, .inr ⟨i, p, s', HP.out, hno, rfl⟩⟩, (HFB.out.of0 (SO base b w)).trans' hf (fun j hj e => by have e : j = r := e; exact ⟨by rw [e]; exact sx_of HQ.out.2.2, Own.back (.inr ⟨_, _, _, _, HOB.out, .inr (by rw [e]; rfl)⟩) HFB.out HBL.out⟩)⟩
      rw [o2]
      exact hO2.shut HQ.out.1 HQ.out.2.1 HQ.out.2.2
  · have HW := Lib.hid (with_out (h2.fr hFB) (i : Int) (by omega) (.func (.func 53) #[] #[.pointer (some ⟨w.heap.size, 0, none⟩), .pointer (some ⟨w.heap.size + 1, 0, none⟩)]))
    have HFB := Lib.hid hFB
    have HN := Lib.hid hN
    clear h2 h3 h4 h5 h6 h7 h8 hN hFA hA hB hFB hA2 h0 h1
    go_enter Tryd.func24, Tryd.ntmps24
    go_wp2_with (go_at_call 49; (with_reducible refine HW.out.mono ?_); rintro e w1 ⟨rfl, hf⟩)
    go_ret
    exact ⟨false, rfl, ⟨L, HN.out.fr (HFB.out.trans hf), .inl rfl⟩, (HFB.out.trans hf).of0 _⟩
end Go.Proofs.YtblnmghbcgbgdaaDoor
