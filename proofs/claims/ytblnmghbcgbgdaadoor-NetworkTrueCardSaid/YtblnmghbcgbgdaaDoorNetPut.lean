/-
  Contract of a network's Send.
-/
import Derived.Test.YtblnmghbcgbgdaaDoorNetQa
import Derived.Deep.DeepCutAuto
import Derived.Deep.RegionLaw
import Derived.Deep.AppendLies
namespace Go.Proofs.YtblnmghbcgbgdaaDoor
open Go.RowKit
set_option linter.unusedVariables false

theorem Fr.setBlock {S : Nat → Prop} {a w : World} (h : Fr S a w) (g : Nat) (hg : S g ∨ a.heap.size ≤ g) (o : Obj) : Fr S a (ChangeMaps.setBlock w g o) := by
  refine ⟨h.os, h.tape, h.output, by simpa [ChangeMaps.setBlock] using h.size, fun i hi hs => ?_⟩
  have hne : g ≠ i := by
    intro e
    subst e
    rcases hg with hg | hg
    · exact hs hg
    · omega
  have e : (ChangeMaps.setBlock w g o).heap[i]? = w.heap[i]? := by
    simp only [ChangeMaps.setBlock]
    exact Array.getElem?_setIfInBounds_ne hne
  exact e.trans (h.block i hi hs)
theorem ownsRow_frS {S : Nat → Prop} {base : Nat} {e : TypeId} {size n : Nat} {v : Value} {xs : List Value} {wr w' : World} (h : wr.ownsRow base e size v n xs) (hf : Fr S wr w') (hs : ∀ x, v.ownBlock = some x → ¬ S x) : w'.ownsRow base e size v n xs := by
  rcases h with ⟨h1, ⟨h2, h3⟩ | ⟨g, cap, cur, rfl, hb, hh, h4, h5⟩⟩
  · exact ⟨h1, .inl ⟨h2, h3⟩⟩
  · refine ⟨h1, .inr ⟨g, cap, cur, rfl, hb, ?_, h4, h5⟩⟩
    have hg : g < wr.heap.size := by
      by_cases hg : g < wr.heap.size
      · exact hg
      · rw [Array.getElem?_eq_none (by omega)] at hh; cases hh
    exact (hf.block g hg (hs g rfl)).trans hh
theorem packet_info : (Tryd.prog.info? 53).map (fun i => (i.zero, i.size, i.bytes)) = some (some (.agg #[.int .i64 0, .int .i64 0, .string ⟨#[]⟩]), 3, 32) := by kernel_rfl
theorem packet_new (w : World) (x y : Int) (s : ByteArray) (g : Nat) (hg : g = w.heap.size) : ∀ j u, [Value.int .i64 x, Value.int .i64 y, Value.string s][j]? = some u → (w.alloc (.cells #[.int .i64 x, .int .i64 y, .string s] 53)).cell? ((⟨g, 0, none⟩ : Addr).add j) = some u := by
  subst hg
  intro j u hj
  match j, hj with
  | 0, hj => simp at hj; subst hj; simp [Addr.add]
  | 1, hj => simp at hj; subst hj; simp [Addr.add]
  | 2, hj => simp at hj; subst hj; simp [Addr.add]
theorem packet_one (x y : Int) (s : ByteArray) : ∀ u ∈ [Value.int .i64 x, Value.int .i64 y, Value.string s], u.oneCell' = true := by
  intro u hu
  simp at hu
  rcases hu with rfl | rfl | rfl <;> rfl
set_option maxRecDepth 100000 in
theorem net_send {base : Nat} {room lost : Int} {n : Nat} {ps : List Value} {f : Int → Int → Int} {b : Nat} (x y : Int) (s : ByteArray) {w : World} (h : Nt base room lost n ps f b w) (hx : I64 x) (hy : I64 y) (hs : s.size ≤ 9223372036854775807) (hm : mayBe x y s.size = true) (hroom : f x y < room) (hr12 : room ≤ 12) (hf0 : 0 ≤ f x y) (hn : n ≤ 100000) (hbw : base ≤ w.heap.size + 1) :
    Calls Tryd.prog 19 #[.pointer (some ⟨b, 0, none⟩), .agg #[.int .i64 x, .int .i64 y, .string s]] w fun e w' => e = .returned (.bool true) ∧ Nt base room lost (n + 1) (ps ++ [.int .i64 x, .int .i64 y, .string s]) (upd f x y (f x y + 1)) b w' ∧ Fr (SO base b w) w w' := by
  have HM : Hid (∀ w, Calls Tryd.prog 48 #[.agg #[.int .i64 x, .int .i64 y, .string s]] w fun e w' => e = .returned (.bool true) ∧ Fr noneOf w w') := Lib.hid (fun w => by
    have := may_any x y s w hs
    rw [hm] at this
    exact this)
  have HBX := Lib.hid (Blk.new w 53 #[.int .i64 x, .int .i64 y, .string s])
  have H := Lib.hid h
  have HXY := Lib.hid (And.intro hx hy)
  have HR := Lib.hid hroom
  clear h hx hy hs hm hroom
  go_enter Tryd.func19, Tryd.ntmps19
  go_upto_region 4 with (go_at_call 48; refine (HM.out _).mono ?_; rintro e w1 ⟨rfl, hf1⟩; have d0 : w1.cell? ⟨w.heap.size, 0, none⟩ = some (.int .i64 x) := (HBX.out.fr0 hf1).cell 0; have d1 : w1.cell? ⟨w.heap.size, 1, none⟩ = some (.int .i64 y) := (HBX.out.fr0 hf1).cell 1)
  have hf4 := Lib.hid ((((Fr.refl noneOf w).alloc (.cells #[.int .i64 x, .int .i64 y, .string s] 53)).trans hf1).alloc (.cells #[.int .i64 x, .int .i64 y] 94))
  have HBK := Lib.hid (Blk.new w1 94 #[.int .i64 x, .int .i64 y])
  have hl1 : w.heap.size < w1.heap.size := by have := hf1.size; simp at this; omega
  obtain ⟨k0, hk0⟩ : ∃ k0, k0 = w1.heap.size := ⟨_, rfl⟩
  rw [← hk0] at HBK hl1
  obtain ⟨W, hW⟩ : ∃ W, W = w1.alloc (.cells #[.int .i64 x, .int .i64 y] 94) := ⟨_, rfl⟩
  rw [← hW] at hf4 HBK
  rw [← hk0, ← hW]
  obtain ⟨v, g, hB, hL, hO, h1, h2, h3, h4, h5⟩ := H.out
  obtain ⟨A, c, rfl, hnc, hzA, hAb⟩ := row_form hO
  have HOB := Lib.hid hB
  have HOW := Lib.hid hO
  have HNE := Lib.hid (And.intro h3 (And.intro h4 h5))
  have HBI := Lib.hid (And.intro h1 h2)
  have HB := Lib.hid (hB.fr0 hf4.out)
  have HL := Lib.hid (lk_fr hL hf4.out (fun x => x))
  have hgw : g < w.heap.size := by obtain ⟨_, _, hg, _⟩ := hL; exact (Array.getElem?_eq_some_iff.1 hg).1
  have hbw' : b < w.heap.size := hB.lt
  have HBXW : Hid (Blk W w.heap.size 53 #[.int .i64 x, .int .i64 y, .string s]) := Lib.hid (by rw [hW]; exact (HBX.out.fr0 hf1).alloc _)
  clear hk0 hW d0 d1 hf1 hnc hzA hAb
  have c0 : W.cell? ⟨b, 0, none⟩ = some (.int .i64 room) := HB.out.cell 0
  have c2 : W.cell? ⟨b, 2, none⟩ = some (.map (some g)) := HB.out.cell 2
  have k1 : W.cell? ⟨k0, 0, none⟩ = some (.int .i64 x) := HBK.out.cell 0
  have k2 : W.cell? ⟨k0, 1, none⟩ = some (.int .i64 y) := HBK.out.cell 1
  have r1 := HL.out.run HXY.out.1 HXY.out.2
  have r2 := Lk.run (w := W.drew) HL.out HXY.out.1 HXY.out.2
  obtain ⟨F, hF⟩ : ∃ F, F = f x y := ⟨_, rfl⟩
  have hFr : F < room := by rw [hF]; exact HR.out
  have hF0 : 0 ≤ F := by rw [hF]; exact hf0
  clear hf0
  rw [← hF] at r1 r2
  have HFF := Lib.hid hF
  clear hF hB hL hO h1 h2 h3 h4 h5
  go_region
  all_goals
    go_upto_region 7 with fail
  have HF5 := Lib.hid (hf4.out.drew)
  have HB5 := Lib.hid (HB.out.drew)
  have HBK5 := Lib.hid (HBK.out.drew)
  have HL5 : Hid (Lk W.drew g f) := Lib.hid HL.out
  have HBX5 := Lib.hid (HBXW.out.drew)
  obtain ⟨V, hV⟩ : ∃ V, V = W.drew := ⟨_, rfl⟩
  rw [← hV] at HF5 HB5 HBK5 HL5 HBX5 ⊢
  clear hV c0 c2 k1 k2 r1 r2
  have c2 : V.cell? ⟨b, 2, none⟩ = some (.map (some g)) := HB5.out.cell 2
  have k1 : V.cell? ⟨k0, 0, none⟩ = some (.int .i64 x) := HBK5.out.cell 0
  have k2 : V.cell? ⟨k0, 1, none⟩ = some (.int .i64 y) := HBK5.out.cell 1
  have r1 := HL5.out.run HXY.out.1 HXY.out.2
  have r2 := Lk.run (w := V.drew) HL5.out HXY.out.1 HXY.out.2
  rw [← HFF.out] at r1 r2
  obtain ⟨es, clock, hge, hO⟩ := HL5.out
  obtain ⟨v0, st, es1, clock1, hE, hO1, j, e0, hj, hst, hk⟩ := lk_entry (w := V.drew) hge hO HXY.out.1 HXY.out.2
  obtain ⟨Z, hZ⟩ : ∃ Z, Z = ChangeMaps.setBlock V.drew g (.map es1 clock1) := ⟨_, rfl⟩
  rw [← hZ] at hE
  have hZg : Z.heap[g]? = some (.map es1 clock1) := by rw [hZ]; exact ChangeMaps.heap_setBlock_same hge _
  have r3 := Lk.run (w := Z) ⟨es1, clock1, hZg, hO1⟩ HXY.out.1 HXY.out.2
  rw [← HFF.out] at r3
  obtain ⟨es', hS, hO2⟩ := lk_store hZg hO1 hj hst hk (F + 1)
  obtain ⟨Y, hY⟩ : ∃ Y, Y = ChangeMaps.setBlock Z g (.map es' clock1) := ⟨_, rfl⟩
  rw [← hY] at hS
  have hE' : (Instr.mapEntry 87 (.map (some g)) (.agg #[.int .i64 x, .int .i64 y])).run Tryd.prog V.drew = .ok (.tuple #[v0, .int .i64 (st : Int)]) Z := hE
  have hS' : (Instr.entryStore 87 (.map (some g)) (.int .i64 (st : Int)) (.int .i64 (F + 1))).run Tryd.prog Z = .ok () Y := hS
  have HFY : Hid (Fr (justOf g) w Y) := Lib.hid (by rw [hY, hZ]; exact Fr.setBlock (Fr.setBlock (Fr.of0 (justOf g) HF5.out.drew) g (.inl rfl) _) g (.inl rfl) _)
  have HVY : Hid (Fr (justOf g) V Y) := Lib.hid (by rw [hY, hZ]; exact Fr.setBlock (Fr.setBlock (Fr.refl (justOf g) V).drew g (.inl rfl) _) g (.inl rfl) _)
  have HO2 := Lib.hid hO2
  have HZ := Lib.hid hZ
  have HY := Lib.hid hY
  have HZG := Lib.hid hZg
  clear hE hS hZ hY hge hO hO1 hj hst hk hO2 hZg
  go_region
  all_goals
    go_upto_region 8 with fail
  clear hE' hS' r1 r2 r3 c2 k1 k2
  have HBY := Lib.hid (Blk.fr HB5.out HVY.out (fun e => HNE.out.1 (Eq.symm e)))
  have HBXY := Lib.hid (Blk.fr HBX5.out HVY.out (fun e => by have e : w.heap.size = g := e; omega))
  have HOY := Lib.hid (ownsRow_frS HOW.out HFY.out (fun z hz e => HNE.out.2.2 (by rw [hz, show z = g from e])))
  have c1 : Y.cell? ⟨b, 1, none⟩ = some (.slice A n c) := HBY.out.cell 1
  have f1 : Y.frozen? ⟨b, 1, none⟩ = false := HBY.out.frozen 1
  have m0 : Y.cell? ⟨w.heap.size, 0, none⟩ = some (.int .i64 x) := HBXY.out.cell 0
  have m1 : Y.cell? ⟨w.heap.size, 1, none⟩ = some (.int .i64 y) := HBXY.out.cell 1
  have m2 : Y.cell? ⟨w.heap.size, 2, none⟩ = some (.string s) := HBXY.out.cell 2
  have hbY : b < Y.heap.size := by have := HFY.out.size; omega
  have hwY : w.heap.size < Y.heap.size := HBXY.out.lt
  have hbaY : base ≤ Y.heap.size := by omega
  obtain ⟨i0, hi, hz0, hz1, hz2⟩ := info_parts packet_info
  go_region_law (refine step_append_lies _ (by rfl) (.tmp 49) (.tmp 51) 88 (by rfl) base 53 i0 _ 3 32 Tryd.underlying88 hi hz0 hz1 hz2 (by rfl) (by decide) (.slice A n c) n ps (by rfl) (ownsRow_frS HOY.out (by repeat (first | exact Fr.refl noneOf _ | apply Fr.drew | apply Fr.alloc)) (fun _ _ x => x)) ⟨Y.heap.size, 0, none⟩ 1 1 [.int .i64 x, .int .i64 y, .string s] (by rfl) (by rfl) (packet_new _ x y s _ (by simp)) (packet_one x y s) (by omega) (by unfold maxLen; omega) (by omega) (by simp; omega) _ rfl ?_; intro g2 cp w2 hown hgrow hor hlt; have d1 : w2.cell? ⟨b, 1, none⟩ = some (.slice A n c) := (hgrow.cell_far ⟨b, 1, none⟩ (by simp; omega) (fun e => HNE.out.2.1 (Eq.symm e))).trans ((Fr.cell (S := noneOf) (a := Y) (by repeat (first | exact Fr.refl _ _ | apply Fr.drew | apply Fr.alloc)) (by exact hbY) (fun x => x)).trans c1); have d4 : w2.frozen? ⟨b, 1, none⟩ = false := (hgrow.frozen_far ⟨b, 1, none⟩ (by simp; omega) (fun e => HNE.out.2.1 (Eq.symm e))).trans ((Fr.frozen (S := noneOf) (a := Y) (by repeat (first | exact Fr.refl _ _ | apply Fr.drew | apply Fr.alloc)) (by exact hbY) (fun x => x)).trans f1))
  all_goals
    go_wp2
    go_ret
    have hFX : Fr (fun i => (Value.slice A n c).ownBlock = some i) Y w2 := Fr.trans (by repeat (first | exact Fr.refl _ _ | apply Fr.drew | apply Fr.alloc)) (Fr.of_grown hgrow (fun g hg => .inl hg))
    have hg2 : g2 ≠ b ∧ g2 ≠ g := by
      have hgY : g < Y.heap.size := by have := HFY.out.size; omega
      rcases hor with h | h
      · exact ⟨fun e => HNE.out.2.1 (by rw [h, e]), fun e => HNE.out.2.2 (by rw [h, e])⟩
      · simp at h
        omega
    have hLY : Lk Y g (upd f x y (f x y + 1)) := by
      refine ⟨es', clock1, ?_, ?_⟩
      · rw [HY.out]; exact ChangeMaps.heap_setBlock_same HZG.out _
      · rw [← HFF.out]; exact HO2.out
    have hst : ∀ u, Fr (justOf b) w2 (w2.setCell ⟨b, 1, none⟩ u) := fun u => Fr.put b 1 u (Fr.refl (justOf b) w2)
    refine ⟨rfl, ⟨_, g, (HBY.out.fr hFX HNE.out.2.1).set_ 1 _, lk_fr (lk_fr hLY hFX HNE.out.2.2) (hst _) HNE.out.1, ownsRow_frS hown (hst _) (fun z hz e => hg2.1 (by have e : z = b := e; simp [Value.ownBlock] at hz; omega)), HBI.out.1, HBI.out.2, HNE.out.1, by simp [Value.ownBlock]; exact hg2.1, by simp [Value.ownBlock]; exact hg2.2⟩, ?_⟩
    have q1 : Fr (SO base b w) w Y := HFY.out.mono (fun i e => by have e : i = g := e; exact ⟨by rw [e]; exact HBI.out.1, .inr ⟨_, _, _, _, HOB.out, .inl e⟩⟩)
    have q2 : Fr (SO base b w) w w2 := q1.trans' hFX (fun i _ hi => ⟨sx_of (HOW.out.lt i hi).1, .inr ⟨_, _, _, _, HOB.out, .inr hi⟩⟩)
    exact q2.trans' (hst _) (fun i _ e => by have e : i = b := e; exact ⟨by rw [e]; exact HBI.out.2, .inl e⟩)
end Go.Proofs.YtblnmghbcgbgdaaDoor
