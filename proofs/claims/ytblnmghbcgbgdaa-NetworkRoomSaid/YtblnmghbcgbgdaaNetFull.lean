/-
  Contract of a network's Send where there is no room.
-/
import Derived.Test.YtblnmghbcgbgdaaNetPut
import Derived.Deep.DeepCutAuto
import Derived.Deep.RegionLaw
import Derived.Deep.AppendLies
namespace Go.Proofs.Ytblnmghbcgbgdaa
open Go.RowKit
set_option linter.unusedVariables false

theorem net_full {base : Nat} {room lost : Int} {n : Nat} {ps : List Value} {f : Int → Int → Int} {b : Nat} (x y : Int) (s : ByteArray) {w : World} (h : Nt base room lost n ps f b w) (hx : I64 x) (hy : I64 y) (hs : s.size ≤ 9223372036854775807) (hm : mayBe x y s.size = true) (hroom : room ≤ f x y) (hlo : -9223372036854775808 ≤ lost) (hl1 : lost ≤ 9223372036854775806) :
    Calls Try.prog 8 #[.pointer (some ⟨b, 0, none⟩), .agg #[.int .i64 x, .int .i64 y, .string s]] w fun e w' => e = .returned (.bool false) ∧ Nt base room (lost + 1) n ps f b w' ∧ Fr (justOf b) w w' := by
  have HM : Hid (∀ w, Calls Try.prog 19 #[.agg #[.int .i64 x, .int .i64 y, .string s]] w fun e w' => e = .returned (.bool true) ∧ Fr noneOf w w') := Lib.hid (fun w => by
    have := may_any x y s w hs
    rw [hm] at this
    exact this)
  have HBX := Lib.hid (Blk.new w 27 #[.int .i64 x, .int .i64 y, .string s])
  have H := Lib.hid h
  have HXY := Lib.hid (And.intro hx hy)
  have HR := Lib.hid hroom
  clear h hx hy hs hm hroom
  go_enter Try.func8, Try.ntmps8
  go_upto_region 4 with (go_at_call 19; refine (HM.out _).mono ?_; rintro e w1 ⟨rfl, hf1⟩; have d0 : w1.cell? ⟨w.heap.size, 0, none⟩ = some (.int .i64 x) := (HBX.out.fr0 hf1).cell 0; have d1 : w1.cell? ⟨w.heap.size, 1, none⟩ = some (.int .i64 y) := (HBX.out.fr0 hf1).cell 1)
  have hf4 := Lib.hid ((((Fr.refl noneOf w).alloc (.cells #[.int .i64 x, .int .i64 y, .string s] 27)).trans hf1).alloc (.cells #[.int .i64 x, .int .i64 y] 46))
  have HBK := Lib.hid (Blk.new w1 46 #[.int .i64 x, .int .i64 y])
  have hl1 : w.heap.size < w1.heap.size := by have := hf1.size; simp at this; omega
  obtain ⟨k0, hk0⟩ : ∃ k0, k0 = w1.heap.size := ⟨_, rfl⟩
  rw [← hk0] at HBK hl1
  obtain ⟨W, hW⟩ : ∃ W, W = w1.alloc (.cells #[.int .i64 x, .int .i64 y] 46) := ⟨_, rfl⟩
  rw [← hW] at hf4 HBK
  rw [← hk0, ← hW]
  obtain ⟨v, g, hB, hL, hO, h1, h2, h3, h4, h5⟩ := H.out
  obtain ⟨A, c, rfl, hnc, hzA, hAb⟩ := row_form hO
  have HOW := Lib.hid hO
  have HLW := Lib.hid hL
  have HBW := Lib.hid hB
  have HNE := Lib.hid (And.intro h3 (And.intro h4 h5))
  have HBI := Lib.hid (And.intro h1 h2)
  have HB := Lib.hid (hB.fr0 hf4.out)
  have HL := Lib.hid (lk_fr hL hf4.out (fun x => x))
  have hgw : g < w.heap.size := by obtain ⟨_, _, hg, _⟩ := hL; exact (Array.getElem?_eq_some_iff.1 hg).1
  have hbw' : b < w.heap.size := hB.lt
  have HBXW : Hid (Blk W w.heap.size 27 #[.int .i64 x, .int .i64 y, .string s]) := Lib.hid (by rw [hW]; exact (HBX.out.fr0 hf1).alloc _)
  clear hk0 hW d0 d1 hf1 hnc hzA hAb
  have c0 : W.cell? ⟨b, 0, none⟩ = some (.int .i64 room) := HB.out.cell 0
  have c2 : W.cell? ⟨b, 2, none⟩ = some (.map (some g)) := HB.out.cell 2
  have k1 : W.cell? ⟨k0, 0, none⟩ = some (.int .i64 x) := HBK.out.cell 0
  have k2 : W.cell? ⟨k0, 1, none⟩ = some (.int .i64 y) := HBK.out.cell 1
  have r1 := HL.out.run HXY.out.1 HXY.out.2
  have r2 := Lk.run (w := W.drew) HL.out HXY.out.1 HXY.out.2
  obtain ⟨F, hF⟩ : ∃ F, F = f x y := ⟨_, rfl⟩
  have hFr : room ≤ F := by rw [hF]; exact HR.out
  rw [← hF] at r1 r2
  have HFF := Lib.hid hF
  have c3 : W.cell? ⟨b, 3, none⟩ = some (.int .i64 lost) := HB.out.cell 3
  have f3 : W.frozen? ⟨b, 3, none⟩ = false := HB.out.frozen 3
  clear hF hB hL hO h1 h2 h3 h4 h5
  go_region
  all_goals
    go_wp2
    go_ret
    have q : Fr noneOf w W.drew := hf4.out.drew
    have hst : ∀ u, Fr (justOf b) W.drew (W.drew.setCell ⟨b, 3, none⟩ u) := fun u => Fr.put b 3 u (Fr.refl (justOf b) W.drew)
    have qq : ∀ u, Fr (justOf b) w (W.drew.setCell ⟨b, 3, none⟩ u) := fun u => (Fr.of0 _ q).trans (hst u)
    exact ⟨rfl, ⟨_, g, (HB.out.drew).set_ 3 _, lk_fr HLW.out (qq _) HNE.out.1, ownsRow_frS HOW.out (qq _) (fun z hz e => HNE.out.2.1 (by rw [hz, show z = b from e])), HBI.out.1, HBI.out.2, HNE.out.1, HNE.out.2.1, HNE.out.2.2⟩, qq _⟩
end Go.Proofs.Ytblnmghbcgbgdaa
