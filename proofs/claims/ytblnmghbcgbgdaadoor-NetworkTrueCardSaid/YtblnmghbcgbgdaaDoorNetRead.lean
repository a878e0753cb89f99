/-
  wire.Read of the packets that a network of the law's has under way; what was sent, as a block of truths.
  Conditions: none.
-/
import Derived.Test.YtblnmghbcgbgdaaDoorReadAny
import Derived.Test.YtblnmghbcgbgdaaDoorNetI
import Derived.Test.YtblnmghbcgbgdaaDoorRefBytes
namespace Go.Proofs.YtblnmghbcgbgdaaDoor
open Go.RowKit Nums
set_option linter.unusedVariables false
set_option linter.unusedSimpArgs false
set_option maxRecDepth 100000 in
set_option maxHeartbeats 4000000 in
theorem read_unopened (S : ByteArray) (w : World)
    (HO : NoOpen S) :
    Calls Tryd.prog 12 #[.string S] w fun e w' => (∃ T V, e = .returned (.tuple #[.agg #[.int .i64 0, .int .i64 0, .int .i64 0, .bool false, .string ⟨#[]⟩, .string ⟨#[]⟩, .int .i64 0, .int .i64 0], .iface T V]) ∧ Bad T V w') ∧ Fr noneOf w w' := by
  unfold NoOpen at HO
  have HQ0 : Hid (Blk (w.alloc (.cells #[.int .i64 0, .int .i64 0, .int .i64 0, .bool false, .string ⟨#[]⟩, .string ⟨#[]⟩, .int .i64 0, .int .i64 0] 25)) w.heap.size 25 #[.int .i64 0, .int .i64 0, .int .i64 0, .bool false, .string ⟨#[]⟩, .string ⟨#[]⟩, .int .i64 0, .int .i64 0]) := Lib.hid (Blk.new w _ _)
  have HF0 : Hid (Fr noneOf w (w.alloc (.cells #[.int .i64 0, .int .i64 0, .int .i64 0, .bool false, .string ⟨#[]⟩, .string ⟨#[]⟩, .int .i64 0, .int .i64 0] 25))) := Lib.hid ((Fr.refl _ _).alloc _)
  go_enter Tryd.func12, Tryd.ntmps12
  go_wp2_with (first
    | (go_at_call 25; (with_reducible refine (HO.out _).mono ?_); rintro e w1 ⟨⟨U, n, hn, rfl⟩, hf1⟩; have HF1 : Hid (Fr noneOf w w1) := Lib.hid (HF0.out.trans hf1); have HQ1 := Lib.hid (HQ0.out.fr0 hf1); have HNN := Lib.hid hn; clear hf1 hn; have r1_0 : w1.cell? ⟨w.heap.size, 0, none⟩ = some (.int .i64 0) := HQ1.out.cell 0; have r1_1 : w1.cell? ⟨w.heap.size, 1, none⟩ = some (.int .i64 0) := HQ1.out.cell 1; have r1_2 : w1.cell? ⟨w.heap.size, 2, none⟩ = some (.int .i64 0) := HQ1.out.cell 2; have r1_3 : w1.cell? ⟨w.heap.size, 3, none⟩ = some (.bool false) := HQ1.out.cell 3; have r1_4 : w1.cell? ⟨w.heap.size, 4, none⟩ = some (.string ⟨#[]⟩) := HQ1.out.cell 4; have r1_5 : w1.cell? ⟨w.heap.size, 5, none⟩ = some (.string ⟨#[]⟩) := HQ1.out.cell 5; have r1_6 : w1.cell? ⟨w.heap.size, 6, none⟩ = some (.int .i64 0) := HQ1.out.cell 6; have r1_7 : w1.cell? ⟨w.heap.size, 7, none⟩ = some (.int .i64 0) := HQ1.out.cell 7; have rf1_0 := HQ1.out.frozen 0; have rf1_1 := HQ1.out.frozen 1; have rf1_2 := HQ1.out.frozen 2; have rf1_3 := HQ1.out.frozen 3; have rf1_4 := HQ1.out.frozen 4; have rf1_5 := HQ1.out.frozen 5; have rf1_6 := HQ1.out.frozen 6; have rf1_7 := HQ1.out.frozen 7; skip)
    )
  have E := Lib.hid ((((((((HQ1.out.set_ 0 (.int .i64 0)).set_ 1 (.int .i64 0)).set_ 2 (.int .i64 0)).set_ 3 (.bool false)).set_ 4 (.string ⟨#[]⟩)).set_ 5 (.string ⟨#[]⟩)).set_ 6 (.int .i64 0)).set_ 7 (.int .i64 0))
  have E0 := E.out.cell 0
  have E1 := E.out.cell 1
  have E2 := E.out.cell 2
  have E3 := E.out.cell 3
  have E4 := E.out.cell 4
  have E5 := E.out.cell 5
  have E6 := E.out.cell 6
  have E7 := E.out.cell 7
  exact bodyPost_ret (v := .tuple #[.agg #[.int .i64 0, .int .i64 0, .int .i64 0, .bool false, .string ⟨#[]⟩, .string ⟨#[]⟩, .int .i64 0, .int .i64 0], .iface 32 (.int .i64 n)]) (by simp [results, Tryd.results12, go_sem, E0, E1, E2, E3, E4, E5, E6, E7]) rfl ⟨⟨_, _, rfl, .inl ⟨n, HNN.out, rfl, rfl⟩⟩, ((((((((HF1.out.setCell (p := ⟨w.heap.size, 0, none⟩) (.inr (Nat.le_refl _)) _).setCell (p := ⟨w.heap.size, 1, none⟩) (.inr (Nat.le_refl _)) _).setCell (p := ⟨w.heap.size, 2, none⟩) (.inr (Nat.le_refl _)) _).setCell (p := ⟨w.heap.size, 3, none⟩) (.inr (Nat.le_refl _)) _).setCell (p := ⟨w.heap.size, 4, none⟩) (.inr (Nat.le_refl _)) _).setCell (p := ⟨w.heap.size, 5, none⟩) (.inr (Nat.le_refl _)) _).setCell (p := ⟨w.heap.size, 6, none⟩) (.inr (Nat.le_refl _)) _).setCell (p := ⟨w.heap.size, 7, none⟩) (.inr (Nat.le_refl _)) _)⟩
def ReadsRef (s : ByteArray) (q : Nat) : Prop := Hid (∀ w, Calls Tryd.prog 12 #[.string s] w fun e w' => e = .returned (.tuple #[.agg #[.int .i64 3, .int .i64 0, .int .i64 0, .bool false, .string ⟨#[]⟩, .string ⟨#[]⟩, .int .i64 q, .int .i64 0], .nilIface]) ∧ Fr noneOf w w')
def ReadsBad (s : ByteArray) : Prop := Hid (∀ w, Calls Tryd.prog 12 #[.string s] w fun e w' => (∃ T V, e = .returned (.tuple #[.agg #[.int .i64 0, .int .i64 0, .int .i64 0, .bool false, .string ⟨#[]⟩, .string ⟨#[]⟩, .int .i64 0, .int .i64 0], .iface T V]) ∧ Bad T V w') ∧ Fr noneOf w w')
theorem reads_noopen (s : ByteArray) (h : NoOpen s) : ReadsBad s := Lib.hid (fun w => read_unopened s w h)
theorem reads_ref (q : Nat) (hq : q ≤ 15) : ReadsRef (refS q) q ∨ ReadsBad (refS q) := by
  have hl := (ms_len (.refuse q) hq).1
  have hsz : (ByteArray.mk (Ms.refuse q).enc.toArray).size = (Ms.refuse q).enc.length := by simp [ByteArray.size]
  have hle : (Ms.refuse q).enc.length ≤ 80 := by
    have h1 : ∀ n : Int, 0 ≤ n → n ≤ 100 → (enc (fold n)).length ≤ 10 := fun n a b => enc_len10 _ (fold_lt (by omega) (by omega))
    have a := h1 3 (by omega) (by omega)
    have b := h1 (q : Int) (by omega) (by omega)
    simp [Ms.enc, Ms.kd, Ms.rest, put]
    omega
  have e : refS q = wrapB ⟨(Ms.refuse q).enc.toArray⟩ := rfl
  rcases read_any ⟨(Ms.refuse q).enc.toArray⟩ (by omega) with ⟨x, hx, hxe, HR⟩ | HR
  · have hxq : Ms.refuse q = x := ms_inj _ _ hq hx (by simpa using hxe)
    subst hxq
    rw [← e] at HR
    exact .inl (Lib.hid HR)
  · rw [← e] at HR
    exact .inr (Lib.hid HR)
/-- A packet that is under way: what is read of it was sent. -/
def Rd (sf : Nat → Nat → Nat → Bool) (p : Pk) : Prop := (∃ q : Nat, q ≤ 15 ∧ sf p.x.toNat p.y.toNat q = true ∧ ReadsRef p.s q) ∨ ReadsBad p.s
theorem Rd.mono {sf tf : Nat → Nat → Nat → Bool} {p : Pk} (h : Rd sf p) (ht : ∀ a b c, sf a b c = true → tf a b c = true) : Rd tf p := by
  rcases h with ⟨q, h1, h2, h3⟩ | h
  · exact .inl ⟨q, h1, ht _ _ _ h2, h3⟩
  · exact .inr h
/-- The block of what was sent. -/
def SentB (w : World) (g : Nat) (sf : Nat → Nat → Nat → Bool) : Prop := ∃ cs : Array Value, Blk w g 48 cs ∧ cs.size = 256 ∧ ∀ a b c, a < 4 → b < 4 → c < 16 → cs[a * 64 + b * 16 + c]? = some (.bool (sf a b c))
theorem SentB.fr {w w' : World} {g : Nat} {sf : Nat → Nat → Nat → Bool} {S : Nat → Prop} (h : SentB w g sf) (hf : Fr S w w') (hs : ¬ S g) : SentB w' g sf := by
  obtain ⟨cs, h1, h2⟩ := h
  exact ⟨cs, h1.fr hf hs, h2⟩
theorem SentB.fr0 {w w' : World} {g : Nat} {sf : Nat → Nat → Nat → Bool} (h : SentB w g sf) (hf : Fr noneOf w w') : SentB w' g sf := h.fr hf (fun x => x)
theorem SentB.cell {w : World} {g : Nat} {sf : Nat → Nat → Nat → Bool} (h : SentB w g sf) {a b c : Nat} (ha : a < 4) (hb : b < 4) (hc : c < 16) : w.cell? ⟨g, a * 64 + b * 16 + c, none⟩ = some (.bool (sf a b c)) ∧ w.frozen? ⟨g, a * 64 + b * 16 + c, none⟩ = false := by
  obtain ⟨cs, h1, _, h2⟩ := h
  exact ⟨(h1.cell _).trans (h2 a b c ha hb hc), h1.frozen _⟩
def upd3 (sf : Nat → Nat → Nat → Bool) (a b c : Nat) : Nat → Nat → Nat → Bool := fun x y z => if x = a ∧ y = b ∧ z = c then true else sf x y z
theorem upd3_mono (sf : Nat → Nat → Nat → Bool) (a b c : Nat) : ∀ x y z, sf x y z = true → upd3 sf a b c x y z = true := fun x y z h => by
  unfold upd3
  split
  · rfl
  · exact h
theorem SentB.set {w : World} {g : Nat} {sf : Nat → Nat → Nat → Bool} (h : SentB w g sf) {a b c : Nat} (ha : a < 4) (hb : b < 4) (hc : c < 16) : SentB (w.setCell ⟨g, a * 64 + b * 16 + c, none⟩ (.bool true)) g (upd3 sf a b c) := by
  obtain ⟨cs, h1, h2, h3⟩ := h
  refine ⟨_, h1.set_ (a * 64 + b * 16 + c) (.bool true), by simpa using h2, fun x y z hx hy hz => ?_⟩
  rw [Array.getElem?_setIfInBounds]
  unfold upd3
  by_cases he : x = a ∧ y = b ∧ z = c
  · obtain ⟨rfl, rfl, rfl⟩ := he
    rw [if_pos rfl, if_pos (by omega)]
    simp
  · rw [if_neg (by omega), if_neg he]
    exact h3 x y z hx hy hz
end Go.Proofs.YtblnmghbcgbgdaaDoor
