/-
  The law's helper made of layer 19: a message that may be.
  Conditions: none.
-/
import Derived.Test.YtblnmghbcgbgdaaDoorWireMade
namespace Go.Proofs.YtblnmghbcgbgdaaDoor
open Go.RowKit Nums
set_option linter.unusedVariables false
set_option linter.unusedSimpArgs false

theorem and_le (n : Int) (m : Nat) (hm : m ≤ 1073741824) : ∃ q : Nat, bits .and .i64 n (m : Int) = (q : Int) ∧ q ≤ m := by
  have h1 : bits .and .i64 n (m : Int) = IntKind.i64.wrap ((BitVec.ofInt 64 n &&& BitVec.ofInt 64 (m : Int)).toNat : Int) := rfl
  have h2 : (BitVec.ofInt 64 n &&& BitVec.ofInt 64 (m : Int)).toNat ≤ m := by
    rw [BitVec.toNat_and]
    refine Nat.le_trans Nat.and_le_right ?_
    simp
    omega
  refine ⟨_, ?_, h2⟩
  rw [h1, IntKind.wrap_i64]
  omega
/-- What made makes: some message that may be, of kind k. -/
def Makes (m : Ms) (w : World) (e : Ending) (w' : World) : Prop := e = .returned (.agg m.val) ∧ Fr noneOf w w'
set_option maxRecDepth 100000 in
set_option maxHeartbeats 8000000 in
theorem made_1 (kd g s : Int) (key : Bool) (body path : ByteArray) (n c : Int) (L : List UInt8) (q : Int) (w : World) (hq : kd.tmod 9 = q) (hq1 : -9 < q) (hq2 : q < 9) (hk : (q + 9) % 9 = 0) (hL : Hid (cutB path 16 = ⟨L.toArray⟩)) (hL16 : L.length ≤ 16) (hps : path.size ≤ 1000) (hbs : body.size ≤ 1000) :
    Calls Tryd.prog 8 #[.agg #[.int .i64 kd, .int .i64 g, .int .i64 s, .bool key, .string body, .string path, .int .i64 n, .int .i64 c]] w (Makes (Ms.bare 1) w) := by
  have HSP : Hid (∀ w, Calls Tryd.prog 15 #[.string path, .int .i64 16] w fun e w' => e = .returned (.string ⟨L.toArray⟩) ∧ w = w') := Lib.hid (fun w => by rw [← hL.out]; exact short_any path 16 w (by omega) (by omega))
  have HSB : Hid (∀ w, Calls Tryd.prog 15 #[.string body, .int .i64 60] w fun e w' => e = .returned (.string (cutB body 60)) ∧ w = w') := Lib.hid (fun w => short_any body 60 w (by omega) (by omega))
  obtain ⟨S, hS⟩ : ∃ S : ByteArray, S = ⟨L.toArray⟩ := ⟨_, rfl⟩
  rw [← hS] at HSP
  have hSl : S.data.toList = L := by rw [hS]
  have HSL := Lib.hid hSl
  obtain ⟨W, hW⟩ : ∃ W, W = ((w.alloc (.cells #[.int .i64 kd, .int .i64 g, .int .i64 s, .bool key, .string body, .string path, .int .i64 n, .int .i64 c] 25)).alloc (.cells #[.int .i64 0, .int .i64 0, .int .i64 0, .bool false, .string ⟨#[]⟩, .string ⟨#[]⟩, .int .i64 0, .int .i64 0] 25)).alloc (.cells #[.int .i64 1, .int .i64 0, .int .i64 0, .bool false, .string ⟨#[]⟩, .string ⟨#[]⟩, .int .i64 0, .int .i64 0] 25) := ⟨_, rfl⟩
  have HBM : Hid (Blk W (w.heap.size) 25 #[.int .i64 kd, .int .i64 g, .int .i64 s, .bool key, .string body, .string path, .int .i64 n, .int .i64 c]) := Lib.hid (by rw [hW]; exact ((Blk.new w _ _).alloc _).alloc _)
  have HBR : Hid (Blk W (w.heap.size + 1) 25 #[.int .i64 0, .int .i64 0, .int .i64 0, .bool false, .string ⟨#[]⟩, .string ⟨#[]⟩, .int .i64 0, .int .i64 0]) := Lib.hid (by rw [hW]; have := Blk.new (w.alloc (.cells #[.int .i64 kd, .int .i64 g, .int .i64 s, .bool key, .string body, .string path, .int .i64 n, .int .i64 c] 25)) 25 #[.int .i64 0, .int .i64 0, .int .i64 0, .bool false, .string ⟨#[]⟩, .string ⟨#[]⟩, .int .i64 0, .int .i64 0]; rw [World.size_alloc] at this; exact this.alloc _)
  have HBX : Hid (Blk W (w.heap.size + 1 + 1) 25 #[.int .i64 1, .int .i64 0, .int .i64 0, .bool false, .string ⟨#[]⟩, .string ⟨#[]⟩, .int .i64 0, .int .i64 0]) := Lib.hid (by rw [hW]; have := Blk.new ((w.alloc (.cells #[.int .i64 kd, .int .i64 g, .int .i64 s, .bool key, .string body, .string path, .int .i64 n, .int .i64 c] 25)).alloc (.cells #[.int .i64 0, .int .i64 0, .int .i64 0, .bool false, .string ⟨#[]⟩, .string ⟨#[]⟩, .int .i64 0, .int .i64 0] 25)) 25 #[.int .i64 1, .int .i64 0, .int .i64 0, .bool false, .string ⟨#[]⟩, .string ⟨#[]⟩, .int .i64 0, .int .i64 0]; rw [World.size_alloc, World.size_alloc] at this; exact this)
  have HFW : Hid (Fr noneOf w W ∧ w.heap.size + 3 = W.heap.size) := Lib.hid ⟨by rw [hW]; exact (((Fr.refl _ _).alloc _).alloc _).alloc _, by rw [hW]; simp⟩
  have HW := Lib.hid hW
  clear hS hSl hL hps hbs hW
  go_enter Tryd.func8, Tryd.ntmps8
  go_wp2_with (first
    | (go_at_call 15; (with_reducible refine (HSP.out _).mono ?_); rintro e w1 ⟨rfl, rfl⟩)
    | (refine wpList_sbytes rfl 9 63 5 (.tmp 15) rfl Tryd.underlying9 Tryd.underlying63 Tryd.underlying5 S rfl ?_; intro w2 gr cap l2 hl2 hrow2 hf2 hgr; have HR2 := Lib.hid (And.intro hl2 (And.intro hrow2 (And.intro hf2 hgr))); clear hl2 hrow2 hf2 hgr))
  obtain rfl : l2 = L := HR2.out.1.out.trans HSL.out
  have HF2 : Hid (Fr noneOf W w2 ∧ W.heap.size ≤ gr) := Lib.hid (by rw [HW.out]; exact HR2.out.2.2)
  clear hq hq1 hq2 hk
  go_loopw [5] (fun i wr => ∃ k : Nat, k ≤ l2.length ∧ i = .int .i64 k ∧ Row wr gr (bytesV (half15 l2 k)) ∧ Fr (justOf gr) w2 wr) (fun i _ => l2.length - (intOf i).toNat)
  case atStart => exact ⟨0, by omega, rfl, by rw [half15_zero]; exact HR2.out.2.1, Fr.refl _ _⟩
  case round =>
    obtain ⟨k, hk, rfl, hrw, hfx⟩ := hrel
    have HRW := Lib.hid (And.intro hrw hfx)
    clear hrw hfx
    by_cases hlt : k < l2.length
    · obtain ⟨b, hb⟩ : ∃ b, b = l2[k] := ⟨_, rfl⟩
      have hcell : wr.cell? ⟨gr, k, none⟩ = some (.int .u8 (b.toNat : Int)) := HRW.out.1.cell k _ (by rw [bytesV_at (by rw [half15_len]; exact hlt)]; have := half15_at l2 k hlt; rw [List.getElem?_eq_getElem (by rw [half15_len]; exact hlt)] at this; rw [Option.some.inj this, hb]; rfl)
      have hfz : wr.frozen? ⟨gr, k, none⟩ = false := HRW.out.1.free k (by rw [show (bytesV (half15 l2 k)).length = l2.length by simp [bytesV, half15_len]]; exact hlt)
      have hand : bits .and .u8 (b.toNat : Int) 15 = ((mk15 b).toNat : Int) := and15 b
      have hI : (k : Int) < (l2.length : Int) := by omega
      have hk0 : (0 : Int) ≤ (k : Int) := by omega
      have HB := Lib.hid hb
      clear hb
      go_wp2
      go_roundw
      case rel =>
        refine ⟨k + 1, by omega, by go_num, ?_, HRW.out.2.put gr k _⟩
        rw [← half15_next l2 k hlt, ← HB.out]
        exact HRW.out.1.set_ k (by rw [show (bytesV (half15 l2 k)).length = l2.length by simp [bytesV, half15_len]]; exact hlt) _
      case measure => simp [intOf]; omega
    · obtain rfl : k = l2.length := by omega
      have HRA : Hid (Row wr gr (bytesV (l2.map mk15))) := Lib.hid (by have := HRW.out.1; rw [half15_all] at this; exact this)
      have hgx : w.heap.size + 3 ≤ gr := by have := HF2.out.2; have := HFW.out.2; omega
      have HM := Lib.hid ((HBM.out.fr0 HF2.out.1).fr HRW.out.2 (fun e => by have e : w.heap.size = gr := e; omega))
      have HR := Lib.hid ((HBR.out.fr0 HF2.out.1).fr HRW.out.2 (fun e => by have e : w.heap.size + 1 = gr := e; omega))
      have HX := Lib.hid ((HBX.out.fr0 HF2.out.1).fr HRW.out.2 (fun e => by have e : w.heap.size + 1 + 1 = gr := e; omega))
      have m0 : wr.cell? ⟨w.heap.size, 0, none⟩ = some (.int .i64 kd) := HM.out.cell 0
      have m1 : wr.cell? ⟨w.heap.size, 1, none⟩ = some (.int .i64 g) := HM.out.cell 1
      have m2 : wr.cell? ⟨w.heap.size, 2, none⟩ = some (.int .i64 s) := HM.out.cell 2
      have m3 : wr.cell? ⟨w.heap.size, 3, none⟩ = some (.bool key) := HM.out.cell 3
      have m4 : wr.cell? ⟨w.heap.size, 4, none⟩ = some (.string body) := HM.out.cell 4
      have m5 : wr.cell? ⟨w.heap.size, 5, none⟩ = some (.string path) := HM.out.cell 5
      have m6 : wr.cell? ⟨w.heap.size, 6, none⟩ = some (.int .i64 n) := HM.out.cell 6
      have m7 : wr.cell? ⟨w.heap.size, 7, none⟩ = some (.int .i64 c) := HM.out.cell 7
      have x0 : wr.cell? ⟨w.heap.size + 1 + 1, 0, none⟩ = some (.int .i64 1) := HX.out.cell 0
      have y0 := HX.out.frozen 0
      have x1 : wr.cell? ⟨w.heap.size + 1 + 1, 1, none⟩ = some (.int .i64 0) := HX.out.cell 1
      have y1 := HX.out.frozen 1
      have x2 : wr.cell? ⟨w.heap.size + 1 + 1, 2, none⟩ = some (.int .i64 0) := HX.out.cell 2
      have y2 := HX.out.frozen 2
      have x3 : wr.cell? ⟨w.heap.size + 1 + 1, 3, none⟩ = some (.bool false) := HX.out.cell 3
      have y3 := HX.out.frozen 3
      have x4 : wr.cell? ⟨w.heap.size + 1 + 1, 4, none⟩ = some (.string ⟨#[]⟩) := HX.out.cell 4
      have y4 := HX.out.frozen 4
      have x5 : wr.cell? ⟨w.heap.size + 1 + 1, 5, none⟩ = some (.string ⟨#[]⟩) := HX.out.cell 5
      have y5 := HX.out.frozen 5
      have x6 : wr.cell? ⟨w.heap.size + 1 + 1, 6, none⟩ = some (.int .i64 0) := HX.out.cell 6
      have y6 := HX.out.frozen 6
      have x7 : wr.cell? ⟨w.heap.size + 1 + 1, 7, none⟩ = some (.int .i64 0) := HX.out.cell 7
      have y7 := HX.out.frozen 7
      have r0 : wr.cell? ⟨w.heap.size + 1, 0, none⟩ = some (.int .i64 0) := HR.out.cell 0
      have z0 := HR.out.frozen 0
      have r1 : wr.cell? ⟨w.heap.size + 1, 1, none⟩ = some (.int .i64 0) := HR.out.cell 1
      have z1 := HR.out.frozen 1
      have r2 : wr.cell? ⟨w.heap.size + 1, 2, none⟩ = some (.int .i64 0) := HR.out.cell 2
      have z2 := HR.out.frozen 2
      have r3 : wr.cell? ⟨w.heap.size + 1, 3, none⟩ = some (.bool false) := HR.out.cell 3
      have z3 := HR.out.frozen 3
      have r4 : wr.cell? ⟨w.heap.size + 1, 4, none⟩ = some (.string ⟨#[]⟩) := HR.out.cell 4
      have z4 := HR.out.frozen 4
      have r5 : wr.cell? ⟨w.heap.size + 1, 5, none⟩ = some (.string ⟨#[]⟩) := HR.out.cell 5
      have z5 := HR.out.frozen 5
      have r6 : wr.cell? ⟨w.heap.size + 1, 6, none⟩ = some (.int .i64 0) := HR.out.cell 6
      have z6 := HR.out.frozen 6
      have r7 : wr.cell? ⟨w.heap.size + 1, 7, none⟩ = some (.int .i64 0) := HR.out.cell 7
      have z7 := HR.out.frozen 7
      have hFX : Hid (Fr noneOf w wr) := Lib.hid (HFW.out.1.trans (HF2.out.1.trans' HRW.out.2 (fun i hi e => by have e : i = gr := e; have := HF2.out.2; omega)))
      clear hgx
      go_wp2
      have E := Lib.hid ((((((((HR.out.set_ 0 (.int .i64 1)).set_ 1 (.int .i64 0)).set_ 2 (.int .i64 0)).set_ 3 (.bool false)).set_ 4 (.string ⟨#[]⟩)).set_ 5 (.string ⟨#[]⟩)).set_ 6 (.int .i64 0)).set_ 7 (.int .i64 0))
      have E0 := E.out.cell 0
      have E1 := E.out.cell 1
      have E2 := E.out.cell 2
      have E3 := E.out.cell 3
      have E4 := E.out.cell 4
      have E5 := E.out.cell 5
      have E6 := E.out.cell 6
      have E7 := E.out.cell 7
      exact bodyPost_ret (v := .agg #[.int .i64 1, .int .i64 0, .int .i64 0, .bool false, .string ⟨#[]⟩, .string ⟨#[]⟩, .int .i64 0, .int .i64 0]) (by simp [results, Tryd.results8, go_sem, E0, E1, E2, E3, E4, E5, E6, E7]) rfl ⟨rfl, ((((((((hFX.out.setCell (p := ⟨w.heap.size + 1, 0, none⟩) (.inr (by show w.heap.size ≤ w.heap.size + 1; omega)) _).setCell (p := ⟨w.heap.size + 1, 1, none⟩) (.inr (by show w.heap.size ≤ w.heap.size + 1; omega)) _).setCell (p := ⟨w.heap.size + 1, 2, none⟩) (.inr (by show w.heap.size ≤ w.heap.size + 1; omega)) _).setCell (p := ⟨w.heap.size + 1, 3, none⟩) (.inr (by show w.heap.size ≤ w.heap.size + 1; omega)) _).setCell (p := ⟨w.heap.size + 1, 4, none⟩) (.inr (by show w.heap.size ≤ w.heap.size + 1; omega)) _).setCell (p := ⟨w.heap.size + 1, 5, none⟩) (.inr (by show w.heap.size ≤ w.heap.size + 1; omega)) _).setCell (p := ⟨w.heap.size + 1, 6, none⟩) (.inr (by show w.heap.size ≤ w.heap.size + 1; omega)) _).setCell (p := ⟨w.heap.size + 1, 7, none⟩) (.inr (by show w.heap.size ≤ w.heap.size + 1; omega)) _)⟩
set_option maxRecDepth 100000 in
set_option maxHeartbeats 8000000 in
theorem made_7 (kd g s : Int) (key : Bool) (body path : ByteArray) (n c : Int) (L : List UInt8) (q : Int) (w : World) (hq : kd.tmod 9 = q) (hq1 : -9 < q) (hq2 : q < 9) (hk : (q + 9) % 9 = 6) (hL : Hid (cutB path 16 = ⟨L.toArray⟩)) (hL16 : L.length ≤ 16) (hps : path.size ≤ 1000) (hbs : body.size ≤ 1000) :
    Calls Tryd.prog 8 #[.agg #[.int .i64 kd, .int .i64 g, .int .i64 s, .bool key, .string body, .string path, .int .i64 n, .int .i64 c]] w (Makes (Ms.bare 7) w) := by
  have HSP : Hid (∀ w, Calls Tryd.prog 15 #[.string path, .int .i64 16] w fun e w' => e = .returned (.string ⟨L.toArray⟩) ∧ w = w') := Lib.hid (fun w => by rw [← hL.out]; exact short_any path 16 w (by omega) (by omega))
  have HSB : Hid (∀ w, Calls Tryd.prog 15 #[.string body, .int .i64 60] w fun e w' => e = .returned (.string (cutB body 60)) ∧ w = w') := Lib.hid (fun w => short_any body 60 w (by omega) (by omega))
  obtain ⟨S, hS⟩ : ∃ S : ByteArray, S = ⟨L.toArray⟩ := ⟨_, rfl⟩
  rw [← hS] at HSP
  have hSl : S.data.toList = L := by rw [hS]
  have HSL := Lib.hid hSl
  obtain ⟨W, hW⟩ : ∃ W, W = ((w.alloc (.cells #[.int .i64 kd, .int .i64 g, .int .i64 s, .bool key, .string body, .string path, .int .i64 n, .int .i64 c] 25)).alloc (.cells #[.int .i64 0, .int .i64 0, .int .i64 0, .bool false, .string ⟨#[]⟩, .string ⟨#[]⟩, .int .i64 0, .int .i64 0] 25)).alloc (.cells #[.int .i64 7, .int .i64 0, .int .i64 0, .bool false, .string ⟨#[]⟩, .string ⟨#[]⟩, .int .i64 0, .int .i64 0] 25) := ⟨_, rfl⟩
  have HBM : Hid (Blk W (w.heap.size) 25 #[.int .i64 kd, .int .i64 g, .int .i64 s, .bool key, .string body, .string path, .int .i64 n, .int .i64 c]) := Lib.hid (by rw [hW]; exact ((Blk.new w _ _).alloc _).alloc _)
  have HBR : Hid (Blk W (w.heap.size + 1) 25 #[.int .i64 0, .int .i64 0, .int .i64 0, .bool false, .string ⟨#[]⟩, .string ⟨#[]⟩, .int .i64 0, .int .i64 0]) := Lib.hid (by rw [hW]; have := Blk.new (w.alloc (.cells #[.int .i64 kd, .int .i64 g, .int .i64 s, .bool key, .string body, .string path, .int .i64 n, .int .i64 c] 25)) 25 #[.int .i64 0, .int .i64 0, .int .i64 0, .bool false, .string ⟨#[]⟩, .string ⟨#[]⟩, .int .i64 0, .int .i64 0]; rw [World.size_alloc] at this; exact this.alloc _)
  have HBX : Hid (Blk W (w.heap.size + 1 + 1) 25 #[.int .i64 7, .int .i64 0, .int .i64 0, .bool false, .string ⟨#[]⟩, .string ⟨#[]⟩, .int .i64 0, .int .i64 0]) := Lib.hid (by rw [hW]; have := Blk.new ((w.alloc (.cells #[.int .i64 kd, .int .i64 g, .int .i64 s, .bool key, .string body, .string path, .int .i64 n, .int .i64 c] 25)).alloc (.cells #[.int .i64 0, .int .i64 0, .int .i64 0, .bool false, .string ⟨#[]⟩, .string ⟨#[]⟩, .int .i64 0, .int .i64 0] 25)) 25 #[.int .i64 7, .int .i64 0, .int .i64 0, .bool false, .string ⟨#[]⟩, .string ⟨#[]⟩, .int .i64 0, .int .i64 0]; rw [World.size_alloc, World.size_alloc] at this; exact this)
  have HFW : Hid (Fr noneOf w W ∧ w.heap.size + 3 = W.heap.size) := Lib.hid ⟨by rw [hW]; exact (((Fr.refl _ _).alloc _).alloc _).alloc _, by rw [hW]; simp⟩
  have HW := Lib.hid hW
  clear hS hSl hL hps hbs hW
  go_enter Tryd.func8, Tryd.ntmps8
  go_wp2_with (first
    | (go_at_call 15; (with_reducible refine (HSP.out _).mono ?_); rintro e w1 ⟨rfl, rfl⟩)
    | (refine wpList_sbytes rfl 9 63 5 (.tmp 15) rfl Tryd.underlying9 Tryd.underlying63 Tryd.underlying5 S rfl ?_; intro w2 gr cap l2 hl2 hrow2 hf2 hgr; have HR2 := Lib.hid (And.intro hl2 (And.intro hrow2 (And.intro hf2 hgr))); clear hl2 hrow2 hf2 hgr))
  obtain rfl : l2 = L := HR2.out.1.out.trans HSL.out
  have HF2 : Hid (Fr noneOf W w2 ∧ W.heap.size ≤ gr) := Lib.hid (by rw [HW.out]; exact HR2.out.2.2)
  clear hq hq1 hq2 hk
  go_loopw [5] (fun i wr => ∃ k : Nat, k ≤ l2.length ∧ i = .int .i64 k ∧ Row wr gr (bytesV (half15 l2 k)) ∧ Fr (justOf gr) w2 wr) (fun i _ => l2.length - (intOf i).toNat)
  case atStart => exact ⟨0, by omega, rfl, by rw [half15_zero]; exact HR2.out.2.1, Fr.refl _ _⟩
  case round =>
    obtain ⟨k, hk, rfl, hrw, hfx⟩ := hrel
    have HRW := Lib.hid (And.intro hrw hfx)
    clear hrw hfx
    by_cases hlt : k < l2.length
    · obtain ⟨b, hb⟩ : ∃ b, b = l2[k] := ⟨_, rfl⟩
      have hcell : wr.cell? ⟨gr, k, none⟩ = some (.int .u8 (b.toNat : Int)) := HRW.out.1.cell k _ (by rw [bytesV_at (by rw [half15_len]; exact hlt)]; have := half15_at l2 k hlt; rw [List.getElem?_eq_getElem (by rw [half15_len]; exact hlt)] at this; rw [Option.some.inj this, hb]; rfl)
      have hfz : wr.frozen? ⟨gr, k, none⟩ = false := HRW.out.1.free k (by rw [show (bytesV (half15 l2 k)).length = l2.length by simp [bytesV, half15_len]]; exact hlt)
      have hand : bits .and .u8 (b.toNat : Int) 15 = ((mk15 b).toNat : Int) := and15 b
      have hI : (k : Int) < (l2.length : Int) := by omega
      have hk0 : (0 : Int) ≤ (k : Int) := by omega
      have HB := Lib.hid hb
      clear hb
      go_wp2
      go_roundw
      case rel =>
        refine ⟨k + 1, by omega, by go_num, ?_, HRW.out.2.put gr k _⟩
        rw [← half15_next l2 k hlt, ← HB.out]
        exact HRW.out.1.set_ k (by rw [show (bytesV (half15 l2 k)).length = l2.length by simp [bytesV, half15_len]]; exact hlt) _
      case measure => simp [intOf]; omega
    · obtain rfl : k = l2.length := by omega
      have HRA : Hid (Row wr gr (bytesV (l2.map mk15))) := Lib.hid (by have := HRW.out.1; rw [half15_all] at this; exact this)
      have hgx : w.heap.size + 3 ≤ gr := by have := HF2.out.2; have := HFW.out.2; omega
      have HM := Lib.hid ((HBM.out.fr0 HF2.out.1).fr HRW.out.2 (fun e => by have e : w.heap.size = gr := e; omega))
      have HR := Lib.hid ((HBR.out.fr0 HF2.out.1).fr HRW.out.2 (fun e => by have e : w.heap.size + 1 = gr := e; omega))
      have HX := Lib.hid ((HBX.out.fr0 HF2.out.1).fr HRW.out.2 (fun e => by have e : w.heap.size + 1 + 1 = gr := e; omega))
      have m0 : wr.cell? ⟨w.heap.size, 0, none⟩ = some (.int .i64 kd) := HM.out.cell 0
      have m1 : wr.cell? ⟨w.heap.size, 1, none⟩ = some (.int .i64 g) := HM.out.cell 1
      have m2 : wr.cell? ⟨w.heap.size, 2, none⟩ = some (.int .i64 s) := HM.out.cell 2
      have m3 : wr.cell? ⟨w.heap.size, 3, none⟩ = some (.bool key) := HM.out.cell 3
      have m4 : wr.cell? ⟨w.heap.size, 4, none⟩ = some (.string body) := HM.out.cell 4
      have m5 : wr.cell? ⟨w.heap.size, 5, none⟩ = some (.string path) := HM.out.cell 5
      have m6 : wr.cell? ⟨w.heap.size, 6, none⟩ = some (.int .i64 n) := HM.out.cell 6
      have m7 : wr.cell? ⟨w.heap.size, 7, none⟩ = some (.int .i64 c) := HM.out.cell 7
      have x0 : wr.cell? ⟨w.heap.size + 1 + 1, 0, none⟩ = some (.int .i64 7) := HX.out.cell 0
      have y0 := HX.out.frozen 0
      have x1 : wr.cell? ⟨w.heap.size + 1 + 1, 1, none⟩ = some (.int .i64 0) := HX.out.cell 1
      have y1 := HX.out.frozen 1
      have x2 : wr.cell? ⟨w.heap.size + 1 + 1, 2, none⟩ = some (.int .i64 0) := HX.out.cell 2
      have y2 := HX.out.frozen 2
      have x3 : wr.cell? ⟨w.heap.size + 1 + 1, 3, none⟩ = some (.bool false) := HX.out.cell 3
      have y3 := HX.out.frozen 3
      have x4 : wr.cell? ⟨w.heap.size + 1 + 1, 4, none⟩ = some (.string ⟨#[]⟩) := HX.out.cell 4
      have y4 := HX.out.frozen 4
      have x5 : wr.cell? ⟨w.heap.size + 1 + 1, 5, none⟩ = some (.string ⟨#[]⟩) := HX.out.cell 5
      have y5 := HX.out.frozen 5
      have x6 : wr.cell? ⟨w.heap.size + 1 + 1, 6, none⟩ = some (.int .i64 0) := HX.out.cell 6
      have y6 := HX.out.frozen 6
      have x7 : wr.cell? ⟨w.heap.size + 1 + 1, 7, none⟩ = some (.int .i64 0) := HX.out.cell 7
      have y7 := HX.out.frozen 7
      have r0 : wr.cell? ⟨w.heap.size + 1, 0, none⟩ = some (.int .i64 0) := HR.out.cell 0
      have z0 := HR.out.frozen 0
      have r1 : wr.cell? ⟨w.heap.size + 1, 1, none⟩ = some (.int .i64 0) := HR.out.cell 1
      have z1 := HR.out.frozen 1
      have r2 : wr.cell? ⟨w.heap.size + 1, 2, none⟩ = some (.int .i64 0) := HR.out.cell 2
      have z2 := HR.out.frozen 2
      have r3 : wr.cell? ⟨w.heap.size + 1, 3, none⟩ = some (.bool false) := HR.out.cell 3
      have z3 := HR.out.frozen 3
      have r4 : wr.cell? ⟨w.heap.size + 1, 4, none⟩ = some (.string ⟨#[]⟩) := HR.out.cell 4
      have z4 := HR.out.frozen 4
      have r5 : wr.cell? ⟨w.heap.size + 1, 5, none⟩ = some (.string ⟨#[]⟩) := HR.out.cell 5
      have z5 := HR.out.frozen 5
      have r6 : wr.cell? ⟨w.heap.size + 1, 6, none⟩ = some (.int .i64 0) := HR.out.cell 6
      have z6 := HR.out.frozen 6
      have r7 : wr.cell? ⟨w.heap.size + 1, 7, none⟩ = some (.int .i64 0) := HR.out.cell 7
      have z7 := HR.out.frozen 7
      have hFX : Hid (Fr noneOf w wr) := Lib.hid (HFW.out.1.trans (HF2.out.1.trans' HRW.out.2 (fun i hi e => by have e : i = gr := e; have := HF2.out.2; omega)))
      clear hgx
      go_wp2
      have E := Lib.hid ((((((((HR.out.set_ 0 (.int .i64 7)).set_ 1 (.int .i64 0)).set_ 2 (.int .i64 0)).set_ 3 (.bool false)).set_ 4 (.string ⟨#[]⟩)).set_ 5 (.string ⟨#[]⟩)).set_ 6 (.int .i64 0)).set_ 7 (.int .i64 0))
      have E0 := E.out.cell 0
      have E1 := E.out.cell 1
      have E2 := E.out.cell 2
      have E3 := E.out.cell 3
      have E4 := E.out.cell 4
      have E5 := E.out.cell 5
      have E6 := E.out.cell 6
      have E7 := E.out.cell 7
      exact bodyPost_ret (v := .agg #[.int .i64 7, .int .i64 0, .int .i64 0, .bool false, .string ⟨#[]⟩, .string ⟨#[]⟩, .int .i64 0, .int .i64 0]) (by simp [results, Tryd.results8, go_sem, E0, E1, E2, E3, E4, E5, E6, E7]) rfl ⟨rfl, ((((((((hFX.out.setCell (p := ⟨w.heap.size + 1, 0, none⟩) (.inr (by show w.heap.size ≤ w.heap.size + 1; omega)) _).setCell (p := ⟨w.heap.size + 1, 1, none⟩) (.inr (by show w.heap.size ≤ w.heap.size + 1; omega)) _).setCell (p := ⟨w.heap.size + 1, 2, none⟩) (.inr (by show w.heap.size ≤ w.heap.size + 1; omega)) _).setCell (p := ⟨w.heap.size + 1, 3, none⟩) (.inr (by show w.heap.size ≤ w.heap.size + 1; omega)) _).setCell (p := ⟨w.heap.size + 1, 4, none⟩) (.inr (by show w.heap.size ≤ w.heap.size + 1; omega)) _).setCell (p := ⟨w.heap.size + 1, 5, none⟩) (.inr (by show w.heap.size ≤ w.heap.size + 1; omega)) _).setCell (p := ⟨w.heap.size + 1, 6, none⟩) (.inr (by show w.heap.size ≤ w.heap.size + 1; omega)) _).setCell (p := ⟨w.heap.size + 1, 7, none⟩) (.inr (by show w.heap.size ≤ w.heap.size + 1; omega)) _)⟩
set_option maxRecDepth 100000 in
set_option maxHeartbeats 8000000 in
theorem made_2 (kd g s : Int) (key : Bool) (body path : ByteArray) (n c : Int) (L : List UInt8) (q : Int) (w : World) (hq : kd.tmod 9 = q) (hq1 : -9 < q) (hq2 : q < 9) (hk : (q + 9) % 9 = 1) (hL : Hid (cutB path 16 = ⟨L.toArray⟩)) (hL16 : L.length ≤ 16) (hps : path.size ≤ 1000) (hbs : body.size ≤ 1000) :
    Calls Tryd.prog 8 #[.agg #[.int .i64 kd, .int .i64 g, .int .i64 s, .bool key, .string body, .string path, .int .i64 n, .int .i64 c]] w (Makes (Ms.path 2 (L.map mk15)) w) := by
  have HSP : Hid (∀ w, Calls Tryd.prog 15 #[.string path, .int .i64 16] w fun e w' => e = .returned (.string ⟨L.toArray⟩) ∧ w = w') := Lib.hid (fun w => by rw [← hL.out]; exact short_any path 16 w (by omega) (by omega))
  have HSB : Hid (∀ w, Calls Tryd.prog 15 #[.string body, .int .i64 60] w fun e w' => e = .returned (.string (cutB body 60)) ∧ w = w') := Lib.hid (fun w => short_any body 60 w (by omega) (by omega))
  obtain ⟨S, hS⟩ : ∃ S : ByteArray, S = ⟨L.toArray⟩ := ⟨_, rfl⟩
  rw [← hS] at HSP
  have hSl : S.data.toList = L := by rw [hS]
  have HSL := Lib.hid hSl
  obtain ⟨W, hW⟩ : ∃ W, W = ((w.alloc (.cells #[.int .i64 kd, .int .i64 g, .int .i64 s, .bool key, .string body, .string path, .int .i64 n, .int .i64 c] 25)).alloc (.cells #[.int .i64 0, .int .i64 0, .int .i64 0, .bool false, .string ⟨#[]⟩, .string ⟨#[]⟩, .int .i64 0, .int .i64 0] 25)).alloc (.cells #[.int .i64 2, .int .i64 0, .int .i64 0, .bool false, .string ⟨#[]⟩, .string ⟨#[]⟩, .int .i64 0, .int .i64 0] 25) := ⟨_, rfl⟩
  have HBM : Hid (Blk W (w.heap.size) 25 #[.int .i64 kd, .int .i64 g, .int .i64 s, .bool key, .string body, .string path, .int .i64 n, .int .i64 c]) := Lib.hid (by rw [hW]; exact ((Blk.new w _ _).alloc _).alloc _)
  have HBR : Hid (Blk W (w.heap.size + 1) 25 #[.int .i64 0, .int .i64 0, .int .i64 0, .bool false, .string ⟨#[]⟩, .string ⟨#[]⟩, .int .i64 0, .int .i64 0]) := Lib.hid (by rw [hW]; have := Blk.new (w.alloc (.cells #[.int .i64 kd, .int .i64 g, .int .i64 s, .bool key, .string body, .string path, .int .i64 n, .int .i64 c] 25)) 25 #[.int .i64 0, .int .i64 0, .int .i64 0, .bool false, .string ⟨#[]⟩, .string ⟨#[]⟩, .int .i64 0, .int .i64 0]; rw [World.size_alloc] at this; exact this.alloc _)
  have HBX : Hid (Blk W (w.heap.size + 1 + 1) 25 #[.int .i64 2, .int .i64 0, .int .i64 0, .bool false, .string ⟨#[]⟩, .string ⟨#[]⟩, .int .i64 0, .int .i64 0]) := Lib.hid (by rw [hW]; have := Blk.new ((w.alloc (.cells #[.int .i64 kd, .int .i64 g, .int .i64 s, .bool key, .string body, .string path, .int .i64 n, .int .i64 c] 25)).alloc (.cells #[.int .i64 0, .int .i64 0, .int .i64 0, .bool false, .string ⟨#[]⟩, .string ⟨#[]⟩, .int .i64 0, .int .i64 0] 25)) 25 #[.int .i64 2, .int .i64 0, .int .i64 0, .bool false, .string ⟨#[]⟩, .string ⟨#[]⟩, .int .i64 0, .int .i64 0]; rw [World.size_alloc, World.size_alloc] at this; exact this)
  have HFW : Hid (Fr noneOf w W ∧ w.heap.size + 3 = W.heap.size) := Lib.hid ⟨by rw [hW]; exact (((Fr.refl _ _).alloc _).alloc _).alloc _, by rw [hW]; simp⟩
  have HW := Lib.hid hW
  clear hS hSl hL hps hbs hW
  go_enter Tryd.func8, Tryd.ntmps8
  go_wp2_with (first
    | (go_at_call 15; (with_reducible refine (HSP.out _).mono ?_); rintro e w1 ⟨rfl, rfl⟩)
    | (refine wpList_sbytes rfl 9 63 5 (.tmp 15) rfl Tryd.underlying9 Tryd.underlying63 Tryd.underlying5 S rfl ?_; intro w2 gr cap l2 hl2 hrow2 hf2 hgr; have HR2 := Lib.hid (And.intro hl2 (And.intro hrow2 (And.intro hf2 hgr))); clear hl2 hrow2 hf2 hgr))
  obtain rfl : l2 = L := HR2.out.1.out.trans HSL.out
  have HF2 : Hid (Fr noneOf W w2 ∧ W.heap.size ≤ gr) := Lib.hid (by rw [HW.out]; exact HR2.out.2.2)
  clear hq hq1 hq2 hk
  go_loopw [5] (fun i wr => ∃ k : Nat, k ≤ l2.length ∧ i = .int .i64 k ∧ Row wr gr (bytesV (half15 l2 k)) ∧ Fr (justOf gr) w2 wr) (fun i _ => l2.length - (intOf i).toNat)
  case atStart => exact ⟨0, by omega, rfl, by rw [half15_zero]; exact HR2.out.2.1, Fr.refl _ _⟩
  case round =>
    obtain ⟨k, hk, rfl, hrw, hfx⟩ := hrel
    have HRW := Lib.hid (And.intro hrw hfx)
    clear hrw hfx
    by_cases hlt : k < l2.length
    · obtain ⟨b, hb⟩ : ∃ b, b = l2[k] := ⟨_, rfl⟩
      have hcell : wr.cell? ⟨gr, k, none⟩ = some (.int .u8 (b.toNat : Int)) := HRW.out.1.cell k _ (by rw [bytesV_at (by rw [half15_len]; exact hlt)]; have := half15_at l2 k hlt; rw [List.getElem?_eq_getElem (by rw [half15_len]; exact hlt)] at this; rw [Option.some.inj this, hb]; rfl)
      have hfz : wr.frozen? ⟨gr, k, none⟩ = false := HRW.out.1.free k (by rw [show (bytesV (half15 l2 k)).length = l2.length by simp [bytesV, half15_len]]; exact hlt)
      have hand : bits .and .u8 (b.toNat : Int) 15 = ((mk15 b).toNat : Int) := and15 b
      have hI : (k : Int) < (l2.length : Int) := by omega
      have hk0 : (0 : Int) ≤ (k : Int) := by omega
      have HB := Lib.hid hb
      clear hb
      go_wp2
      go_roundw
      case rel =>
        refine ⟨k + 1, by omega, by go_num, ?_, HRW.out.2.put gr k _⟩
        rw [← half15_next l2 k hlt, ← HB.out]
        exact HRW.out.1.set_ k (by rw [show (bytesV (half15 l2 k)).length = l2.length by simp [bytesV, half15_len]]; exact hlt) _
      case measure => simp [intOf]; omega
    · obtain rfl : k = l2.length := by omega
      have HRA : Hid (Row wr gr (bytesV (l2.map mk15))) := Lib.hid (by have := HRW.out.1; rw [half15_all] at this; exact this)
      have hgx : w.heap.size + 3 ≤ gr := by have := HF2.out.2; have := HFW.out.2; omega
      have HM := Lib.hid ((HBM.out.fr0 HF2.out.1).fr HRW.out.2 (fun e => by have e : w.heap.size = gr := e; omega))
      have HR := Lib.hid ((HBR.out.fr0 HF2.out.1).fr HRW.out.2 (fun e => by have e : w.heap.size + 1 = gr := e; omega))
      have HX := Lib.hid ((HBX.out.fr0 HF2.out.1).fr HRW.out.2 (fun e => by have e : w.heap.size + 1 + 1 = gr := e; omega))
      have m0 : wr.cell? ⟨w.heap.size, 0, none⟩ = some (.int .i64 kd) := HM.out.cell 0
      have m1 : wr.cell? ⟨w.heap.size, 1, none⟩ = some (.int .i64 g) := HM.out.cell 1
      have m2 : wr.cell? ⟨w.heap.size, 2, none⟩ = some (.int .i64 s) := HM.out.cell 2
      have m3 : wr.cell? ⟨w.heap.size, 3, none⟩ = some (.bool key) := HM.out.cell 3
      have m4 : wr.cell? ⟨w.heap.size, 4, none⟩ = some (.string body) := HM.out.cell 4
      have m5 : wr.cell? ⟨w.heap.size, 5, none⟩ = some (.string path) := HM.out.cell 5
      have m6 : wr.cell? ⟨w.heap.size, 6, none⟩ = some (.int .i64 n) := HM.out.cell 6
      have m7 : wr.cell? ⟨w.heap.size, 7, none⟩ = some (.int .i64 c) := HM.out.cell 7
      have x0 : wr.cell? ⟨w.heap.size + 1 + 1, 0, none⟩ = some (.int .i64 2) := HX.out.cell 0
      have y0 := HX.out.frozen 0
      have x1 : wr.cell? ⟨w.heap.size + 1 + 1, 1, none⟩ = some (.int .i64 0) := HX.out.cell 1
      have y1 := HX.out.frozen 1
      have x2 : wr.cell? ⟨w.heap.size + 1 + 1, 2, none⟩ = some (.int .i64 0) := HX.out.cell 2
      have y2 := HX.out.frozen 2
      have x3 : wr.cell? ⟨w.heap.size + 1 + 1, 3, none⟩ = some (.bool false) := HX.out.cell 3
      have y3 := HX.out.frozen 3
      have x4 : wr.cell? ⟨w.heap.size + 1 + 1, 4, none⟩ = some (.string ⟨#[]⟩) := HX.out.cell 4
      have y4 := HX.out.frozen 4
      have x5 : wr.cell? ⟨w.heap.size + 1 + 1, 5, none⟩ = some (.string ⟨#[]⟩) := HX.out.cell 5
      have y5 := HX.out.frozen 5
      have x6 : wr.cell? ⟨w.heap.size + 1 + 1, 6, none⟩ = some (.int .i64 0) := HX.out.cell 6
      have y6 := HX.out.frozen 6
      have x7 : wr.cell? ⟨w.heap.size + 1 + 1, 7, none⟩ = some (.int .i64 0) := HX.out.cell 7
      have y7 := HX.out.frozen 7
      have r0 : wr.cell? ⟨w.heap.size + 1, 0, none⟩ = some (.int .i64 0) := HR.out.cell 0
      have z0 := HR.out.frozen 0
      have r1 : wr.cell? ⟨w.heap.size + 1, 1, none⟩ = some (.int .i64 0) := HR.out.cell 1
      have z1 := HR.out.frozen 1
      have r2 : wr.cell? ⟨w.heap.size + 1, 2, none⟩ = some (.int .i64 0) := HR.out.cell 2
      have z2 := HR.out.frozen 2
      have r3 : wr.cell? ⟨w.heap.size + 1, 3, none⟩ = some (.bool false) := HR.out.cell 3
      have z3 := HR.out.frozen 3
      have r4 : wr.cell? ⟨w.heap.size + 1, 4, none⟩ = some (.string ⟨#[]⟩) := HR.out.cell 4
      have z4 := HR.out.frozen 4
      have r5 : wr.cell? ⟨w.heap.size + 1, 5, none⟩ = some (.string ⟨#[]⟩) := HR.out.cell 5
      have z5 := HR.out.frozen 5
      have r6 : wr.cell? ⟨w.heap.size + 1, 6, none⟩ = some (.int .i64 0) := HR.out.cell 6
      have z6 := HR.out.frozen 6
      have r7 : wr.cell? ⟨w.heap.size + 1, 7, none⟩ = some (.int .i64 0) := HR.out.cell 7
      have z7 := HR.out.frozen 7
      have hFX : Hid (Fr noneOf w wr) := Lib.hid (HFW.out.1.trans (HF2.out.1.trans' HRW.out.2 (fun i hi e => by have e : i = gr := e; have := HF2.out.2; omega)))
      obtain ⟨p, hp⟩ : ∃ p, p = l2.map mk15 := ⟨_, rfl⟩
      have hpl : l2.length = p.length := by rw [hp]; simp
      rw [← hp] at HRA ⊢
      have HPL := Lib.hid (And.intro hp hpl)
      clear hp hpl hgx
      go_wp2_with (refine wpList_bstring rfl 63 9 5 (.tmp 36) rfl Tryd.underlying63 Tryd.underlying9 Tryd.underlying5 gr cap l2.length p rfl HPL.out.2 HRA.out ?_)
      have E := Lib.hid (((((((((HR.out.far (p := ⟨w.heap.size + 1 + 1, 5, none⟩) (by simp) (.string ⟨p.toArray⟩)).set_ 0 (.int .i64 2)).set_ 1 (.int .i64 0)).set_ 2 (.int .i64 0)).set_ 3 (.bool false)).set_ 4 (.string ⟨#[]⟩)).set_ 5 (.string ⟨p.toArray⟩)).set_ 6 (.int .i64 0)).set_ 7 (.int .i64 0))
      have E0 := E.out.cell 0
      have E1 := E.out.cell 1
      have E2 := E.out.cell 2
      have E3 := E.out.cell 3
      have E4 := E.out.cell 4
      have E5 := E.out.cell 5
      have E6 := E.out.cell 6
      have E7 := E.out.cell 7
      exact bodyPost_ret (v := .agg #[.int .i64 2, .int .i64 0, .int .i64 0, .bool false, .string ⟨#[]⟩, .string ⟨p.toArray⟩, .int .i64 0, .int .i64 0]) (by simp [results, Tryd.results8, go_sem, E0, E1, E2, E3, E4, E5, E6, E7]) rfl ⟨by rw [HPL.out.1]; rfl, (((((((((hFX.out.setCell (p := ⟨w.heap.size + 1 + 1, 5, none⟩) (.inr (by show w.heap.size ≤ w.heap.size + 1 + 1; omega)) _).setCell (p := ⟨w.heap.size + 1, 0, none⟩) (.inr (by show w.heap.size ≤ w.heap.size + 1; omega)) _).setCell (p := ⟨w.heap.size + 1, 1, none⟩) (.inr (by show w.heap.size ≤ w.heap.size + 1; omega)) _).setCell (p := ⟨w.heap.size + 1, 2, none⟩) (.inr (by show w.heap.size ≤ w.heap.size + 1; omega)) _).setCell (p := ⟨w.heap.size + 1, 3, none⟩) (.inr (by show w.heap.size ≤ w.heap.size + 1; omega)) _).setCell (p := ⟨w.heap.size + 1, 4, none⟩) (.inr (by show w.heap.size ≤ w.heap.size + 1; omega)) _).setCell (p := ⟨w.heap.size + 1, 5, none⟩) (.inr (by show w.heap.size ≤ w.heap.size + 1; omega)) _).setCell (p := ⟨w.heap.size + 1, 6, none⟩) (.inr (by show w.heap.size ≤ w.heap.size + 1; omega)) _).setCell (p := ⟨w.heap.size + 1, 7, none⟩) (.inr (by show w.heap.size ≤ w.heap.size + 1; omega)) _)⟩
set_option maxRecDepth 100000 in
set_option maxHeartbeats 8000000 in
theorem made_4 (kd g s : Int) (key : Bool) (body path : ByteArray) (n c : Int) (L : List UInt8) (q : Int) (w : World) (hq : kd.tmod 9 = q) (hq1 : -9 < q) (hq2 : q < 9) (hk : (q + 9) % 9 = 3) (hL : Hid (cutB path 16 = ⟨L.toArray⟩)) (hL16 : L.length ≤ 16) (hps : path.size ≤ 1000) (hbs : body.size ≤ 1000) :
    Calls Tryd.prog 8 #[.agg #[.int .i64 kd, .int .i64 g, .int .i64 s, .bool key, .string body, .string path, .int .i64 n, .int .i64 c]] w (Makes (Ms.path 4 (L.map mk15)) w) := by
  have HSP : Hid (∀ w, Calls Tryd.prog 15 #[.string path, .int .i64 16] w fun e w' => e = .returned (.string ⟨L.toArray⟩) ∧ w = w') := Lib.hid (fun w => by rw [← hL.out]; exact short_any path 16 w (by omega) (by omega))
  have HSB : Hid (∀ w, Calls Tryd.prog 15 #[.string body, .int .i64 60] w fun e w' => e = .returned (.string (cutB body 60)) ∧ w = w') := Lib.hid (fun w => short_any body 60 w (by omega) (by omega))
  obtain ⟨S, hS⟩ : ∃ S : ByteArray, S = ⟨L.toArray⟩ := ⟨_, rfl⟩
  rw [← hS] at HSP
  have hSl : S.data.toList = L := by rw [hS]
  have HSL := Lib.hid hSl
  obtain ⟨W, hW⟩ : ∃ W, W = ((w.alloc (.cells #[.int .i64 kd, .int .i64 g, .int .i64 s, .bool key, .string body, .string path, .int .i64 n, .int .i64 c] 25)).alloc (.cells #[.int .i64 0, .int .i64 0, .int .i64 0, .bool false, .string ⟨#[]⟩, .string ⟨#[]⟩, .int .i64 0, .int .i64 0] 25)).alloc (.cells #[.int .i64 4, .int .i64 0, .int .i64 0, .bool false, .string ⟨#[]⟩, .string ⟨#[]⟩, .int .i64 0, .int .i64 0] 25) := ⟨_, rfl⟩
  have HBM : Hid (Blk W (w.heap.size) 25 #[.int .i64 kd, .int .i64 g, .int .i64 s, .bool key, .string body, .string path, .int .i64 n, .int .i64 c]) := Lib.hid (by rw [hW]; exact ((Blk.new w _ _).alloc _).alloc _)
  have HBR : Hid (Blk W (w.heap.size + 1) 25 #[.int .i64 0, .int .i64 0, .int .i64 0, .bool false, .string ⟨#[]⟩, .string ⟨#[]⟩, .int .i64 0, .int .i64 0]) := Lib.hid (by rw [hW]; have := Blk.new (w.alloc (.cells #[.int .i64 kd, .int .i64 g, .int .i64 s, .bool key, .string body, .string path, .int .i64 n, .int .i64 c] 25)) 25 #[.int .i64 0, .int .i64 0, .int .i64 0, .bool false, .string ⟨#[]⟩, .string ⟨#[]⟩, .int .i64 0, .int .i64 0]; rw [World.size_alloc] at this; exact this.alloc _)
  have HBX : Hid (Blk W (w.heap.size + 1 + 1) 25 #[.int .i64 4, .int .i64 0, .int .i64 0, .bool false, .string ⟨#[]⟩, .string ⟨#[]⟩, .int .i64 0, .int .i64 0]) := Lib.hid (by rw [hW]; have := Blk.new ((w.alloc (.cells #[.int .i64 kd, .int .i64 g, .int .i64 s, .bool key, .string body, .string path, .int .i64 n, .int .i64 c] 25)).alloc (.cells #[.int .i64 0, .int .i64 0, .int .i64 0, .bool false, .string ⟨#[]⟩, .string ⟨#[]⟩, .int .i64 0, .int .i64 0] 25)) 25 #[.int .i64 4, .int .i64 0, .int .i64 0, .bool false, .string ⟨#[]⟩, .string ⟨#[]⟩, .int .i64 0, .int .i64 0]; rw [World.size_alloc, World.size_alloc] at this; exact this)
  have HFW : Hid (Fr noneOf w W ∧ w.heap.size + 3 = W.heap.size) := Lib.hid ⟨by rw [hW]; exact (((Fr.refl _ _).alloc _).alloc _).alloc _, by rw [hW]; simp⟩
  have HW := Lib.hid hW
  clear hS hSl hL hps hbs hW
  go_enter Tryd.func8, Tryd.ntmps8
  go_wp2_with (first
    | (go_at_call 15; (with_reducible refine (HSP.out _).mono ?_); rintro e w1 ⟨rfl, rfl⟩)
    | (refine wpList_sbytes rfl 9 63 5 (.tmp 15) rfl Tryd.underlying9 Tryd.underlying63 Tryd.underlying5 S rfl ?_; intro w2 gr cap l2 hl2 hrow2 hf2 hgr; have HR2 := Lib.hid (And.intro hl2 (And.intro hrow2 (And.intro hf2 hgr))); clear hl2 hrow2 hf2 hgr))
  obtain rfl : l2 = L := HR2.out.1.out.trans HSL.out
  have HF2 : Hid (Fr noneOf W w2 ∧ W.heap.size ≤ gr) := Lib.hid (by rw [HW.out]; exact HR2.out.2.2)
  clear hq hq1 hq2 hk
  go_loopw [5] (fun i wr => ∃ k : Nat, k ≤ l2.length ∧ i = .int .i64 k ∧ Row wr gr (bytesV (half15 l2 k)) ∧ Fr (justOf gr) w2 wr) (fun i _ => l2.length - (intOf i).toNat)
  case atStart => exact ⟨0, by omega, rfl, by rw [half15_zero]; exact HR2.out.2.1, Fr.refl _ _⟩
  case round =>
    obtain ⟨k, hk, rfl, hrw, hfx⟩ := hrel
    have HRW := Lib.hid (And.intro hrw hfx)
    clear hrw hfx
    by_cases hlt : k < l2.length
    · obtain ⟨b, hb⟩ : ∃ b, b = l2[k] := ⟨_, rfl⟩
      have hcell : wr.cell? ⟨gr, k, none⟩ = some (.int .u8 (b.toNat : Int)) := HRW.out.1.cell k _ (by rw [bytesV_at (by rw [half15_len]; exact hlt)]; have := half15_at l2 k hlt; rw [List.getElem?_eq_getElem (by rw [half15_len]; exact hlt)] at this; rw [Option.some.inj this, hb]; rfl)
      have hfz : wr.frozen? ⟨gr, k, none⟩ = false := HRW.out.1.free k (by rw [show (bytesV (half15 l2 k)).length = l2.length by simp [bytesV, half15_len]]; exact hlt)
      have hand : bits .and .u8 (b.toNat : Int) 15 = ((mk15 b).toNat : Int) := and15 b
      have hI : (k : Int) < (l2.length : Int) := by omega
      have hk0 : (0 : Int) ≤ (k : Int) := by omega
      have HB := Lib.hid hb
      clear hb
      go_wp2
      go_roundw
      case rel =>
        refine ⟨k + 1, by omega, by go_num, ?_, HRW.out.2.put gr k _⟩
        rw [← half15_next l2 k hlt, ← HB.out]
        exact HRW.out.1.set_ k (by rw [show (bytesV (half15 l2 k)).length = l2.length by simp [bytesV, half15_len]]; exact hlt) _
      case measure => simp [intOf]; omega
    · obtain rfl : k = l2.length := by omega
      have HRA : Hid (Row wr gr (bytesV (l2.map mk15))) := Lib.hid (by have := HRW.out.1; rw [half15_all] at this; exact this)
      have hgx : w.heap.size + 3 ≤ gr := by have := HF2.out.2; have := HFW.out.2; omega
      have HM := Lib.hid ((HBM.out.fr0 HF2.out.1).fr HRW.out.2 (fun e => by have e : w.heap.size = gr := e; omega))
      have HR := Lib.hid ((HBR.out.fr0 HF2.out.1).fr HRW.out.2 (fun e => by have e : w.heap.size + 1 = gr := e; omega))
      have HX := Lib.hid ((HBX.out.fr0 HF2.out.1).fr HRW.out.2 (fun e => by have e : w.heap.size + 1 + 1 = gr := e; omega))
      have m0 : wr.cell? ⟨w.heap.size, 0, none⟩ = some (.int .i64 kd) := HM.out.cell 0
      have m1 : wr.cell? ⟨w.heap.size, 1, none⟩ = some (.int .i64 g) := HM.out.cell 1
      have m2 : wr.cell? ⟨w.heap.size, 2, none⟩ = some (.int .i64 s) := HM.out.cell 2
      have m3 : wr.cell? ⟨w.heap.size, 3, none⟩ = some (.bool key) := HM.out.cell 3
      have m4 : wr.cell? ⟨w.heap.size, 4, none⟩ = some (.string body) := HM.out.cell 4
      have m5 : wr.cell? ⟨w.heap.size, 5, none⟩ = some (.string path) := HM.out.cell 5
      have m6 : wr.cell? ⟨w.heap.size, 6, none⟩ = some (.int .i64 n) := HM.out.cell 6
      have m7 : wr.cell? ⟨w.heap.size, 7, none⟩ = some (.int .i64 c) := HM.out.cell 7
      have x0 : wr.cell? ⟨w.heap.size + 1 + 1, 0, none⟩ = some (.int .i64 4) := HX.out.cell 0
      have y0 := HX.out.frozen 0
      have x1 : wr.cell? ⟨w.heap.size + 1 + 1, 1, none⟩ = some (.int .i64 0) := HX.out.cell 1
      have y1 := HX.out.frozen 1
      have x2 : wr.cell? ⟨w.heap.size + 1 + 1, 2, none⟩ = some (.int .i64 0) := HX.out.cell 2
      have y2 := HX.out.frozen 2
      have x3 : wr.cell? ⟨w.heap.size + 1 + 1, 3, none⟩ = some (.bool false) := HX.out.cell 3
      have y3 := HX.out.frozen 3
      have x4 : wr.cell? ⟨w.heap.size + 1 + 1, 4, none⟩ = some (.string ⟨#[]⟩) := HX.out.cell 4
      have y4 := HX.out.frozen 4
      have x5 : wr.cell? ⟨w.heap.size + 1 + 1, 5, none⟩ = some (.string ⟨#[]⟩) := HX.out.cell 5
      have y5 := HX.out.frozen 5
      have x6 : wr.cell? ⟨w.heap.size + 1 + 1, 6, none⟩ = some (.int .i64 0) := HX.out.cell 6
      have y6 := HX.out.frozen 6
      have x7 : wr.cell? ⟨w.heap.size + 1 + 1, 7, none⟩ = some (.int .i64 0) := HX.out.cell 7
      have y7 := HX.out.frozen 7
      have r0 : wr.cell? ⟨w.heap.size + 1, 0, none⟩ = some (.int .i64 0) := HR.out.cell 0
      have z0 := HR.out.frozen 0
      have r1 : wr.cell? ⟨w.heap.size + 1, 1, none⟩ = some (.int .i64 0) := HR.out.cell 1
      have z1 := HR.out.frozen 1
      have r2 : wr.cell? ⟨w.heap.size + 1, 2, none⟩ = some (.int .i64 0) := HR.out.cell 2
      have z2 := HR.out.frozen 2
      have r3 : wr.cell? ⟨w.heap.size + 1, 3, none⟩ = some (.bool false) := HR.out.cell 3
      have z3 := HR.out.frozen 3
      have r4 : wr.cell? ⟨w.heap.size + 1, 4, none⟩ = some (.string ⟨#[]⟩) := HR.out.cell 4
      have z4 := HR.out.frozen 4
      have r5 : wr.cell? ⟨w.heap.size + 1, 5, none⟩ = some (.string ⟨#[]⟩) := HR.out.cell 5
      have z5 := HR.out.frozen 5
      have r6 : wr.cell? ⟨w.heap.size + 1, 6, none⟩ = some (.int .i64 0) := HR.out.cell 6
      have z6 := HR.out.frozen 6
      have r7 : wr.cell? ⟨w.heap.size + 1, 7, none⟩ = some (.int .i64 0) := HR.out.cell 7
      have z7 := HR.out.frozen 7
      have hFX : Hid (Fr noneOf w wr) := Lib.hid (HFW.out.1.trans (HF2.out.1.trans' HRW.out.2 (fun i hi e => by have e : i = gr := e; have := HF2.out.2; omega)))
      obtain ⟨p, hp⟩ : ∃ p, p = l2.map mk15 := ⟨_, rfl⟩
      have hpl : l2.length = p.length := by rw [hp]; simp
      rw [← hp] at HRA ⊢
      have HPL := Lib.hid (And.intro hp hpl)
      clear hp hpl hgx
      go_wp2_with (refine wpList_bstring rfl 63 9 5 (.tmp 36) rfl Tryd.underlying63 Tryd.underlying9 Tryd.underlying5 gr cap l2.length p rfl HPL.out.2 HRA.out ?_)
      have E := Lib.hid (((((((((HR.out.far (p := ⟨w.heap.size + 1 + 1, 5, none⟩) (by simp) (.string ⟨p.toArray⟩)).set_ 0 (.int .i64 4)).set_ 1 (.int .i64 0)).set_ 2 (.int .i64 0)).set_ 3 (.bool false)).set_ 4 (.string ⟨#[]⟩)).set_ 5 (.string ⟨p.toArray⟩)).set_ 6 (.int .i64 0)).set_ 7 (.int .i64 0))
      have E0 := E.out.cell 0
      have E1 := E.out.cell 1
      have E2 := E.out.cell 2
      have E3 := E.out.cell 3
      have E4 := E.out.cell 4
      have E5 := E.out.cell 5
      have E6 := E.out.cell 6
      have E7 := E.out.cell 7
      exact bodyPost_ret (v := .agg #[.int .i64 4, .int .i64 0, .int .i64 0, .bool false, .string ⟨#[]⟩, .string ⟨p.toArray⟩, .int .i64 0, .int .i64 0]) (by simp [results, Tryd.results8, go_sem, E0, E1, E2, E3, E4, E5, E6, E7]) rfl ⟨by rw [HPL.out.1]; rfl, (((((((((hFX.out.setCell (p := ⟨w.heap.size + 1 + 1, 5, none⟩) (.inr (by show w.heap.size ≤ w.heap.size + 1 + 1; omega)) _).setCell (p := ⟨w.heap.size + 1, 0, none⟩) (.inr (by show w.heap.size ≤ w.heap.size + 1; omega)) _).setCell (p := ⟨w.heap.size + 1, 1, none⟩) (.inr (by show w.heap.size ≤ w.heap.size + 1; omega)) _).setCell (p := ⟨w.heap.size + 1, 2, none⟩) (.inr (by show w.heap.size ≤ w.heap.size + 1; omega)) _).setCell (p := ⟨w.heap.size + 1, 3, none⟩) (.inr (by show w.heap.size ≤ w.heap.size + 1; omega)) _).setCell (p := ⟨w.heap.size + 1, 4, none⟩) (.inr (by show w.heap.size ≤ w.heap.size + 1; omega)) _).setCell (p := ⟨w.heap.size + 1, 5, none⟩) (.inr (by show w.heap.size ≤ w.heap.size + 1; omega)) _).setCell (p := ⟨w.heap.size + 1, 6, none⟩) (.inr (by show w.heap.size ≤ w.heap.size + 1; omega)) _).setCell (p := ⟨w.heap.size + 1, 7, none⟩) (.inr (by show w.heap.size ≤ w.heap.size + 1; omega)) _)⟩
set_option maxRecDepth 100000 in
set_option maxHeartbeats 8000000 in
theorem made_3 (kd g s : Int) (key : Bool) (body path : ByteArray) (n c : Int) (L : List UInt8) (q : Int) (a : Nat) (w : World) (hq : kd.tmod 9 = q) (hq1 : -9 < q) (hq2 : q < 9) (hk : (q + 9) % 9 = 2) (hL : Hid (cutB path 16 = ⟨L.toArray⟩)) (hL16 : L.length ≤ 16) (hps : path.size ≤ 1000) (hbs : body.size ≤ 1000) (ha : bits .and .i64 n 15 = (a : Int)) :
    Calls Tryd.prog 8 #[.agg #[.int .i64 kd, .int .i64 g, .int .i64 s, .bool key, .string body, .string path, .int .i64 n, .int .i64 c]] w (Makes (Ms.refuse a) w) := by
  have HSP : Hid (∀ w, Calls Tryd.prog 15 #[.string path, .int .i64 16] w fun e w' => e = .returned (.string ⟨L.toArray⟩) ∧ w = w') := Lib.hid (fun w => by rw [← hL.out]; exact short_any path 16 w (by omega) (by omega))
  have HSB : Hid (∀ w, Calls Tryd.prog 15 #[.string body, .int .i64 60] w fun e w' => e = .returned (.string (cutB body 60)) ∧ w = w') := Lib.hid (fun w => short_any body 60 w (by omega) (by omega))
  obtain ⟨S, hS⟩ : ∃ S : ByteArray, S = ⟨L.toArray⟩ := ⟨_, rfl⟩
  rw [← hS] at HSP
  have hSl : S.data.toList = L := by rw [hS]
  have HSL := Lib.hid hSl
  obtain ⟨W, hW⟩ : ∃ W, W = ((w.alloc (.cells #[.int .i64 kd, .int .i64 g, .int .i64 s, .bool key, .string body, .string path, .int .i64 n, .int .i64 c] 25)).alloc (.cells #[.int .i64 0, .int .i64 0, .int .i64 0, .bool false, .string ⟨#[]⟩, .string ⟨#[]⟩, .int .i64 0, .int .i64 0] 25)).alloc (.cells #[.int .i64 3, .int .i64 0, .int .i64 0, .bool false, .string ⟨#[]⟩, .string ⟨#[]⟩, .int .i64 0, .int .i64 0] 25) := ⟨_, rfl⟩
  have HBM : Hid (Blk W (w.heap.size) 25 #[.int .i64 kd, .int .i64 g, .int .i64 s, .bool key, .string body, .string path, .int .i64 n, .int .i64 c]) := Lib.hid (by rw [hW]; exact ((Blk.new w _ _).alloc _).alloc _)
  have HBR : Hid (Blk W (w.heap.size + 1) 25 #[.int .i64 0, .int .i64 0, .int .i64 0, .bool false, .string ⟨#[]⟩, .string ⟨#[]⟩, .int .i64 0, .int .i64 0]) := Lib.hid (by rw [hW]; have := Blk.new (w.alloc (.cells #[.int .i64 kd, .int .i64 g, .int .i64 s, .bool key, .string body, .string path, .int .i64 n, .int .i64 c] 25)) 25 #[.int .i64 0, .int .i64 0, .int .i64 0, .bool false, .string ⟨#[]⟩, .string ⟨#[]⟩, .int .i64 0, .int .i64 0]; rw [World.size_alloc] at this; exact this.alloc _)
  have HBX : Hid (Blk W (w.heap.size + 1 + 1) 25 #[.int .i64 3, .int .i64 0, .int .i64 0, .bool false, .string ⟨#[]⟩, .string ⟨#[]⟩, .int .i64 0, .int .i64 0]) := Lib.hid (by rw [hW]; have := Blk.new ((w.alloc (.cells #[.int .i64 kd, .int .i64 g, .int .i64 s, .bool key, .string body, .string path, .int .i64 n, .int .i64 c] 25)).alloc (.cells #[.int .i64 0, .int .i64 0, .int .i64 0, .bool false, .string ⟨#[]⟩, .string ⟨#[]⟩, .int .i64 0, .int .i64 0] 25)) 25 #[.int .i64 3, .int .i64 0, .int .i64 0, .bool false, .string ⟨#[]⟩, .string ⟨#[]⟩, .int .i64 0, .int .i64 0]; rw [World.size_alloc, World.size_alloc] at this; exact this)
  have HFW : Hid (Fr noneOf w W ∧ w.heap.size + 3 = W.heap.size) := Lib.hid ⟨by rw [hW]; exact (((Fr.refl _ _).alloc _).alloc _).alloc _, by rw [hW]; simp⟩
  have HW := Lib.hid hW
  clear hS hSl hL hps hbs hW
  go_enter Tryd.func8, Tryd.ntmps8
  go_wp2_with (first
    | (go_at_call 15; (with_reducible refine (HSP.out _).mono ?_); rintro e w1 ⟨rfl, rfl⟩)
    | (refine wpList_sbytes rfl 9 63 5 (.tmp 15) rfl Tryd.underlying9 Tryd.underlying63 Tryd.underlying5 S rfl ?_; intro w2 gr cap l2 hl2 hrow2 hf2 hgr; have HR2 := Lib.hid (And.intro hl2 (And.intro hrow2 (And.intro hf2 hgr))); clear hl2 hrow2 hf2 hgr))
  obtain rfl : l2 = L := HR2.out.1.out.trans HSL.out
  have HF2 : Hid (Fr noneOf W w2 ∧ W.heap.size ≤ gr) := Lib.hid (by rw [HW.out]; exact HR2.out.2.2)
  clear hq hq1 hq2 hk
  go_loopw [5] (fun i wr => ∃ k : Nat, k ≤ l2.length ∧ i = .int .i64 k ∧ Row wr gr (bytesV (half15 l2 k)) ∧ Fr (justOf gr) w2 wr) (fun i _ => l2.length - (intOf i).toNat)
  case atStart => exact ⟨0, by omega, rfl, by rw [half15_zero]; exact HR2.out.2.1, Fr.refl _ _⟩
  case round =>
    obtain ⟨k, hk, rfl, hrw, hfx⟩ := hrel
    have HRW := Lib.hid (And.intro hrw hfx)
    clear hrw hfx
    by_cases hlt : k < l2.length
    · obtain ⟨b, hb⟩ : ∃ b, b = l2[k] := ⟨_, rfl⟩
      have hcell : wr.cell? ⟨gr, k, none⟩ = some (.int .u8 (b.toNat : Int)) := HRW.out.1.cell k _ (by rw [bytesV_at (by rw [half15_len]; exact hlt)]; have := half15_at l2 k hlt; rw [List.getElem?_eq_getElem (by rw [half15_len]; exact hlt)] at this; rw [Option.some.inj this, hb]; rfl)
      have hfz : wr.frozen? ⟨gr, k, none⟩ = false := HRW.out.1.free k (by rw [show (bytesV (half15 l2 k)).length = l2.length by simp [bytesV, half15_len]]; exact hlt)
      have hand : bits .and .u8 (b.toNat : Int) 15 = ((mk15 b).toNat : Int) := and15 b
      have hI : (k : Int) < (l2.length : Int) := by omega
      have hk0 : (0 : Int) ≤ (k : Int) := by omega
      have HB := Lib.hid hb
      clear hb
      go_wp2
      go_roundw
      case rel =>
        refine ⟨k + 1, by omega, by go_num, ?_, HRW.out.2.put gr k _⟩
        rw [← half15_next l2 k hlt, ← HB.out]
        exact HRW.out.1.set_ k (by rw [show (bytesV (half15 l2 k)).length = l2.length by simp [bytesV, half15_len]]; exact hlt) _
      case measure => simp [intOf]; omega
    · obtain rfl : k = l2.length := by omega
      have HRA : Hid (Row wr gr (bytesV (l2.map mk15))) := Lib.hid (by have := HRW.out.1; rw [half15_all] at this; exact this)
      have hgx : w.heap.size + 3 ≤ gr := by have := HF2.out.2; have := HFW.out.2; omega
      have HM := Lib.hid ((HBM.out.fr0 HF2.out.1).fr HRW.out.2 (fun e => by have e : w.heap.size = gr := e; omega))
      have HR := Lib.hid ((HBR.out.fr0 HF2.out.1).fr HRW.out.2 (fun e => by have e : w.heap.size + 1 = gr := e; omega))
      have HX := Lib.hid ((HBX.out.fr0 HF2.out.1).fr HRW.out.2 (fun e => by have e : w.heap.size + 1 + 1 = gr := e; omega))
      have m0 : wr.cell? ⟨w.heap.size, 0, none⟩ = some (.int .i64 kd) := HM.out.cell 0
      have m1 : wr.cell? ⟨w.heap.size, 1, none⟩ = some (.int .i64 g) := HM.out.cell 1
      have m2 : wr.cell? ⟨w.heap.size, 2, none⟩ = some (.int .i64 s) := HM.out.cell 2
      have m3 : wr.cell? ⟨w.heap.size, 3, none⟩ = some (.bool key) := HM.out.cell 3
      have m4 : wr.cell? ⟨w.heap.size, 4, none⟩ = some (.string body) := HM.out.cell 4
      have m5 : wr.cell? ⟨w.heap.size, 5, none⟩ = some (.string path) := HM.out.cell 5
      have m6 : wr.cell? ⟨w.heap.size, 6, none⟩ = some (.int .i64 n) := HM.out.cell 6
      have m7 : wr.cell? ⟨w.heap.size, 7, none⟩ = some (.int .i64 c) := HM.out.cell 7
      have x0 : wr.cell? ⟨w.heap.size + 1 + 1, 0, none⟩ = some (.int .i64 3) := HX.out.cell 0
      have y0 := HX.out.frozen 0
      have x1 : wr.cell? ⟨w.heap.size + 1 + 1, 1, none⟩ = some (.int .i64 0) := HX.out.cell 1
      have y1 := HX.out.frozen 1
      have x2 : wr.cell? ⟨w.heap.size + 1 + 1, 2, none⟩ = some (.int .i64 0) := HX.out.cell 2
      have y2 := HX.out.frozen 2
      have x3 : wr.cell? ⟨w.heap.size + 1 + 1, 3, none⟩ = some (.bool false) := HX.out.cell 3
      have y3 := HX.out.frozen 3
      have x4 : wr.cell? ⟨w.heap.size + 1 + 1, 4, none⟩ = some (.string ⟨#[]⟩) := HX.out.cell 4
      have y4 := HX.out.frozen 4
      have x5 : wr.cell? ⟨w.heap.size + 1 + 1, 5, none⟩ = some (.string ⟨#[]⟩) := HX.out.cell 5
      have y5 := HX.out.frozen 5
      have x6 : wr.cell? ⟨w.heap.size + 1 + 1, 6, none⟩ = some (.int .i64 0) := HX.out.cell 6
      have y6 := HX.out.frozen 6
      have x7 : wr.cell? ⟨w.heap.size + 1 + 1, 7, none⟩ = some (.int .i64 0) := HX.out.cell 7
      have y7 := HX.out.frozen 7
      have r0 : wr.cell? ⟨w.heap.size + 1, 0, none⟩ = some (.int .i64 0) := HR.out.cell 0
      have z0 := HR.out.frozen 0
      have r1 : wr.cell? ⟨w.heap.size + 1, 1, none⟩ = some (.int .i64 0) := HR.out.cell 1
      have z1 := HR.out.frozen 1
      have r2 : wr.cell? ⟨w.heap.size + 1, 2, none⟩ = some (.int .i64 0) := HR.out.cell 2
      have z2 := HR.out.frozen 2
      have r3 : wr.cell? ⟨w.heap.size + 1, 3, none⟩ = some (.bool false) := HR.out.cell 3
      have z3 := HR.out.frozen 3
      have r4 : wr.cell? ⟨w.heap.size + 1, 4, none⟩ = some (.string ⟨#[]⟩) := HR.out.cell 4
      have z4 := HR.out.frozen 4
      have r5 : wr.cell? ⟨w.heap.size + 1, 5, none⟩ = some (.string ⟨#[]⟩) := HR.out.cell 5
      have z5 := HR.out.frozen 5
      have r6 : wr.cell? ⟨w.heap.size + 1, 6, none⟩ = some (.int .i64 0) := HR.out.cell 6
      have z6 := HR.out.frozen 6
      have r7 : wr.cell? ⟨w.heap.size + 1, 7, none⟩ = some (.int .i64 0) := HR.out.cell 7
      have z7 := HR.out.frozen 7
      have hFX : Hid (Fr noneOf w wr) := Lib.hid (HFW.out.1.trans (HF2.out.1.trans' HRW.out.2 (fun i hi e => by have e : i = gr := e; have := HF2.out.2; omega)))
      clear hgx
      go_wp2
      have E := Lib.hid (((((((((HR.out.far (p := ⟨w.heap.size + 1 + 1, 6, none⟩) (by simp) (.int .i64 a)).set_ 0 (.int .i64 3)).set_ 1 (.int .i64 0)).set_ 2 (.int .i64 0)).set_ 3 (.bool false)).set_ 4 (.string ⟨#[]⟩)).set_ 5 (.string ⟨#[]⟩)).set_ 6 (.int .i64 a)).set_ 7 (.int .i64 0))
      have E0 := E.out.cell 0
      have E1 := E.out.cell 1
      have E2 := E.out.cell 2
      have E3 := E.out.cell 3
      have E4 := E.out.cell 4
      have E5 := E.out.cell 5
      have E6 := E.out.cell 6
      have E7 := E.out.cell 7
      exact bodyPost_ret (v := .agg #[.int .i64 3, .int .i64 0, .int .i64 0, .bool false, .string ⟨#[]⟩, .string ⟨#[]⟩, .int .i64 a, .int .i64 0]) (by simp [results, Tryd.results8, go_sem, E0, E1, E2, E3, E4, E5, E6, E7]) rfl ⟨rfl, (((((((((hFX.out.setCell (p := ⟨w.heap.size + 1 + 1, 6, none⟩) (.inr (by show w.heap.size ≤ w.heap.size + 1 + 1; omega)) _).setCell (p := ⟨w.heap.size + 1, 0, none⟩) (.inr (by show w.heap.size ≤ w.heap.size + 1; omega)) _).setCell (p := ⟨w.heap.size + 1, 1, none⟩) (.inr (by show w.heap.size ≤ w.heap.size + 1; omega)) _).setCell (p := ⟨w.heap.size + 1, 2, none⟩) (.inr (by show w.heap.size ≤ w.heap.size + 1; omega)) _).setCell (p := ⟨w.heap.size + 1, 3, none⟩) (.inr (by show w.heap.size ≤ w.heap.size + 1; omega)) _).setCell (p := ⟨w.heap.size + 1, 4, none⟩) (.inr (by show w.heap.size ≤ w.heap.size + 1; omega)) _).setCell (p := ⟨w.heap.size + 1, 5, none⟩) (.inr (by show w.heap.size ≤ w.heap.size + 1; omega)) _).setCell (p := ⟨w.heap.size + 1, 6, none⟩) (.inr (by show w.heap.size ≤ w.heap.size + 1; omega)) _).setCell (p := ⟨w.heap.size + 1, 7, none⟩) (.inr (by show w.heap.size ≤ w.heap.size + 1; omega)) _)⟩
set_option maxRecDepth 100000 in
set_option maxHeartbeats 8000000 in
theorem made_5 (kd g s : Int) (key : Bool) (body path : ByteArray) (n c : Int) (L : List UInt8) (q : Int) (a b : Nat) (w : World) (hq : kd.tmod 9 = q) (hq1 : -9 < q) (hq2 : q < 9) (hk : (q + 9) % 9 = 4) (hL : Hid (cutB path 16 = ⟨L.toArray⟩)) (hL16 : L.length ≤ 16) (hps : path.size ≤ 1000) (hbs : body.size ≤ 1000) (ha : bits .and .i64 g 1073741824 = (a : Int)) (hb : bits .and .i64 s 65535 = (b : Int)) (ha1 : a ≤ 1073741824) (hb1 : b ≤ 65535) :
    Calls Tryd.prog 8 #[.agg #[.int .i64 kd, .int .i64 g, .int .i64 s, .bool key, .string body, .string path, .int .i64 n, .int .i64 c]] w (Makes (Ms.alive ((a : Int) - 1) ((b : Int) - 1) key) w) := by
  have HSP : Hid (∀ w, Calls Tryd.prog 15 #[.string path, .int .i64 16] w fun e w' => e = .returned (.string ⟨L.toArray⟩) ∧ w = w') := Lib.hid (fun w => by rw [← hL.out]; exact short_any path 16 w (by omega) (by omega))
  have HSB : Hid (∀ w, Calls Tryd.prog 15 #[.string body, .int .i64 60] w fun e w' => e = .returned (.string (cutB body 60)) ∧ w = w') := Lib.hid (fun w => short_any body 60 w (by omega) (by omega))
  obtain ⟨S, hS⟩ : ∃ S : ByteArray, S = ⟨L.toArray⟩ := ⟨_, rfl⟩
  rw [← hS] at HSP
  have hSl : S.data.toList = L := by rw [hS]
  have HSL := Lib.hid hSl
  obtain ⟨W, hW⟩ : ∃ W, W = ((w.alloc (.cells #[.int .i64 kd, .int .i64 g, .int .i64 s, .bool key, .string body, .string path, .int .i64 n, .int .i64 c] 25)).alloc (.cells #[.int .i64 0, .int .i64 0, .int .i64 0, .bool false, .string ⟨#[]⟩, .string ⟨#[]⟩, .int .i64 0, .int .i64 0] 25)).alloc (.cells #[.int .i64 5, .int .i64 0, .int .i64 0, .bool false, .string ⟨#[]⟩, .string ⟨#[]⟩, .int .i64 0, .int .i64 0] 25) := ⟨_, rfl⟩
  have HBM : Hid (Blk W (w.heap.size) 25 #[.int .i64 kd, .int .i64 g, .int .i64 s, .bool key, .string body, .string path, .int .i64 n, .int .i64 c]) := Lib.hid (by rw [hW]; exact ((Blk.new w _ _).alloc _).alloc _)
  have HBR : Hid (Blk W (w.heap.size + 1) 25 #[.int .i64 0, .int .i64 0, .int .i64 0, .bool false, .string ⟨#[]⟩, .string ⟨#[]⟩, .int .i64 0, .int .i64 0]) := Lib.hid (by rw [hW]; have := Blk.new (w.alloc (.cells #[.int .i64 kd, .int .i64 g, .int .i64 s, .bool key, .string body, .string path, .int .i64 n, .int .i64 c] 25)) 25 #[.int .i64 0, .int .i64 0, .int .i64 0, .bool false, .string ⟨#[]⟩, .string ⟨#[]⟩, .int .i64 0, .int .i64 0]; rw [World.size_alloc] at this; exact this.alloc _)
  have HBX : Hid (Blk W (w.heap.size + 1 + 1) 25 #[.int .i64 5, .int .i64 0, .int .i64 0, .bool false, .string ⟨#[]⟩, .string ⟨#[]⟩, .int .i64 0, .int .i64 0]) := Lib.hid (by rw [hW]; have := Blk.new ((w.alloc (.cells #[.int .i64 kd, .int .i64 g, .int .i64 s, .bool key, .string body, .string path, .int .i64 n, .int .i64 c] 25)).alloc (.cells #[.int .i64 0, .int .i64 0, .int .i64 0, .bool false, .string ⟨#[]⟩, .string ⟨#[]⟩, .int .i64 0, .int .i64 0] 25)) 25 #[.int .i64 5, .int .i64 0, .int .i64 0, .bool false, .string ⟨#[]⟩, .string ⟨#[]⟩, .int .i64 0, .int .i64 0]; rw [World.size_alloc, World.size_alloc] at this; exact this)
  have HFW : Hid (Fr noneOf w W ∧ w.heap.size + 3 = W.heap.size) := Lib.hid ⟨by rw [hW]; exact (((Fr.refl _ _).alloc _).alloc _).alloc _, by rw [hW]; simp⟩
  have HW := Lib.hid hW
  clear hS hSl hL hps hbs hW
  go_enter Tryd.func8, Tryd.ntmps8
  go_wp2_with (first
    | (go_at_call 15; (with_reducible refine (HSP.out _).mono ?_); rintro e w1 ⟨rfl, rfl⟩)
    | (refine wpList_sbytes rfl 9 63 5 (.tmp 15) rfl Tryd.underlying9 Tryd.underlying63 Tryd.underlying5 S rfl ?_; intro w2 gr cap l2 hl2 hrow2 hf2 hgr; have HR2 := Lib.hid (And.intro hl2 (And.intro hrow2 (And.intro hf2 hgr))); clear hl2 hrow2 hf2 hgr))
  obtain rfl : l2 = L := HR2.out.1.out.trans HSL.out
  have HF2 : Hid (Fr noneOf W w2 ∧ W.heap.size ≤ gr) := Lib.hid (by rw [HW.out]; exact HR2.out.2.2)
  clear hq hq1 hq2 hk
  go_loopw [5] (fun i wr => ∃ k : Nat, k ≤ l2.length ∧ i = .int .i64 k ∧ Row wr gr (bytesV (half15 l2 k)) ∧ Fr (justOf gr) w2 wr) (fun i _ => l2.length - (intOf i).toNat)
  case atStart => exact ⟨0, by omega, rfl, by rw [half15_zero]; exact HR2.out.2.1, Fr.refl _ _⟩
  case round =>
    obtain ⟨k, hk, rfl, hrw, hfx⟩ := hrel
    have HRW := Lib.hid (And.intro hrw hfx)
    clear hrw hfx
    by_cases hlt : k < l2.length
    · obtain ⟨b, hb⟩ : ∃ b, b = l2[k] := ⟨_, rfl⟩
      have hcell : wr.cell? ⟨gr, k, none⟩ = some (.int .u8 (b.toNat : Int)) := HRW.out.1.cell k _ (by rw [bytesV_at (by rw [half15_len]; exact hlt)]; have := half15_at l2 k hlt; rw [List.getElem?_eq_getElem (by rw [half15_len]; exact hlt)] at this; rw [Option.some.inj this, hb]; rfl)
      have hfz : wr.frozen? ⟨gr, k, none⟩ = false := HRW.out.1.free k (by rw [show (bytesV (half15 l2 k)).length = l2.length by simp [bytesV, half15_len]]; exact hlt)
      have hand : bits .and .u8 (b.toNat : Int) 15 = ((mk15 b).toNat : Int) := and15 b
      have hI : (k : Int) < (l2.length : Int) := by omega
      have hk0 : (0 : Int) ≤ (k : Int) := by omega
      have HB := Lib.hid hb
      clear hb
      go_wp2
      go_roundw
      case rel =>
        refine ⟨k + 1, by omega, by go_num, ?_, HRW.out.2.put gr k _⟩
        rw [← half15_next l2 k hlt, ← HB.out]
        exact HRW.out.1.set_ k (by rw [show (bytesV (half15 l2 k)).length = l2.length by simp [bytesV, half15_len]]; exact hlt) _
      case measure => simp [intOf]; omega
    · obtain rfl : k = l2.length := by omega
      have HRA : Hid (Row wr gr (bytesV (l2.map mk15))) := Lib.hid (by have := HRW.out.1; rw [half15_all] at this; exact this)
      have hgx : w.heap.size + 3 ≤ gr := by have := HF2.out.2; have := HFW.out.2; omega
      have HM := Lib.hid ((HBM.out.fr0 HF2.out.1).fr HRW.out.2 (fun e => by have e : w.heap.size = gr := e; omega))
      have HR := Lib.hid ((HBR.out.fr0 HF2.out.1).fr HRW.out.2 (fun e => by have e : w.heap.size + 1 = gr := e; omega))
      have HX := Lib.hid ((HBX.out.fr0 HF2.out.1).fr HRW.out.2 (fun e => by have e : w.heap.size + 1 + 1 = gr := e; omega))
      have m0 : wr.cell? ⟨w.heap.size, 0, none⟩ = some (.int .i64 kd) := HM.out.cell 0
      have m1 : wr.cell? ⟨w.heap.size, 1, none⟩ = some (.int .i64 g) := HM.out.cell 1
      have m2 : wr.cell? ⟨w.heap.size, 2, none⟩ = some (.int .i64 s) := HM.out.cell 2
      have m3 : wr.cell? ⟨w.heap.size, 3, none⟩ = some (.bool key) := HM.out.cell 3
      have m4 : wr.cell? ⟨w.heap.size, 4, none⟩ = some (.string body) := HM.out.cell 4
      have m5 : wr.cell? ⟨w.heap.size, 5, none⟩ = some (.string path) := HM.out.cell 5
      have m6 : wr.cell? ⟨w.heap.size, 6, none⟩ = some (.int .i64 n) := HM.out.cell 6
      have m7 : wr.cell? ⟨w.heap.size, 7, none⟩ = some (.int .i64 c) := HM.out.cell 7
      have x0 : wr.cell? ⟨w.heap.size + 1 + 1, 0, none⟩ = some (.int .i64 5) := HX.out.cell 0
      have y0 := HX.out.frozen 0
      have x1 : wr.cell? ⟨w.heap.size + 1 + 1, 1, none⟩ = some (.int .i64 0) := HX.out.cell 1
      have y1 := HX.out.frozen 1
      have x2 : wr.cell? ⟨w.heap.size + 1 + 1, 2, none⟩ = some (.int .i64 0) := HX.out.cell 2
      have y2 := HX.out.frozen 2
      have x3 : wr.cell? ⟨w.heap.size + 1 + 1, 3, none⟩ = some (.bool false) := HX.out.cell 3
      have y3 := HX.out.frozen 3
      have x4 : wr.cell? ⟨w.heap.size + 1 + 1, 4, none⟩ = some (.string ⟨#[]⟩) := HX.out.cell 4
      have y4 := HX.out.frozen 4
      have x5 : wr.cell? ⟨w.heap.size + 1 + 1, 5, none⟩ = some (.string ⟨#[]⟩) := HX.out.cell 5
      have y5 := HX.out.frozen 5
      have x6 : wr.cell? ⟨w.heap.size + 1 + 1, 6, none⟩ = some (.int .i64 0) := HX.out.cell 6
      have y6 := HX.out.frozen 6
      have x7 : wr.cell? ⟨w.heap.size + 1 + 1, 7, none⟩ = some (.int .i64 0) := HX.out.cell 7
      have y7 := HX.out.frozen 7
      have r0 : wr.cell? ⟨w.heap.size + 1, 0, none⟩ = some (.int .i64 0) := HR.out.cell 0
      have z0 := HR.out.frozen 0
      have r1 : wr.cell? ⟨w.heap.size + 1, 1, none⟩ = some (.int .i64 0) := HR.out.cell 1
      have z1 := HR.out.frozen 1
      have r2 : wr.cell? ⟨w.heap.size + 1, 2, none⟩ = some (.int .i64 0) := HR.out.cell 2
      have z2 := HR.out.frozen 2
      have r3 : wr.cell? ⟨w.heap.size + 1, 3, none⟩ = some (.bool false) := HR.out.cell 3
      have z3 := HR.out.frozen 3
      have r4 : wr.cell? ⟨w.heap.size + 1, 4, none⟩ = some (.string ⟨#[]⟩) := HR.out.cell 4
      have z4 := HR.out.frozen 4
      have r5 : wr.cell? ⟨w.heap.size + 1, 5, none⟩ = some (.string ⟨#[]⟩) := HR.out.cell 5
      have z5 := HR.out.frozen 5
      have r6 : wr.cell? ⟨w.heap.size + 1, 6, none⟩ = some (.int .i64 0) := HR.out.cell 6
      have z6 := HR.out.frozen 6
      have r7 : wr.cell? ⟨w.heap.size + 1, 7, none⟩ = some (.int .i64 0) := HR.out.cell 7
      have z7 := HR.out.frozen 7
      have hFX : Hid (Fr noneOf w wr) := Lib.hid (HFW.out.1.trans (HF2.out.1.trans' HRW.out.2 (fun i hi e => by have e : i = gr := e; have := HF2.out.2; omega)))
      clear hgx
      go_wp2
      have E := Lib.hid ((((((((((((HR.out.far (p := ⟨w.heap.size + 1 + 1, 1, none⟩) (by simp) (.int .i64 ((a : Int) - 1))).far (p := ⟨w.heap.size + 1 + 1, 2, none⟩) (by simp) (.int .i64 ((b : Int) - 1))).far (p := ⟨w.heap.size + 1 + 1, 3, none⟩) (by simp) (.bool key)).far (p := ⟨w.heap.size + 1 + 1, 4, none⟩) (by simp) (.string ⟨#[]⟩)).set_ 0 (.int .i64 5)).set_ 1 (.int .i64 ((a : Int) - 1))).set_ 2 (.int .i64 ((b : Int) - 1))).set_ 3 (.bool key)).set_ 4 (.string ⟨#[]⟩)).set_ 5 (.string ⟨#[]⟩)).set_ 6 (.int .i64 0)).set_ 7 (.int .i64 0))
      have E0 := E.out.cell 0
      have E1 := E.out.cell 1
      have E2 := E.out.cell 2
      have E3 := E.out.cell 3
      have E4 := E.out.cell 4
      have E5 := E.out.cell 5
      have E6 := E.out.cell 6
      have E7 := E.out.cell 7
      exact bodyPost_ret (v := .agg #[.int .i64 5, .int .i64 ((a : Int) - 1), .int .i64 ((b : Int) - 1), .bool key, .string ⟨#[]⟩, .string ⟨#[]⟩, .int .i64 0, .int .i64 0]) (by simp [results, Tryd.results8, go_sem, E0, E1, E2, E3, E4, E5, E6, E7]) rfl ⟨rfl, ((((((((((((hFX.out.setCell (p := ⟨w.heap.size + 1 + 1, 1, none⟩) (.inr (by show w.heap.size ≤ w.heap.size + 1 + 1; omega)) _).setCell (p := ⟨w.heap.size + 1 + 1, 2, none⟩) (.inr (by show w.heap.size ≤ w.heap.size + 1 + 1; omega)) _).setCell (p := ⟨w.heap.size + 1 + 1, 3, none⟩) (.inr (by show w.heap.size ≤ w.heap.size + 1 + 1; omega)) _).setCell (p := ⟨w.heap.size + 1 + 1, 4, none⟩) (.inr (by show w.heap.size ≤ w.heap.size + 1 + 1; omega)) _).setCell (p := ⟨w.heap.size + 1, 0, none⟩) (.inr (by show w.heap.size ≤ w.heap.size + 1; omega)) _).setCell (p := ⟨w.heap.size + 1, 1, none⟩) (.inr (by show w.heap.size ≤ w.heap.size + 1; omega)) _).setCell (p := ⟨w.heap.size + 1, 2, none⟩) (.inr (by show w.heap.size ≤ w.heap.size + 1; omega)) _).setCell (p := ⟨w.heap.size + 1, 3, none⟩) (.inr (by show w.heap.size ≤ w.heap.size + 1; omega)) _).setCell (p := ⟨w.heap.size + 1, 4, none⟩) (.inr (by show w.heap.size ≤ w.heap.size + 1; omega)) _).setCell (p := ⟨w.heap.size + 1, 5, none⟩) (.inr (by show w.heap.size ≤ w.heap.size + 1; omega)) _).setCell (p := ⟨w.heap.size + 1, 6, none⟩) (.inr (by show w.heap.size ≤ w.heap.size + 1; omega)) _).setCell (p := ⟨w.heap.size + 1, 7, none⟩) (.inr (by show w.heap.size ≤ w.heap.size + 1; omega)) _)⟩
set_option maxRecDepth 100000 in
set_option maxHeartbeats 8000000 in
theorem made_8 (kd g s : Int) (key : Bool) (body path : ByteArray) (n c : Int) (L : List UInt8) (q : Int) (a b : Nat) (w : World) (hq : kd.tmod 9 = q) (hq1 : -9 < q) (hq2 : q < 9) (hk : (q + 9) % 9 = 7) (hL : Hid (cutB path 16 = ⟨L.toArray⟩)) (hL16 : L.length ≤ 16) (hps : path.size ≤ 1000) (hbs : body.size ≤ 1000) (ha : bits .and .i64 n 15 = (a : Int)) (hb : bits .and .i64 c 1048575 = (b : Int)) :
    Calls Tryd.prog 8 #[.agg #[.int .i64 kd, .int .i64 g, .int .i64 s, .bool key, .string body, .string path, .int .i64 n, .int .i64 c]] w (Makes (Ms.hand 8 (L.map mk15) a b) w) := by
  have HSP : Hid (∀ w, Calls Tryd.prog 15 #[.string path, .int .i64 16] w fun e w' => e = .returned (.string ⟨L.toArray⟩) ∧ w = w') := Lib.hid (fun w => by rw [← hL.out]; exact short_any path 16 w (by omega) (by omega))
  have HSB : Hid (∀ w, Calls Tryd.prog 15 #[.string body, .int .i64 60] w fun e w' => e = .returned (.string (cutB body 60)) ∧ w = w') := Lib.hid (fun w => short_any body 60 w (by omega) (by omega))
  obtain ⟨S, hS⟩ : ∃ S : ByteArray, S = ⟨L.toArray⟩ := ⟨_, rfl⟩
  rw [← hS] at HSP
  have hSl : S.data.toList = L := by rw [hS]
  have HSL := Lib.hid hSl
  obtain ⟨W, hW⟩ : ∃ W, W = ((w.alloc (.cells #[.int .i64 kd, .int .i64 g, .int .i64 s, .bool key, .string body, .string path, .int .i64 n, .int .i64 c] 25)).alloc (.cells #[.int .i64 0, .int .i64 0, .int .i64 0, .bool false, .string ⟨#[]⟩, .string ⟨#[]⟩, .int .i64 0, .int .i64 0] 25)).alloc (.cells #[.int .i64 8, .int .i64 0, .int .i64 0, .bool false, .string ⟨#[]⟩, .string ⟨#[]⟩, .int .i64 0, .int .i64 0] 25) := ⟨_, rfl⟩
  have HBM : Hid (Blk W (w.heap.size) 25 #[.int .i64 kd, .int .i64 g, .int .i64 s, .bool key, .string body, .string path, .int .i64 n, .int .i64 c]) := Lib.hid (by rw [hW]; exact ((Blk.new w _ _).alloc _).alloc _)
  have HBR : Hid (Blk W (w.heap.size + 1) 25 #[.int .i64 0, .int .i64 0, .int .i64 0, .bool false, .string ⟨#[]⟩, .string ⟨#[]⟩, .int .i64 0, .int .i64 0]) := Lib.hid (by rw [hW]; have := Blk.new (w.alloc (.cells #[.int .i64 kd, .int .i64 g, .int .i64 s, .bool key, .string body, .string path, .int .i64 n, .int .i64 c] 25)) 25 #[.int .i64 0, .int .i64 0, .int .i64 0, .bool false, .string ⟨#[]⟩, .string ⟨#[]⟩, .int .i64 0, .int .i64 0]; rw [World.size_alloc] at this; exact this.alloc _)
  have HBX : Hid (Blk W (w.heap.size + 1 + 1) 25 #[.int .i64 8, .int .i64 0, .int .i64 0, .bool false, .string ⟨#[]⟩, .string ⟨#[]⟩, .int .i64 0, .int .i64 0]) := Lib.hid (by rw [hW]; have := Blk.new ((w.alloc (.cells #[.int .i64 kd, .int .i64 g, .int .i64 s, .bool key, .string body, .string path, .int .i64 n, .int .i64 c] 25)).alloc (.cells #[.int .i64 0, .int .i64 0, .int .i64 0, .bool false, .string ⟨#[]⟩, .string ⟨#[]⟩, .int .i64 0, .int .i64 0] 25)) 25 #[.int .i64 8, .int .i64 0, .int .i64 0, .bool false, .string ⟨#[]⟩, .string ⟨#[]⟩, .int .i64 0, .int .i64 0]; rw [World.size_alloc, World.size_alloc] at this; exact this)
  have HFW : Hid (Fr noneOf w W ∧ w.heap.size + 3 = W.heap.size) := Lib.hid ⟨by rw [hW]; exact (((Fr.refl _ _).alloc _).alloc _).alloc _, by rw [hW]; simp⟩
  have HW := Lib.hid hW
  clear hS hSl hL hps hbs hW
  go_enter Tryd.func8, Tryd.ntmps8
  go_wp2_with (first
    | (go_at_call 15; (with_reducible refine (HSP.out _).mono ?_); rintro e w1 ⟨rfl, rfl⟩)
    | (refine wpList_sbytes rfl 9 63 5 (.tmp 15) rfl Tryd.underlying9 Tryd.underlying63 Tryd.underlying5 S rfl ?_; intro w2 gr cap l2 hl2 hrow2 hf2 hgr; have HR2 := Lib.hid (And.intro hl2 (And.intro hrow2 (And.intro hf2 hgr))); clear hl2 hrow2 hf2 hgr))
  obtain rfl : l2 = L := HR2.out.1.out.trans HSL.out
  have HF2 : Hid (Fr noneOf W w2 ∧ W.heap.size ≤ gr) := Lib.hid (by rw [HW.out]; exact HR2.out.2.2)
  clear hq hq1 hq2 hk
  go_loopw [5] (fun i wr => ∃ k : Nat, k ≤ l2.length ∧ i = .int .i64 k ∧ Row wr gr (bytesV (half15 l2 k)) ∧ Fr (justOf gr) w2 wr) (fun i _ => l2.length - (intOf i).toNat)
  case atStart => exact ⟨0, by omega, rfl, by rw [half15_zero]; exact HR2.out.2.1, Fr.refl _ _⟩
  case round =>
    obtain ⟨k, hk, rfl, hrw, hfx⟩ := hrel
    have HRW := Lib.hid (And.intro hrw hfx)
    clear hrw hfx
    by_cases hlt : k < l2.length
    · obtain ⟨b, hb⟩ : ∃ b, b = l2[k] := ⟨_, rfl⟩
      have hcell : wr.cell? ⟨gr, k, none⟩ = some (.int .u8 (b.toNat : Int)) := HRW.out.1.cell k _ (by rw [bytesV_at (by rw [half15_len]; exact hlt)]; have := half15_at l2 k hlt; rw [List.getElem?_eq_getElem (by rw [half15_len]; exact hlt)] at this; rw [Option.some.inj this, hb]; rfl)
      have hfz : wr.frozen? ⟨gr, k, none⟩ = false := HRW.out.1.free k (by rw [show (bytesV (half15 l2 k)).length = l2.length by simp [bytesV, half15_len]]; exact hlt)
      have hand : bits .and .u8 (b.toNat : Int) 15 = ((mk15 b).toNat : Int) := and15 b
      have hI : (k : Int) < (l2.length : Int) := by omega
      have hk0 : (0 : Int) ≤ (k : Int) := by omega
      have HB := Lib.hid hb
      clear hb
      go_wp2
      go_roundw
      case rel =>
        refine ⟨k + 1, by omega, by go_num, ?_, HRW.out.2.put gr k _⟩
        rw [← half15_next l2 k hlt, ← HB.out]
        exact HRW.out.1.set_ k (by rw [show (bytesV (half15 l2 k)).length = l2.length by simp [bytesV, half15_len]]; exact hlt) _
      case measure => simp [intOf]; omega
    · obtain rfl : k = l2.length := by omega
      have HRA : Hid (Row wr gr (bytesV (l2.map mk15))) := Lib.hid (by have := HRW.out.1; rw [half15_all] at this; exact this)
      have hgx : w.heap.size + 3 ≤ gr := by have := HF2.out.2; have := HFW.out.2; omega
      have HM := Lib.hid ((HBM.out.fr0 HF2.out.1).fr HRW.out.2 (fun e => by have e : w.heap.size = gr := e; omega))
      have HR := Lib.hid ((HBR.out.fr0 HF2.out.1).fr HRW.out.2 (fun e => by have e : w.heap.size + 1 = gr := e; omega))
      have HX := Lib.hid ((HBX.out.fr0 HF2.out.1).fr HRW.out.2 (fun e => by have e : w.heap.size + 1 + 1 = gr := e; omega))
      have m0 : wr.cell? ⟨w.heap.size, 0, none⟩ = some (.int .i64 kd) := HM.out.cell 0
      have m1 : wr.cell? ⟨w.heap.size, 1, none⟩ = some (.int .i64 g) := HM.out.cell 1
      have m2 : wr.cell? ⟨w.heap.size, 2, none⟩ = some (.int .i64 s) := HM.out.cell 2
      have m3 : wr.cell? ⟨w.heap.size, 3, none⟩ = some (.bool key) := HM.out.cell 3
      have m4 : wr.cell? ⟨w.heap.size, 4, none⟩ = some (.string body) := HM.out.cell 4
      have m5 : wr.cell? ⟨w.heap.size, 5, none⟩ = some (.string path) := HM.out.cell 5
      have m6 : wr.cell? ⟨w.heap.size, 6, none⟩ = some (.int .i64 n) := HM.out.cell 6
      have m7 : wr.cell? ⟨w.heap.size, 7, none⟩ = some (.int .i64 c) := HM.out.cell 7
      have x0 : wr.cell? ⟨w.heap.size + 1 + 1, 0, none⟩ = some (.int .i64 8) := HX.out.cell 0
      have y0 := HX.out.frozen 0
      have x1 : wr.cell? ⟨w.heap.size + 1 + 1, 1, none⟩ = some (.int .i64 0) := HX.out.cell 1
      have y1 := HX.out.frozen 1
      have x2 : wr.cell? ⟨w.heap.size + 1 + 1, 2, none⟩ = some (.int .i64 0) := HX.out.cell 2
      have y2 := HX.out.frozen 2
      have x3 : wr.cell? ⟨w.heap.size + 1 + 1, 3, none⟩ = some (.bool false) := HX.out.cell 3
      have y3 := HX.out.frozen 3
      have x4 : wr.cell? ⟨w.heap.size + 1 + 1, 4, none⟩ = some (.string ⟨#[]⟩) := HX.out.cell 4
      have y4 := HX.out.frozen 4
      have x5 : wr.cell? ⟨w.heap.size + 1 + 1, 5, none⟩ = some (.string ⟨#[]⟩) := HX.out.cell 5
      have y5 := HX.out.frozen 5
      have x6 : wr.cell? ⟨w.heap.size + 1 + 1, 6, none⟩ = some (.int .i64 0) := HX.out.cell 6
      have y6 := HX.out.frozen 6
      have x7 : wr.cell? ⟨w.heap.size + 1 + 1, 7, none⟩ = some (.int .i64 0) := HX.out.cell 7
      have y7 := HX.out.frozen 7
      have r0 : wr.cell? ⟨w.heap.size + 1, 0, none⟩ = some (.int .i64 0) := HR.out.cell 0
      have z0 := HR.out.frozen 0
      have r1 : wr.cell? ⟨w.heap.size + 1, 1, none⟩ = some (.int .i64 0) := HR.out.cell 1
      have z1 := HR.out.frozen 1
      have r2 : wr.cell? ⟨w.heap.size + 1, 2, none⟩ = some (.int .i64 0) := HR.out.cell 2
      have z2 := HR.out.frozen 2
      have r3 : wr.cell? ⟨w.heap.size + 1, 3, none⟩ = some (.bool false) := HR.out.cell 3
      have z3 := HR.out.frozen 3
      have r4 : wr.cell? ⟨w.heap.size + 1, 4, none⟩ = some (.string ⟨#[]⟩) := HR.out.cell 4
      have z4 := HR.out.frozen 4
      have r5 : wr.cell? ⟨w.heap.size + 1, 5, none⟩ = some (.string ⟨#[]⟩) := HR.out.cell 5
      have z5 := HR.out.frozen 5
      have r6 : wr.cell? ⟨w.heap.size + 1, 6, none⟩ = some (.int .i64 0) := HR.out.cell 6
      have z6 := HR.out.frozen 6
      have r7 : wr.cell? ⟨w.heap.size + 1, 7, none⟩ = some (.int .i64 0) := HR.out.cell 7
      have z7 := HR.out.frozen 7
      have hFX : Hid (Fr noneOf w wr) := Lib.hid (HFW.out.1.trans (HF2.out.1.trans' HRW.out.2 (fun i hi e => by have e : i = gr := e; have := HF2.out.2; omega)))
      obtain ⟨p, hp⟩ : ∃ p, p = l2.map mk15 := ⟨_, rfl⟩
      have hpl : l2.length = p.length := by rw [hp]; simp
      rw [← hp] at HRA ⊢
      have HPL := Lib.hid (And.intro hp hpl)
      clear hp hpl hgx
      go_wp2_with (refine wpList_bstring rfl 63 9 5 (.tmp 84) rfl Tryd.underlying63 Tryd.underlying9 Tryd.underlying5 gr cap l2.length p rfl HPL.out.2 HRA.out ?_)
      have E := Lib.hid (((((((((((HR.out.far (p := ⟨w.heap.size + 1 + 1, 5, none⟩) (by simp) (.string ⟨p.toArray⟩)).far (p := ⟨w.heap.size + 1 + 1, 6, none⟩) (by simp) (.int .i64 a)).far (p := ⟨w.heap.size + 1 + 1, 7, none⟩) (by simp) (.int .i64 b)).set_ 0 (.int .i64 8)).set_ 1 (.int .i64 0)).set_ 2 (.int .i64 0)).set_ 3 (.bool false)).set_ 4 (.string ⟨#[]⟩)).set_ 5 (.string ⟨p.toArray⟩)).set_ 6 (.int .i64 a)).set_ 7 (.int .i64 b))
      have E0 := E.out.cell 0
      have E1 := E.out.cell 1
      have E2 := E.out.cell 2
      have E3 := E.out.cell 3
      have E4 := E.out.cell 4
      have E5 := E.out.cell 5
      have E6 := E.out.cell 6
      have E7 := E.out.cell 7
      exact bodyPost_ret (v := .agg #[.int .i64 8, .int .i64 0, .int .i64 0, .bool false, .string ⟨#[]⟩, .string ⟨p.toArray⟩, .int .i64 a, .int .i64 b]) (by simp [results, Tryd.results8, go_sem, E0, E1, E2, E3, E4, E5, E6, E7]) rfl ⟨by rw [HPL.out.1]; rfl, (((((((((((hFX.out.setCell (p := ⟨w.heap.size + 1 + 1, 5, none⟩) (.inr (by show w.heap.size ≤ w.heap.size + 1 + 1; omega)) _).setCell (p := ⟨w.heap.size + 1 + 1, 6, none⟩) (.inr (by show w.heap.size ≤ w.heap.size + 1 + 1; omega)) _).setCell (p := ⟨w.heap.size + 1 + 1, 7, none⟩) (.inr (by show w.heap.size ≤ w.heap.size + 1 + 1; omega)) _).setCell (p := ⟨w.heap.size + 1, 0, none⟩) (.inr (by show w.heap.size ≤ w.heap.size + 1; omega)) _).setCell (p := ⟨w.heap.size + 1, 1, none⟩) (.inr (by show w.heap.size ≤ w.heap.size + 1; omega)) _).setCell (p := ⟨w.heap.size + 1, 2, none⟩) (.inr (by show w.heap.size ≤ w.heap.size + 1; omega)) _).setCell (p := ⟨w.heap.size + 1, 3, none⟩) (.inr (by show w.heap.size ≤ w.heap.size + 1; omega)) _).setCell (p := ⟨w.heap.size + 1, 4, none⟩) (.inr (by show w.heap.size ≤ w.heap.size + 1; omega)) _).setCell (p := ⟨w.heap.size + 1, 5, none⟩) (.inr (by show w.heap.size ≤ w.heap.size + 1; omega)) _).setCell (p := ⟨w.heap.size + 1, 6, none⟩) (.inr (by show w.heap.size ≤ w.heap.size + 1; omega)) _).setCell (p := ⟨w.heap.size + 1, 7, none⟩) (.inr (by show w.heap.size ≤ w.heap.size + 1; omega)) _)⟩
set_option maxRecDepth 100000 in
set_option maxHeartbeats 8000000 in
theorem made_9 (kd g s : Int) (key : Bool) (body path : ByteArray) (n c : Int) (L : List UInt8) (q : Int) (a b : Nat) (w : World) (hq : kd.tmod 9 = q) (hq1 : -9 < q) (hq2 : q < 9) (hk : (q + 9) % 9 = 8) (hL : Hid (cutB path 16 = ⟨L.toArray⟩)) (hL16 : L.length ≤ 16) (hps : path.size ≤ 1000) (hbs : body.size ≤ 1000) (ha : bits .and .i64 n 15 = (a : Int)) (hb : bits .and .i64 c 1048575 = (b : Int)) :
    Calls Tryd.prog 8 #[.agg #[.int .i64 kd, .int .i64 g, .int .i64 s, .bool key, .string body, .string path, .int .i64 n, .int .i64 c]] w (Makes (Ms.hand 9 (L.map mk15) a b) w) := by
  have HSP : Hid (∀ w, Calls Tryd.prog 15 #[.string path, .int .i64 16] w fun e w' => e = .returned (.string ⟨L.toArray⟩) ∧ w = w') := Lib.hid (fun w => by rw [← hL.out]; exact short_any path 16 w (by omega) (by omega))
  have HSB : Hid (∀ w, Calls Tryd.prog 15 #[.string body, .int .i64 60] w fun e w' => e = .returned (.string (cutB body 60)) ∧ w = w') := Lib.hid (fun w => short_any body 60 w (by omega) (by omega))
  obtain ⟨S, hS⟩ : ∃ S : ByteArray, S = ⟨L.toArray⟩ := ⟨_, rfl⟩
  rw [← hS] at HSP
  have hSl : S.data.toList = L := by rw [hS]
  have HSL := Lib.hid hSl
  obtain ⟨W, hW⟩ : ∃ W, W = ((w.alloc (.cells #[.int .i64 kd, .int .i64 g, .int .i64 s, .bool key, .string body, .string path, .int .i64 n, .int .i64 c] 25)).alloc (.cells #[.int .i64 0, .int .i64 0, .int .i64 0, .bool false, .string ⟨#[]⟩, .string ⟨#[]⟩, .int .i64 0, .int .i64 0] 25)).alloc (.cells #[.int .i64 9, .int .i64 0, .int .i64 0, .bool false, .string ⟨#[]⟩, .string ⟨#[]⟩, .int .i64 0, .int .i64 0] 25) := ⟨_, rfl⟩
  have HBM : Hid (Blk W (w.heap.size) 25 #[.int .i64 kd, .int .i64 g, .int .i64 s, .bool key, .string body, .string path, .int .i64 n, .int .i64 c]) := Lib.hid (by rw [hW]; exact ((Blk.new w _ _).alloc _).alloc _)
  have HBR : Hid (Blk W (w.heap.size + 1) 25 #[.int .i64 0, .int .i64 0, .int .i64 0, .bool false, .string ⟨#[]⟩, .string ⟨#[]⟩, .int .i64 0, .int .i64 0]) := Lib.hid (by rw [hW]; have := Blk.new (w.alloc (.cells #[.int .i64 kd, .int .i64 g, .int .i64 s, .bool key, .string body, .string path, .int .i64 n, .int .i64 c] 25)) 25 #[.int .i64 0, .int .i64 0, .int .i64 0, .bool false, .string ⟨#[]⟩, .string ⟨#[]⟩, .int .i64 0, .int .i64 0]; rw [World.size_alloc] at this; exact this.alloc _)
  have HBX : Hid (Blk W (w.heap.size + 1 + 1) 25 #[.int .i64 9, .int .i64 0, .int .i64 0, .bool false, .string ⟨#[]⟩, .string ⟨#[]⟩, .int .i64 0, .int .i64 0]) := Lib.hid (by rw [hW]; have := Blk.new ((w.alloc (.cells #[.int .i64 kd, .int .i64 g, .int .i64 s, .bool key, .string body, .string path, .int .i64 n, .int .i64 c] 25)).alloc (.cells #[.int .i64 0, .int .i64 0, .int .i64 0, .bool false, .string ⟨#[]⟩, .string ⟨#[]⟩, .int .i64 0, .int .i64 0] 25)) 25 #[.int .i64 9, .int .i64 0, .int .i64 0, .bool false, .string ⟨#[]⟩, .string ⟨#[]⟩, .int .i64 0, .int .i64 0]; rw [World.size_alloc, World.size_alloc] at this; exact this)
  have HFW : Hid (Fr noneOf w W ∧ w.heap.size + 3 = W.heap.size) := Lib.hid ⟨by rw [hW]; exact (((Fr.refl _ _).alloc _).alloc _).alloc _, by rw [hW]; simp⟩
  have HW := Lib.hid hW
  clear hS hSl hL hps hbs hW
  go_enter Tryd.func8, Tryd.ntmps8
  go_wp2_with (first
    | (go_at_call 15; (with_reducible refine (HSP.out _).mono ?_); rintro e w1 ⟨rfl, rfl⟩)
    | (refine wpList_sbytes rfl 9 63 5 (.tmp 15) rfl Tryd.underlying9 Tryd.underlying63 Tryd.underlying5 S rfl ?_; intro w2 gr cap l2 hl2 hrow2 hf2 hgr; have HR2 := Lib.hid (And.intro hl2 (And.intro hrow2 (And.intro hf2 hgr))); clear hl2 hrow2 hf2 hgr))
  obtain rfl : l2 = L := HR2.out.1.out.trans HSL.out
  have HF2 : Hid (Fr noneOf W w2 ∧ W.heap.size ≤ gr) := Lib.hid (by rw [HW.out]; exact HR2.out.2.2)
  clear hq hq1 hq2 hk
  go_loopw [5] (fun i wr => ∃ k : Nat, k ≤ l2.length ∧ i = .int .i64 k ∧ Row wr gr (bytesV (half15 l2 k)) ∧ Fr (justOf gr) w2 wr) (fun i _ => l2.length - (intOf i).toNat)
  case atStart => exact ⟨0, by omega, rfl, by rw [half15_zero]; exact HR2.out.2.1, Fr.refl _ _⟩
  case round =>
    obtain ⟨k, hk, rfl, hrw, hfx⟩ := hrel
    have HRW := Lib.hid (And.intro hrw hfx)
    clear hrw hfx
    by_cases hlt : k < l2.length
    · obtain ⟨b, hb⟩ : ∃ b, b = l2[k] := ⟨_, rfl⟩
      have hcell : wr.cell? ⟨gr, k, none⟩ = some (.int .u8 (b.toNat : Int)) := HRW.out.1.cell k _ (by rw [bytesV_at (by rw [half15_len]; exact hlt)]; have := half15_at l2 k hlt; rw [List.getElem?_eq_getElem (by rw [half15_len]; exact hlt)] at this; rw [Option.some.inj this, hb]; rfl)
      have hfz : wr.frozen? ⟨gr, k, none⟩ = false := HRW.out.1.free k (by rw [show (bytesV (half15 l2 k)).length = l2.length by simp [bytesV, half15_len]]; exact hlt)
      have hand : bits .and .u8 (b.toNat : Int) 15 = ((mk15 b).toNat : Int) := and15 b
      have hI : (k : Int) < (l2.length : Int) := by omega
      have hk0 : (0 : Int) ≤ (k : Int) := by omega
      have HB := Lib.hid hb
      clear hb
      go_wp2
      go_roundw
      case rel =>
        refine ⟨k + 1, by omega, by go_num, ?_, HRW.out.2.put gr k _⟩
        rw [← half15_next l2 k hlt, ← HB.out]
        exact HRW.out.1.set_ k (by rw [show (bytesV (half15 l2 k)).length = l2.length by simp [bytesV, half15_len]]; exact hlt) _
      case measure => simp [intOf]; omega
    · obtain rfl : k = l2.length := by omega
      have HRA : Hid (Row wr gr (bytesV (l2.map mk15))) := Lib.hid (by have := HRW.out.1; rw [half15_all] at this; exact this)
      have hgx : w.heap.size + 3 ≤ gr := by have := HF2.out.2; have := HFW.out.2; omega
      have HM := Lib.hid ((HBM.out.fr0 HF2.out.1).fr HRW.out.2 (fun e => by have e : w.heap.size = gr := e; omega))
      have HR := Lib.hid ((HBR.out.fr0 HF2.out.1).fr HRW.out.2 (fun e => by have e : w.heap.size + 1 = gr := e; omega))
      have HX := Lib.hid ((HBX.out.fr0 HF2.out.1).fr HRW.out.2 (fun e => by have e : w.heap.size + 1 + 1 = gr := e; omega))
      have m0 : wr.cell? ⟨w.heap.size, 0, none⟩ = some (.int .i64 kd) := HM.out.cell 0
      have m1 : wr.cell? ⟨w.heap.size, 1, none⟩ = some (.int .i64 g) := HM.out.cell 1
      have m2 : wr.cell? ⟨w.heap.size, 2, none⟩ = some (.int .i64 s) := HM.out.cell 2
      have m3 : wr.cell? ⟨w.heap.size, 3, none⟩ = some (.bool key) := HM.out.cell 3
      have m4 : wr.cell? ⟨w.heap.size, 4, none⟩ = some (.string body) := HM.out.cell 4
      have m5 : wr.cell? ⟨w.heap.size, 5, none⟩ = some (.string path) := HM.out.cell 5
      have m6 : wr.cell? ⟨w.heap.size, 6, none⟩ = some (.int .i64 n) := HM.out.cell 6
      have m7 : wr.cell? ⟨w.heap.size, 7, none⟩ = some (.int .i64 c) := HM.out.cell 7
      have x0 : wr.cell? ⟨w.heap.size + 1 + 1, 0, none⟩ = some (.int .i64 9) := HX.out.cell 0
      have y0 := HX.out.frozen 0
      have x1 : wr.cell? ⟨w.heap.size + 1 + 1, 1, none⟩ = some (.int .i64 0) := HX.out.cell 1
      have y1 := HX.out.frozen 1
      have x2 : wr.cell? ⟨w.heap.size + 1 + 1, 2, none⟩ = some (.int .i64 0) := HX.out.cell 2
      have y2 := HX.out.frozen 2
      have x3 : wr.cell? ⟨w.heap.size + 1 + 1, 3, none⟩ = some (.bool false) := HX.out.cell 3
      have y3 := HX.out.frozen 3
      have x4 : wr.cell? ⟨w.heap.size + 1 + 1, 4, none⟩ = some (.string ⟨#[]⟩) := HX.out.cell 4
      have y4 := HX.out.frozen 4
      have x5 : wr.cell? ⟨w.heap.size + 1 + 1, 5, none⟩ = some (.string ⟨#[]⟩) := HX.out.cell 5
      have y5 := HX.out.frozen 5
      have x6 : wr.cell? ⟨w.heap.size + 1 + 1, 6, none⟩ = some (.int .i64 0) := HX.out.cell 6
      have y6 := HX.out.frozen 6
      have x7 : wr.cell? ⟨w.heap.size + 1 + 1, 7, none⟩ = some (.int .i64 0) := HX.out.cell 7
      have y7 := HX.out.frozen 7
      have r0 : wr.cell? ⟨w.heap.size + 1, 0, none⟩ = some (.int .i64 0) := HR.out.cell 0
      have z0 := HR.out.frozen 0
      have r1 : wr.cell? ⟨w.heap.size + 1, 1, none⟩ = some (.int .i64 0) := HR.out.cell 1
      have z1 := HR.out.frozen 1
      have r2 : wr.cell? ⟨w.heap.size + 1, 2, none⟩ = some (.int .i64 0) := HR.out.cell 2
      have z2 := HR.out.frozen 2
      have r3 : wr.cell? ⟨w.heap.size + 1, 3, none⟩ = some (.bool false) := HR.out.cell 3
      have z3 := HR.out.frozen 3
      have r4 : wr.cell? ⟨w.heap.size + 1, 4, none⟩ = some (.string ⟨#[]⟩) := HR.out.cell 4
      have z4 := HR.out.frozen 4
      have r5 : wr.cell? ⟨w.heap.size + 1, 5, none⟩ = some (.string ⟨#[]⟩) := HR.out.cell 5
      have z5 := HR.out.frozen 5
      have r6 : wr.cell? ⟨w.heap.size + 1, 6, none⟩ = some (.int .i64 0) := HR.out.cell 6
      have z6 := HR.out.frozen 6
      have r7 : wr.cell? ⟨w.heap.size + 1, 7, none⟩ = some (.int .i64 0) := HR.out.cell 7
      have z7 := HR.out.frozen 7
      have hFX : Hid (Fr noneOf w wr) := Lib.hid (HFW.out.1.trans (HF2.out.1.trans' HRW.out.2 (fun i hi e => by have e : i = gr := e; have := HF2.out.2; omega)))
      obtain ⟨p, hp⟩ : ∃ p, p = l2.map mk15 := ⟨_, rfl⟩
      have hpl : l2.length = p.length := by rw [hp]; simp
      rw [← hp] at HRA ⊢
      have HPL := Lib.hid (And.intro hp hpl)
      clear hp hpl hgx
      go_wp2_with (refine wpList_bstring rfl 63 9 5 (.tmp 84) rfl Tryd.underlying63 Tryd.underlying9 Tryd.underlying5 gr cap l2.length p rfl HPL.out.2 HRA.out ?_)
      have E := Lib.hid (((((((((((HR.out.far (p := ⟨w.heap.size + 1 + 1, 5, none⟩) (by simp) (.string ⟨p.toArray⟩)).far (p := ⟨w.heap.size + 1 + 1, 6, none⟩) (by simp) (.int .i64 a)).far (p := ⟨w.heap.size + 1 + 1, 7, none⟩) (by simp) (.int .i64 b)).set_ 0 (.int .i64 9)).set_ 1 (.int .i64 0)).set_ 2 (.int .i64 0)).set_ 3 (.bool false)).set_ 4 (.string ⟨#[]⟩)).set_ 5 (.string ⟨p.toArray⟩)).set_ 6 (.int .i64 a)).set_ 7 (.int .i64 b))
      have E0 := E.out.cell 0
      have E1 := E.out.cell 1
      have E2 := E.out.cell 2
      have E3 := E.out.cell 3
      have E4 := E.out.cell 4
      have E5 := E.out.cell 5
      have E6 := E.out.cell 6
      have E7 := E.out.cell 7
      exact bodyPost_ret (v := .agg #[.int .i64 9, .int .i64 0, .int .i64 0, .bool false, .string ⟨#[]⟩, .string ⟨p.toArray⟩, .int .i64 a, .int .i64 b]) (by simp [results, Tryd.results8, go_sem, E0, E1, E2, E3, E4, E5, E6, E7]) rfl ⟨by rw [HPL.out.1]; rfl, (((((((((((hFX.out.setCell (p := ⟨w.heap.size + 1 + 1, 5, none⟩) (.inr (by show w.heap.size ≤ w.heap.size + 1 + 1; omega)) _).setCell (p := ⟨w.heap.size + 1 + 1, 6, none⟩) (.inr (by show w.heap.size ≤ w.heap.size + 1 + 1; omega)) _).setCell (p := ⟨w.heap.size + 1 + 1, 7, none⟩) (.inr (by show w.heap.size ≤ w.heap.size + 1 + 1; omega)) _).setCell (p := ⟨w.heap.size + 1, 0, none⟩) (.inr (by show w.heap.size ≤ w.heap.size + 1; omega)) _).setCell (p := ⟨w.heap.size + 1, 1, none⟩) (.inr (by show w.heap.size ≤ w.heap.size + 1; omega)) _).setCell (p := ⟨w.heap.size + 1, 2, none⟩) (.inr (by show w.heap.size ≤ w.heap.size + 1; omega)) _).setCell (p := ⟨w.heap.size + 1, 3, none⟩) (.inr (by show w.heap.size ≤ w.heap.size + 1; omega)) _).setCell (p := ⟨w.heap.size + 1, 4, none⟩) (.inr (by show w.heap.size ≤ w.heap.size + 1; omega)) _).setCell (p := ⟨w.heap.size + 1, 5, none⟩) (.inr (by show w.heap.size ≤ w.heap.size + 1; omega)) _).setCell (p := ⟨w.heap.size + 1, 6, none⟩) (.inr (by show w.heap.size ≤ w.heap.size + 1; omega)) _).setCell (p := ⟨w.heap.size + 1, 7, none⟩) (.inr (by show w.heap.size ≤ w.heap.size + 1; omega)) _)⟩
set_option maxRecDepth 100000 in
set_option maxHeartbeats 8000000 in
theorem made_6 (kd g s : Int) (key : Bool) (body path : ByteArray) (n c : Int) (L : List UInt8) (q : Int) (a b : Nat) (w : World) (hq : kd.tmod 9 = q) (hq1 : -9 < q) (hq2 : q < 9) (hk : (q + 9) % 9 = 5) (hL : Hid (cutB path 16 = ⟨L.toArray⟩)) (hL16 : L.length ≤ 16) (hps : path.size ≤ 1000) (hbs : body.size ≤ 1000) (ha : bits .and .i64 g 255 = (a : Int)) (hb : bits .and .i64 s 65535 = (b : Int)) (ha1 : a ≤ 255) (hb1 : b ≤ 65535) :
    Calls Tryd.prog 8 #[.agg #[.int .i64 kd, .int .i64 g, .int .i64 s, .bool key, .string body, .string path, .int .i64 n, .int .i64 c]] w (Makes (Ms.frame a b key (cutB body 60).data.toList) w) := by
  have HSP : Hid (∀ w, Calls Tryd.prog 15 #[.string path, .int .i64 16] w fun e w' => e = .returned (.string ⟨L.toArray⟩) ∧ w = w') := Lib.hid (fun w => by rw [← hL.out]; exact short_any path 16 w (by omega) (by omega))
  have HSB : Hid (∀ w, Calls Tryd.prog 15 #[.string body, .int .i64 60] w fun e w' => e = .returned (.string (cutB body 60)) ∧ w = w') := Lib.hid (fun w => short_any body 60 w (by omega) (by omega))
  obtain ⟨S, hS⟩ : ∃ S : ByteArray, S = ⟨L.toArray⟩ := ⟨_, rfl⟩
  rw [← hS] at HSP
  have hSl : S.data.toList = L := by rw [hS]
  have HSL := Lib.hid hSl
  obtain ⟨W, hW⟩ : ∃ W, W = ((w.alloc (.cells #[.int .i64 kd, .int .i64 g, .int .i64 s, .bool key, .string body, .string path, .int .i64 n, .int .i64 c] 25)).alloc (.cells #[.int .i64 0, .int .i64 0, .int .i64 0, .bool false, .string ⟨#[]⟩, .string ⟨#[]⟩, .int .i64 0, .int .i64 0] 25)).alloc (.cells #[.int .i64 6, .int .i64 0, .int .i64 0, .bool false, .string ⟨#[]⟩, .string ⟨#[]⟩, .int .i64 0, .int .i64 0] 25) := ⟨_, rfl⟩
  have HBM : Hid (Blk W (w.heap.size) 25 #[.int .i64 kd, .int .i64 g, .int .i64 s, .bool key, .string body, .string path, .int .i64 n, .int .i64 c]) := Lib.hid (by rw [hW]; exact ((Blk.new w _ _).alloc _).alloc _)
  have HBR : Hid (Blk W (w.heap.size + 1) 25 #[.int .i64 0, .int .i64 0, .int .i64 0, .bool false, .string ⟨#[]⟩, .string ⟨#[]⟩, .int .i64 0, .int .i64 0]) := Lib.hid (by rw [hW]; have := Blk.new (w.alloc (.cells #[.int .i64 kd, .int .i64 g, .int .i64 s, .bool key, .string body, .string path, .int .i64 n, .int .i64 c] 25)) 25 #[.int .i64 0, .int .i64 0, .int .i64 0, .bool false, .string ⟨#[]⟩, .string ⟨#[]⟩, .int .i64 0, .int .i64 0]; rw [World.size_alloc] at this; exact this.alloc _)
  have HBX : Hid (Blk W (w.heap.size + 1 + 1) 25 #[.int .i64 6, .int .i64 0, .int .i64 0, .bool false, .string ⟨#[]⟩, .string ⟨#[]⟩, .int .i64 0, .int .i64 0]) := Lib.hid (by rw [hW]; have := Blk.new ((w.alloc (.cells #[.int .i64 kd, .int .i64 g, .int .i64 s, .bool key, .string body, .string path, .int .i64 n, .int .i64 c] 25)).alloc (.cells #[.int .i64 0, .int .i64 0, .int .i64 0, .bool false, .string ⟨#[]⟩, .string ⟨#[]⟩, .int .i64 0, .int .i64 0] 25)) 25 #[.int .i64 6, .int .i64 0, .int .i64 0, .bool false, .string ⟨#[]⟩, .string ⟨#[]⟩, .int .i64 0, .int .i64 0]; rw [World.size_alloc, World.size_alloc] at this; exact this)
  have HFW : Hid (Fr noneOf w W ∧ w.heap.size + 3 = W.heap.size) := Lib.hid ⟨by rw [hW]; exact (((Fr.refl _ _).alloc _).alloc _).alloc _, by rw [hW]; simp⟩
  have HW := Lib.hid hW
  clear hS hSl hL hps hbs hW
  go_enter Tryd.func8, Tryd.ntmps8
  go_wp2_with (first
    | (go_at_call 15; (with_reducible refine (HSP.out _).mono ?_); rintro e w1 ⟨rfl, rfl⟩)
    | (refine wpList_sbytes rfl 9 63 5 (.tmp 15) rfl Tryd.underlying9 Tryd.underlying63 Tryd.underlying5 S rfl ?_; intro w2 gr cap l2 hl2 hrow2 hf2 hgr; have HR2 := Lib.hid (And.intro hl2 (And.intro hrow2 (And.intro hf2 hgr))); clear hl2 hrow2 hf2 hgr))
  obtain rfl : l2 = L := HR2.out.1.out.trans HSL.out
  have HF2 : Hid (Fr noneOf W w2 ∧ W.heap.size ≤ gr) := Lib.hid (by rw [HW.out]; exact HR2.out.2.2)
  clear hq hq1 hq2 hk
  go_loopw [5] (fun i wr => ∃ k : Nat, k ≤ l2.length ∧ i = .int .i64 k ∧ Row wr gr (bytesV (half15 l2 k)) ∧ Fr (justOf gr) w2 wr) (fun i _ => l2.length - (intOf i).toNat)
  case atStart => exact ⟨0, by omega, rfl, by rw [half15_zero]; exact HR2.out.2.1, Fr.refl _ _⟩
  case round =>
    obtain ⟨k, hk, rfl, hrw, hfx⟩ := hrel
    have HRW := Lib.hid (And.intro hrw hfx)
    clear hrw hfx
    by_cases hlt : k < l2.length
    · obtain ⟨b, hb⟩ : ∃ b, b = l2[k] := ⟨_, rfl⟩
      have hcell : wr.cell? ⟨gr, k, none⟩ = some (.int .u8 (b.toNat : Int)) := HRW.out.1.cell k _ (by rw [bytesV_at (by rw [half15_len]; exact hlt)]; have := half15_at l2 k hlt; rw [List.getElem?_eq_getElem (by rw [half15_len]; exact hlt)] at this; rw [Option.some.inj this, hb]; rfl)
      have hfz : wr.frozen? ⟨gr, k, none⟩ = false := HRW.out.1.free k (by rw [show (bytesV (half15 l2 k)).length = l2.length by simp [bytesV, half15_len]]; exact hlt)
      have hand : bits .and .u8 (b.toNat : Int) 15 = ((mk15 b).toNat : Int) := and15 b
      have hI : (k : Int) < (l2.length : Int) := by omega
      have hk0 : (0 : Int) ≤ (k : Int) := by omega
      have HB := Lib.hid hb
      clear hb
      go_wp2
      go_roundw
      case rel =>
        refine ⟨k + 1, by omega, by go_num, ?_, HRW.out.2.put gr k _⟩
        rw [← half15_next l2 k hlt, ← HB.out]
        exact HRW.out.1.set_ k (by rw [show (bytesV (half15 l2 k)).length = l2.length by simp [bytesV, half15_len]]; exact hlt) _
      case measure => simp [intOf]; omega
    · obtain rfl : k = l2.length := by omega
      have HRA : Hid (Row wr gr (bytesV (l2.map mk15))) := Lib.hid (by have := HRW.out.1; rw [half15_all] at this; exact this)
      have hgx : w.heap.size + 3 ≤ gr := by have := HF2.out.2; have := HFW.out.2; omega
      have HM := Lib.hid ((HBM.out.fr0 HF2.out.1).fr HRW.out.2 (fun e => by have e : w.heap.size = gr := e; omega))
      have HR := Lib.hid ((HBR.out.fr0 HF2.out.1).fr HRW.out.2 (fun e => by have e : w.heap.size + 1 = gr := e; omega))
      have HX := Lib.hid ((HBX.out.fr0 HF2.out.1).fr HRW.out.2 (fun e => by have e : w.heap.size + 1 + 1 = gr := e; omega))
      have m0 : wr.cell? ⟨w.heap.size, 0, none⟩ = some (.int .i64 kd) := HM.out.cell 0
      have m1 : wr.cell? ⟨w.heap.size, 1, none⟩ = some (.int .i64 g) := HM.out.cell 1
      have m2 : wr.cell? ⟨w.heap.size, 2, none⟩ = some (.int .i64 s) := HM.out.cell 2
      have m3 : wr.cell? ⟨w.heap.size, 3, none⟩ = some (.bool key) := HM.out.cell 3
      have m4 : wr.cell? ⟨w.heap.size, 4, none⟩ = some (.string body) := HM.out.cell 4
      have m5 : wr.cell? ⟨w.heap.size, 5, none⟩ = some (.string path) := HM.out.cell 5
      have m6 : wr.cell? ⟨w.heap.size, 6, none⟩ = some (.int .i64 n) := HM.out.cell 6
      have m7 : wr.cell? ⟨w.heap.size, 7, none⟩ = some (.int .i64 c) := HM.out.cell 7
      have x0 : wr.cell? ⟨w.heap.size + 1 + 1, 0, none⟩ = some (.int .i64 6) := HX.out.cell 0
      have y0 := HX.out.frozen 0
      have x1 : wr.cell? ⟨w.heap.size + 1 + 1, 1, none⟩ = some (.int .i64 0) := HX.out.cell 1
      have y1 := HX.out.frozen 1
      have x2 : wr.cell? ⟨w.heap.size + 1 + 1, 2, none⟩ = some (.int .i64 0) := HX.out.cell 2
      have y2 := HX.out.frozen 2
      have x3 : wr.cell? ⟨w.heap.size + 1 + 1, 3, none⟩ = some (.bool false) := HX.out.cell 3
      have y3 := HX.out.frozen 3
      have x4 : wr.cell? ⟨w.heap.size + 1 + 1, 4, none⟩ = some (.string ⟨#[]⟩) := HX.out.cell 4
      have y4 := HX.out.frozen 4
      have x5 : wr.cell? ⟨w.heap.size + 1 + 1, 5, none⟩ = some (.string ⟨#[]⟩) := HX.out.cell 5
      have y5 := HX.out.frozen 5
      have x6 : wr.cell? ⟨w.heap.size + 1 + 1, 6, none⟩ = some (.int .i64 0) := HX.out.cell 6
      have y6 := HX.out.frozen 6
      have x7 : wr.cell? ⟨w.heap.size + 1 + 1, 7, none⟩ = some (.int .i64 0) := HX.out.cell 7
      have y7 := HX.out.frozen 7
      have r0 : wr.cell? ⟨w.heap.size + 1, 0, none⟩ = some (.int .i64 0) := HR.out.cell 0
      have z0 := HR.out.frozen 0
      have r1 : wr.cell? ⟨w.heap.size + 1, 1, none⟩ = some (.int .i64 0) := HR.out.cell 1
      have z1 := HR.out.frozen 1
      have r2 : wr.cell? ⟨w.heap.size + 1, 2, none⟩ = some (.int .i64 0) := HR.out.cell 2
      have z2 := HR.out.frozen 2
      have r3 : wr.cell? ⟨w.heap.size + 1, 3, none⟩ = some (.bool false) := HR.out.cell 3
      have z3 := HR.out.frozen 3
      have r4 : wr.cell? ⟨w.heap.size + 1, 4, none⟩ = some (.string ⟨#[]⟩) := HR.out.cell 4
      have z4 := HR.out.frozen 4
      have r5 : wr.cell? ⟨w.heap.size + 1, 5, none⟩ = some (.string ⟨#[]⟩) := HR.out.cell 5
      have z5 := HR.out.frozen 5
      have r6 : wr.cell? ⟨w.heap.size + 1, 6, none⟩ = some (.int .i64 0) := HR.out.cell 6
      have z6 := HR.out.frozen 6
      have r7 : wr.cell? ⟨w.heap.size + 1, 7, none⟩ = some (.int .i64 0) := HR.out.cell 7
      have z7 := HR.out.frozen 7
      have hFX : Hid (Fr noneOf w wr) := Lib.hid (HFW.out.1.trans (HF2.out.1.trans' HRW.out.2 (fun i hi e => by have e : i = gr := e; have := HF2.out.2; omega)))
      clear hgx
      have hK : ∀ (w' : World) u1 u2 u3 u4, (w'.cell? ⟨w.heap.size, 1, none⟩ = some (.int .i64 g) ∧ w'.cell? ⟨w.heap.size, 2, none⟩ = some (.int .i64 s) ∧ w'.cell? ⟨w.heap.size, 3, none⟩ = some (.bool key) ∧ w'.cell? ⟨w.heap.size, 4, none⟩ = some (.string body)) → ((((((w'.setCell ⟨w.heap.size + 1 + 1, 1, none⟩ u1).setCell ⟨w.heap.size + 1 + 1, 2, none⟩ u2).setCell ⟨w.heap.size + 1 + 1, 3, none⟩ u3).setCell ⟨w.heap.size + 1 + 1, 4, none⟩ u4).drew).cell? ⟨w.heap.size, 1, none⟩ = some (.int .i64 g) ∧ (((((w'.setCell ⟨w.heap.size + 1 + 1, 1, none⟩ u1).setCell ⟨w.heap.size + 1 + 1, 2, none⟩ u2).setCell ⟨w.heap.size + 1 + 1, 3, none⟩ u3).setCell ⟨w.heap.size + 1 + 1, 4, none⟩ u4).drew).cell? ⟨w.heap.size, 2, none⟩ = some (.int .i64 s) ∧ (((((w'.setCell ⟨w.heap.size + 1 + 1, 1, none⟩ u1).setCell ⟨w.heap.size + 1 + 1, 2, none⟩ u2).setCell ⟨w.heap.size + 1 + 1, 3, none⟩ u3).setCell ⟨w.heap.size + 1 + 1, 4, none⟩ u4).drew).cell? ⟨w.heap.size, 3, none⟩ = some (.bool key) ∧ (((((w'.setCell ⟨w.heap.size + 1 + 1, 1, none⟩ u1).setCell ⟨w.heap.size + 1 + 1, 2, none⟩ u2).setCell ⟨w.heap.size + 1 + 1, 3, none⟩ u3).setCell ⟨w.heap.size + 1 + 1, 4, none⟩ u4).drew).cell? ⟨w.heap.size, 4, none⟩ = some (.string body)) := fun w' u1 u2 u3 u4 h => by
        have e : ∀ (v : World) (i j : Nat) (u : Value), (v.setCell ⟨w.heap.size + 1 + 1, i, none⟩ u).cell? ⟨w.heap.size, j, none⟩ = v.cell? ⟨w.heap.size, j, none⟩ := fun v i j u => World.cell?_setCell_other v _ _ u (fun x => by have := congrArg Addr.block x; simp at this; omega)
        have d : ∀ (v : World) (p : Addr), v.drew.cell? p = v.cell? p := fun v p => rfl
        simp only [d, e]
        exact h
      have HK := Lib.hid hK
      clear hK
      clear r0 r1 r2 r3 r4 r5 r6 r7 z0 z1 z2 z3 z4 z5 z6 z7 m0 m5 m6 m7 y0 y5 y6 y7
      go_wp2
      --MANUAL
      refine wp_region_noPanic ?_
      refine wp_region_held_drew (S := fun w' => w'.cell? ⟨w.heap.size, 1, none⟩ = some (.int .i64 g) ∧ w'.cell? ⟨w.heap.size, 2, none⟩ = some (.int .i64 s) ∧ w'.cell? ⟨w.heap.size, 3, none⟩ = some (.bool key) ∧ w'.cell? ⟨w.heap.size, 4, none⟩ = some (.string body)) (by kernel_rfl) ⟨m1, m2, m3, m4⟩ (fun hHeld => ?_)
      refine wpAnyH_take (i := 0) (v := ?_) rfl (by kernel_rfl) (by kernel_rfl) (by kernel_rfl) (fun _ _ _ h => h) (Or.inl ⟨by rfl, ?_⟩) hHeld ?_; rotate_left; focus (intro w hSw; (try dsimp only at hSw); go_simp; with_reducible rfl)
      try simp only [Act.put, List.setIfInBounds_toArray, List.set_cons_zero, List.set_cons_succ]
      refine wpAnyH_take (i := 1) (v := ?_) rfl (by kernel_rfl) (by kernel_rfl) (by kernel_rfl) (fun _ _ _ h => h) (Or.inl ⟨by rfl, ?_⟩) hHeld ?_; rotate_left; focus (intro w hSw; (try dsimp only at hSw); go_simp; with_reducible rfl)
      try simp only [Act.put, List.setIfInBounds_toArray, List.set_cons_zero, List.set_cons_succ]
      refine wpAnyH_take (i := 2) (v := ?_) rfl (by kernel_rfl) (by kernel_rfl) (by kernel_rfl) (fun _ _ _ h => h) (Or.inl ⟨by rfl, ?_⟩) hHeld ?_; rotate_left; focus (intro w hSw; (try dsimp only at hSw); go_simp; with_reducible rfl)
      try simp only [Act.put, List.setIfInBounds_toArray, List.set_cons_zero, List.set_cons_succ]
      refine wpAnyH_take (i := 3) (v := ?_) rfl (by kernel_rfl) (by kernel_rfl) (by kernel_rfl) (fun _ _ _ h => h) (Or.inl ⟨by rfl, ?_⟩) hHeld ?_; rotate_left; focus (intro w hSw; (try dsimp only at hSw); go_simp; with_reducible rfl)
      try simp only [Act.put, List.setIfInBounds_toArray, List.set_cons_zero, List.set_cons_succ]
      refine wpAnyH_take (i := 4) (v := ?_) rfl (by kernel_rfl) (by kernel_rfl) (by kernel_rfl) (fun _ _ _ h => h) (Or.inl ⟨by rfl, ?_⟩) hHeld ?_; rotate_left; focus (intro w hSw; (try dsimp only at hSw); go_simp; with_reducible rfl)
      try simp only [Act.put, List.setIfInBounds_toArray, List.set_cons_zero, List.set_cons_succ]
      refine wpAnyH_take (i := 5) (v := ?_) rfl (by kernel_rfl) (by kernel_rfl) (by kernel_rfl) (fun _ _ _ h => h) (Or.inl ⟨by rfl, ?_⟩) hHeld ?_; rotate_left; focus (intro w hSw; (try dsimp only at hSw); go_simp; with_reducible rfl)
      try simp only [Act.put, List.setIfInBounds_toArray, List.set_cons_zero, List.set_cons_succ]
      refine wpAnyH_take (i := 6) (v := ?_) rfl (by kernel_rfl) (by kernel_rfl) (by kernel_rfl) (fun _ _ _ h => h) (Or.inl ⟨by rfl, ?_⟩) hHeld ?_; rotate_left; focus (intro w hSw; (try dsimp only at hSw); go_simp; with_reducible rfl)
      try simp only [Act.put, List.setIfInBounds_toArray, List.set_cons_zero, List.set_cons_succ]
      refine wpAnyH_take (i := 7) (v := ?_) rfl (by kernel_rfl) (by kernel_rfl) (by kernel_rfl) (fun _ _ _ h => h) (Or.inl ⟨by rfl, ?_⟩) hHeld ?_; rotate_left; focus (intro w hSw; (try dsimp only at hSw); go_simp; with_reducible rfl)
      try simp only [Act.put, List.setIfInBounds_toArray, List.set_cons_zero, List.set_cons_succ]
      refine wpAnyH_take (i := 8) (v := ?_) rfl (by kernel_rfl) (by kernel_rfl) (by kernel_rfl) (fun _ _ _ h => h) (Or.inl ⟨by rfl, ?_⟩) hHeld ?_; rotate_left; focus (intro w hSw; (try dsimp only at hSw); go_simp; with_reducible rfl)
      try simp only [Act.put, List.setIfInBounds_toArray, List.set_cons_zero, List.set_cons_succ]
      refine wpAnyH_take (i := 9) (v := ?_) rfl (by kernel_rfl) (by kernel_rfl) (by kernel_rfl) (fun _ _ _ h => h) (Or.inl ⟨by rfl, ?_⟩) hHeld ?_; rotate_left; focus (intro w hSw; (try dsimp only at hSw); go_simp; with_reducible rfl)
      try simp only [Act.put, List.setIfInBounds_toArray, List.set_cons_zero, List.set_cons_succ]
      refine wpAnyH_take (i := 10) (v := ?_) rfl (by kernel_rfl) (by kernel_rfl) (by kernel_rfl) (fun _ _ _ h => h) (Or.inl ⟨by rfl, ?_⟩) hHeld ?_; rotate_left; focus (intro w hSw; (try dsimp only at hSw); go_simp; with_reducible rfl)
      try simp only [Act.put, List.setIfInBounds_toArray, List.set_cons_zero, List.set_cons_succ]
      refine wpAnyH_take (i := 11) (v := ?_) rfl (by kernel_rfl) (by kernel_rfl) (by kernel_rfl) (fun _ _ _ h => h) (Or.inl ⟨by rfl, ?_⟩) hHeld ?_; rotate_left; focus (intro w hSw; (try dsimp only at hSw); go_simp; with_reducible rfl)
      try simp only [Act.put, List.setIfInBounds_toArray, List.set_cons_zero, List.set_cons_succ]
      refine wpAnyH_take (i := 12) (v := ?_) rfl (by kernel_rfl) (by kernel_rfl) (by kernel_rfl) (fun _ _ _ h => h) (Or.inl ⟨by rfl, ?_⟩) hHeld ?_; rotate_left; focus (intro w hSw; (try dsimp only at hSw); go_simp; with_reducible rfl)
      try simp only [Act.put, List.setIfInBounds_toArray, List.set_cons_zero, List.set_cons_succ]
      refine wpAnyH_take (i := 13) (v := ?_) rfl (by kernel_rfl) (by kernel_rfl) (by kernel_rfl) (fun _ _ _ h => h) (Or.inl ⟨by rfl, ?_⟩) hHeld ?_; rotate_left; focus (intro w hSw; (try dsimp only at hSw); go_simp; with_reducible rfl)
      try simp only [Act.put, List.setIfInBounds_toArray, List.set_cons_zero, List.set_cons_succ]
      refine wpAnyH_ready (rs := [14]) (by kernel_rfl) (by simp) (AllReadyH.cons (i := 14) rfl (fun K hK => ?_) AllReadyH.nil)
      go_simp
      go_at_call 15; (with_reducible refine (HSB.out _).mono ?_); rintro e wk ⟨rfl, rfl⟩
      go_wp2_with fail
      refine hK.out _ _ ⟨m1, m2, m3, m4⟩ (fun hHeld => ?_)
      clear hK K
      try simp only [Act.put, List.setIfInBounds_toArray, List.set_cons_zero, List.set_cons_succ]
      refine wpAnyH_take (i := 15) (v := ?_) rfl (by kernel_rfl) (by kernel_rfl) (by kernel_rfl) (fun _ _ _ h => h) (Or.inl ⟨by rfl, ?_⟩) hHeld ?_; rotate_left; focus (intro w hSw; (try dsimp only at hSw); go_simp; with_reducible rfl)
      try simp only [Act.put, List.setIfInBounds_toArray, List.set_cons_zero, List.set_cons_succ]
      refine wpAnyH_take (i := 16) (v := ?_) rfl (by kernel_rfl) (by kernel_rfl) (by kernel_rfl) (fun _ _ _ h => h) (Or.inl ⟨by rfl, ?_⟩) hHeld ?_; rotate_left; focus (intro w hSw; (try dsimp only at hSw); go_simp; with_reducible rfl)
      try simp only [Act.put, List.setIfInBounds_toArray, List.set_cons_zero, List.set_cons_succ]
      refine wpAnyH_ready (rs := [17]) (by kernel_rfl) (by simp) (AllReadyH.cons (i := 17) rfl (fun K hK => ?_) AllReadyH.nil)
      go_simp
      refine hK.out _ _ (HK.out _ _ _ _ _ ⟨m1, m2, m3, m4⟩) (fun hHeld => ?_)
      clear hK K
      try simp only [Act.put, List.setIfInBounds_toArray, List.set_cons_zero, List.set_cons_succ]
      refine wpAnyH_done (by kernel_rfl) (NoPanic.normal ?_) _
      obtain ⟨V, hV⟩ : ∃ V, V = ((((wr.setCell ⟨w.heap.size + 1 + 1, 1, none⟩ (.int .i64 a)).setCell ⟨w.heap.size + 1 + 1, 2, none⟩ (.int .i64 b)).setCell ⟨w.heap.size + 1 + 1, 3, none⟩ (.bool key)).setCell ⟨w.heap.size + 1 + 1, 4, none⟩ (.string (cutB body 60))).drew := ⟨_, rfl⟩
      rw [← hV]
      have HXV : Hid (Blk V (w.heap.size + 1 + 1) 25 #[.int .i64 6, .int .i64 a, .int .i64 b, .bool key, .string (cutB body 60), .string ⟨#[]⟩, .int .i64 0, .int .i64 0]) := Lib.hid (by rw [hV]; exact ((((HX.out.set_ 1 (.int .i64 a)).set_ 2 (.int .i64 b)).set_ 3 (.bool key)).set_ 4 (.string (cutB body 60))).drew)
      have HRV : Hid (Blk V (w.heap.size + 1) 25 #[.int .i64 0, .int .i64 0, .int .i64 0, .bool false, .string ⟨#[]⟩, .string ⟨#[]⟩, .int .i64 0, .int .i64 0]) := Lib.hid (by rw [hV]; exact ((((HR.out.far (p := ⟨w.heap.size + 1 + 1, 1, none⟩) (by simp) (.int .i64 a)).far (p := ⟨w.heap.size + 1 + 1, 2, none⟩) (by simp) (.int .i64 b)).far (p := ⟨w.heap.size + 1 + 1, 3, none⟩) (by simp) (.bool key)).far (p := ⟨w.heap.size + 1 + 1, 4, none⟩) (by simp) (.string (cutB body 60))).drew)
      have HFV : Hid (Fr noneOf w V) := Lib.hid (by rw [hV]; exact ((((hFX.out.setCell (p := ⟨w.heap.size + 1 + 1, 1, none⟩) (.inr (by show w.heap.size ≤ w.heap.size + 1 + 1; omega)) _).setCell (p := ⟨w.heap.size + 1 + 1, 2, none⟩) (.inr (by show w.heap.size ≤ w.heap.size + 1 + 1; omega)) _).setCell (p := ⟨w.heap.size + 1 + 1, 3, none⟩) (.inr (by show w.heap.size ≤ w.heap.size + 1 + 1; omega)) _).setCell (p := ⟨w.heap.size + 1 + 1, 4, none⟩) (.inr (by show w.heap.size ≤ w.heap.size + 1 + 1; omega)) _).drew)
      clear hV hHeld HX HR x0 x1 x2 x3 x4 x5 x6 x7
      have v0 := HXV.out.cell 0
      have v1 := HXV.out.cell 1
      have v2 := HXV.out.cell 2
      have v3 := HXV.out.cell 3
      have v4 := HXV.out.cell 4
      have v5 := HXV.out.cell 5
      have v6 := HXV.out.cell 6
      have v7 := HXV.out.cell 7
      have rr0 := HRV.out.cell 0
      have rr1 := HRV.out.cell 1
      have rr2 := HRV.out.cell 2
      have rr3 := HRV.out.cell 3
      have rr4 := HRV.out.cell 4
      have rr5 := HRV.out.cell 5
      have rr6 := HRV.out.cell 6
      have rr7 := HRV.out.cell 7
      have z0 := HRV.out.frozen 0
      have z1 := HRV.out.frozen 1
      have z2 := HRV.out.frozen 2
      have z3 := HRV.out.frozen 3
      have z4 := HRV.out.frozen 4
      have z5 := HRV.out.frozen 5
      have z6 := HRV.out.frozen 6
      have z7 := HRV.out.frozen 7
      go_wp2
      have E := Lib.hid ((((((((HRV.out.set_ 0 (.int .i64 6)).set_ 1 (.int .i64 a)).set_ 2 (.int .i64 b)).set_ 3 (.bool key)).set_ 4 (.string (cutB body 60))).set_ 5 (.string ⟨#[]⟩)).set_ 6 (.int .i64 0)).set_ 7 (.int .i64 0))
      have E0 := E.out.cell 0
      have E1 := E.out.cell 1
      have E2 := E.out.cell 2
      have E3 := E.out.cell 3
      have E4 := E.out.cell 4
      have E5 := E.out.cell 5
      have E6 := E.out.cell 6
      have E7 := E.out.cell 7
      exact bodyPost_ret (v := .agg #[.int .i64 6, .int .i64 a, .int .i64 b, .bool key, .string (cutB body 60), .string ⟨#[]⟩, .int .i64 0, .int .i64 0]) (by simp [results, Tryd.results8, go_sem, E0, E1, E2, E3, E4, E5, E6, E7]) rfl ⟨by rw [str_is (cutB body 60)]; rfl, ((((((((HFV.out.setCell (p := ⟨w.heap.size + 1, 0, none⟩) (.inr (by show w.heap.size ≤ w.heap.size + 1; omega)) _).setCell (p := ⟨w.heap.size + 1, 1, none⟩) (.inr (by show w.heap.size ≤ w.heap.size + 1; omega)) _).setCell (p := ⟨w.heap.size + 1, 2, none⟩) (.inr (by show w.heap.size ≤ w.heap.size + 1; omega)) _).setCell (p := ⟨w.heap.size + 1, 3, none⟩) (.inr (by show w.heap.size ≤ w.heap.size + 1; omega)) _).setCell (p := ⟨w.heap.size + 1, 4, none⟩) (.inr (by show w.heap.size ≤ w.heap.size + 1; omega)) _).setCell (p := ⟨w.heap.size + 1, 5, none⟩) (.inr (by show w.heap.size ≤ w.heap.size + 1; omega)) _).setCell (p := ⟨w.heap.size + 1, 6, none⟩) (.inr (by show w.heap.size ≤ w.heap.size + 1; omega)) _).setCell (p := ⟨w.heap.size + 1, 7, none⟩) (.inr (by show w.heap.size ≤ w.heap.size + 1; omega)) _)⟩
end Go.Proofs.YtblnmghbcgbgdaaDoor
