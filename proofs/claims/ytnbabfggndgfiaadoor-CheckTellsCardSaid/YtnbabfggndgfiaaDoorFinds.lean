/-
  CheckFinds: the walk.
-/
import Derived.Test.YtnbabfggndgfiaaDoorBack02
namespace Go.Proofs.YtnbabfggndgfiaaDoor
open Go.RowKit Crc
set_option linter.unusedVariables false

/-- A body with its sum sums to one word, whatever the body. -/
theorem word_tail (x : BitVec 32) : word (UInt8.ofNat (x.toNat % 256)).toNat (UInt8.ofNat (x.toNat / 256 % 256)).toNat (UInt8.ofNat (x.toNat / 65536 % 256)).toNat (UInt8.ofNat (x.toNat / 16777216 % 256)).toNat = x := by
  have hx := x.isLt
  apply BitVec.eq_of_toNat_eq
  rw [word_toNat _ _ _ _ (UInt8.toNat_lt _) (UInt8.toNat_lt _) (UInt8.toNat_lt _) (UInt8.toNat_lt _)]
  simp only [UInt8.toNat_ofNat']
  omega
theorem crc_wrapped (l : List UInt8) : crcL ones (l ++ tailL (crc l)) = iter 32 ones := by
  rw [crcL_append]
  unfold tailL
  rw [crcL_four, word_tail]
  congr 1
  unfold crc
  rw [← BitVec.xor_assoc, BitVec.xor_self, BitVec.zero_xor]
/-- What was spoilt has not its own sum. -/
theorem finds_fin (b : List UInt8) (k : Nat) (x y z u : UInt8) (hk : k + 4 ≤ (b ++ tailL (crc b)).length) (l2 : List UInt8) (hl : l2 = spoil (b ++ tailL (crc b)) k [x, y, z, u] 4)
    (h : tailL (crc (l2.take b.length)) = l2.drop b.length) : x = 0 ∧ y = 0 ∧ z = 0 ∧ u = 0 := by
  have h1 : l2 = l2.take b.length ++ tailL (crc (l2.take b.length)) := by rw [h, List.take_append_drop]
  have h2 := crc_wrapped (l2.take b.length)
  rw [← h1, ← crc_wrapped b, hl] at h2
  exact (spoil_same ones _ k x y z u hk).1 h2
theorem zs_zero (x y z u : UInt8) : (([x, y, z, u] : List UInt8).take 4).all (· == 0) = true ↔ (x = 0 ∧ y = 0 ∧ z = 0 ∧ u = 0) := by
  simp
theorem open_spoilt (l : List UInt8) (n : Nat) (w : World) (hl : l.length = n + 4) (hn : n ≤ 4096) (h : tailL (crc (l.take n)) ≠ l.drop n) :
    Calls Tryd.prog 13 #[.string ⟨l.toArray⟩] w fun e w' => e = .returned (.tuple #[.string ⟨#[]⟩, .iface 34 (.int .i64 17)]) ∧ Fr noneOf w w' := by
  refine open_bad ⟨l.toArray⟩ n w (by rw [size_mk, hl]) hn ?_
  rw [beq_eq_false_iff_ne]
  intro e
  have e1 : (⟨l.toArray⟩ : ByteArray).data.toList = l := by simp
  rw [ByteArray.toList_eq, ByteArray.toList_eq, extract_list, tailB_list, size_mk, e1, List.take_of_length_le (Nat.le_refl l.length)] at e
  exact h e

theorem tmod_bd (a : Int) (l : List UInt8) (h : 4 ≤ l.length) : -((l.length : Int) - 3) < a.tmod ((l.length : Int) - 3) ∧ a.tmod ((l.length : Int) - 3) < (l.length : Int) - 3 := by
  have hp : (0 : Int) < (l.length : Int) - 3 := by omega
  constructor
  · have h1 := Int.lt_tmod_of_pos a hp
    exact h1
  · exact Int.tmod_lt_of_pos a hp

theorem all_step (zs : List UInt8) (m : Nat) (x : UInt8) (h : zs[m]? = some x) : (zs.take (m + 1)).all (· == 0) = ((zs.take m).all (· == 0) && ((x.toNat : Int) == 0)) := by
  rw [List.take_add_one, h]
  simp only [Option.toList_some, List.all_append, List.all_cons, List.all_nil, Bool.and_true]
  congr 1
  rw [Bool.eq_iff_iff]
  simp only [beq_iff_eq]
  constructor
  · rintro rfl; rfl
  · intro hx
    apply UInt8.toNat.inj
    show x.toNat = 0
    omega


theorem finds_walk (s : ByteArray) (at_ : Int) (b0 b1 b2 b3 : UInt8) (w : World) (hs : s.size ≤ 9223372036854775807) (h0 : -9223372036854775808 ≤ at_) (h1 : at_ ≤ 9223372036854775807) (hg0 : errT w) :
    Calls Tryd.prog 4 #[.string s, .int .i64 at_, .agg #[V8 b0, V8 b1, V8 b2, V8 b3]] w fun e w' => e = .returned (.bool true) ∧ Fr noneOf w w' := by
  obtain ⟨t, ht⟩ : ∃ t, t = cut s 300 := ⟨_, rfl⟩
  have htz : t.size ≤ 300 := by rw [ht, cut_size]; omega
  have hq1 : ∀ w, Calls Tryd.prog 7 #[.string s, .int .i64 300] w fun e w' => e = .returned (.string t) ∧ w = w' := fun w => by rw [ht]; exact short_any s 300 w hs (by omega)
  have hws : (wrapB t).size = t.size + 4 := wrapB_size t
  have HWL := Lib.hid (wrapB_list t)
  obtain ⟨x0, hx0⟩ : ∃ x0, x0 = wrapB t := ⟨_, rfl⟩
  have hq3 := wrap_is t
  have hq4 := open_wrapped t
  rw [← hx0] at hq3 hq4 hws HWL
  have Q1 := Lib.hid hq1
  have Q3 := Lib.hid hq3
  have Q4 := Lib.hid hq4
  have hxz : x0.size ≤ 304 := by omega
  have HWS := Lib.hid hws
  have HGE := Lib.hid hg0
  have hxlo : 4 ≤ x0.size := by omega
  have hxI : ¬ (x0.size : Int) < 4 := by omega
  clear ht hq1 hq3 hq4 hws hs hx0 hg0
  unfold V8
  go_enter Tryd.func4, Tryd.ntmps4
  go_wp2_with (first
    | (go_at_call 6; refine (awake_any _).mono ?_; rintro e w1 ⟨rfl, hf1⟩)
    | (go_at_call 7; (with_reducible refine (Q1.out _).mono ?_); rintro e w' ⟨rfl, rfl⟩)
    | (go_at_call 11; (with_reducible refine (Q3.out _ (by omega)).mono ?_); rintro e w2 ⟨rfl, hf2⟩)
    | (go_at_call 12; (with_reducible refine (code_nil _).mono ?_); rintro e w5 ⟨rfl, hf5⟩)
    | (refine wpList_sbytes rfl 9 24 5 _ rfl Tryd.underlying9 Tryd.underlying24 Tryd.underlying5 _ rfl ?_; intro w3 g cap l hl hrow hfr hg; have hll : l.length = x0.size := (by rw [hl.out]; simp); have hll1 : 4 ≤ l.length := (by omega); have hll2 : l.length ≤ 304 := (by omega); have hmo := tmod_bd at_ l hll1; have hmo1 := hmo.1; have hmo2 := hmo.2; have HLL := Lib.hid hll; clear hll hmo))
  obtain ⟨k, hk⟩ : ∃ k : Nat, (at_.tmod (↑l.length - 3) + ↑l.length - 3) % (↑l.length - 3) = (k : Int) := ⟨((at_.tmod (↑l.length - 3) + ↑l.length - 3) % (↑l.length - 3)).toNat, (Int.toNat_of_nonneg (Int.emod_nonneg _ (by omega))).symm⟩
  have hk4 : k + 4 ≤ l.length := by
    have := Int.emod_lt_of_pos (at_.tmod (↑l.length - 3) + ↑l.length - 3) (show (0 : Int) < (l.length : Int) - 3 by omega)
    omega
  rw [hk]
  clear hk hmo1 hmo2
  have hbox := ((hf1.trans hf2).trans hf5).trans hfr
  have hby : Row w3 w.heap.size (bytesV [b0, b1, b2, b3]) := Row.fr (Row.of_blk (Blk.new w 29 #[V8 b0, V8 b1, V8 b2, V8 b3])) hbox (fun x => x)
  have hfw := Fr.trans ((Fr.refl noneOf w).alloc (.cells #[V8 b0, V8 b1, V8 b2, V8 b3] 29)) hbox
  have hgw : w.heap.size < g := by
    have h1' := hf1.size
    have h2' := hf2.size
    have h5' := hf5.size
    simp at h1'
    omega
  have hrow3 := hrow
  obtain ⟨zs, hzs⟩ : ∃ zs, zs = [b0, b1, b2, b3] := ⟨_, rfl⟩
  rw [← hzs] at hby
  have hz4 : zs.length = 4 := by rw [hzs]; rfl
  have HZ := Lib.hid hzs
  have HZ4 := Lib.hid hz4
  have HBY := Lib.hid hby
  have HFW := Lib.hid hfw
  have HR3 := Lib.hid hrow3
  clear hbox hfr hrow hby hfw hrow3 hzs hz4 hf1 hf2 hf5
  go_loopw [12, 13] (fun sm i wr => ∃ m : Nat, m ≤ 4 ∧ i = .int .i64 m ∧ sm = .bool ((zs.take m).all (· == 0)) ∧ Row wr g (bytesV (spoil l k zs m)) ∧ Row wr w.heap.size (bytesV zs) ∧ Fr noneOf w wr) (fun _ i _ => 4 - (intOf i).toNat)
  case atStart => exact ⟨0, by omega, rfl, rfl, HR3.out, HBY.out, HFW.out⟩
  case round =>
    obtain ⟨m, hm, rfl, rfl, hr, hb, hf⟩ := hrel
    by_cases hlt : m < 4
    · obtain ⟨x, hx⟩ : ∃ x, zs[m]? = some x := ⟨zs[m]'(by rw [HZ4.out]; exact hlt), List.getElem?_eq_getElem _⟩
      obtain ⟨y, hy⟩ : ∃ y, l[k + m]? = some y := ⟨l[k + m]'(by omega), List.getElem?_eq_getElem _⟩
      have c1 : wr.cell? ⟨g, k + m, none⟩ = some (.int .u8 (y.toNat : Int)) := hr.cell (k + m) (V8 y) (by simp [bytesV, spoil_later l k zs m (k + m) (by omega), hy])
      have f1 := hr.free (k + m) (by simp [bytesV, length_spoil]; omega)
      have c2 : wr.cell? ⟨w.heap.size, m, none⟩ = some (.int .u8 (x.toNat : Int)) := hb.cell m (V8 x) (by simp [bytesV, hx])
      have hxy : bits .xor .u8 (y.toNat : Int) (x.toNat : Int) = ((y ^^^ x).toNat : Int) := by rw [xor8 _ _ y.toNat_lt x.toNat_lt, UInt8.toNat_xor]
      have i0 : (0 : Int) ≤ (m : Int) := by omega
      have i1 : (m : Int) < 4 := by omega
      have i2 : (0 : Int) ≤ (k : Int) + (m : Int) := by omega
      have i3 : (k : Int) + (m : Int) < (l.length : Int) := by omega
      have hr2 := hr.set_ (k + m) (by simp [bytesV, length_spoil]; omega) (V8 (y ^^^ x))
      have hb2 := hb.far (p := ⟨g, k + m, none⟩) (by simp; omega) (V8 (y ^^^ x))
      have hf2 := Fr.setCell (p := ⟨g, k + m, none⟩) hf (.inr (by simp; omega)) (V8 (y ^^^ x))
      have hl2 : (bytesV (spoil l k zs m)).set (k + m) (V8 (y ^^^ x)) = bytesV (spoil l k zs (m + 1)) := by
        simp [spoil, bytesV, List.map_set, List.getD, hx, hy]
      rw [hl2] at hr2
      have c3 : (wr.setCell ⟨g, k + m, none⟩ (.int .u8 ((y ^^^ x).toNat : Int))).cell? ⟨w.heap.size, m, none⟩ = some (.int .u8 (x.toNat : Int)) := hb2.cell m (V8 x) (by simp [bytesV, hx])
      have hall := all_step zs m x hx
      obtain ⟨bb, hbb⟩ : ∃ bb, (zs.take m).all (· == 0) = bb := ⟨_, rfl⟩
      rw [hbb] at hall ⊢
      have HA := Lib.hid hall
      have HR2 := Lib.hid hr2
      have HB2 := Lib.hid hb2
      have HF2 := Lib.hid hf2
      clear hx hy hr hb hf hr2 hb2 hf2 hl2 hall hbb
      cases bb
      all_goals
        go_wp2
        go_region
        all_goals
          go_wp2
          go_roundw
          case rel => exact ⟨m + 1, by omega, by go_num, by rw [HA.out]; simp, HR2.out.drew, HB2.out.drew, HF2.out.drew⟩
          case measure => simp [intOf]; omega
    · have hmm : m = 4 := by omega
      subst hmm
      obtain ⟨l2, hl2⟩ : ∃ l2, l2 = spoil l k zs 4 := ⟨_, rfl⟩
      rw [← hl2] at hr
      have hln : l.length = l2.length := by rw [hl2, length_spoil]
      have hlb : l2.length ≤ 304 := by omega
      have hlw : l = t.data.toList ++ tailL (crc t.data.toList) := by rw [hl.out]; exact HWL.out
      have htl : t.size = t.data.toList.length := by simp
      have HLN := Lib.hid hln
      have HFF := Lib.hid hf
      have HGW := Lib.hid (HGE.out.fr hf)
      by_cases hz : b0 = 0 ∧ b1 = 0 ∧ b2 = 0 ∧ b3 = 0
      · have hbb : (zs.take 4).all (· == 0) = true := by rw [HZ.out]; exact (zs_zero _ _ _ _).2 hz
        rw [hbb]
        have hl3 : l2 = l := by
          obtain ⟨rfl, rfl, rfl, rfl⟩ := hz
          rw [hl2, HZ.out]
          exact spoil_zero l k hk4
        have hx0 : (⟨l2.toArray⟩ : ByteArray) = x0 := by
          apply b_ext
          rw [hl3]
          simpa using hl.out
        have hcv : (convert 24 9 (.slice (some ⟨g, 0, none⟩) l.length cap)).run Tryd.prog wr = .ok (.string x0) wr := by
          rw [HLN.out, ← hx0]
          exact run_bytes_back hr 24 9 5 Tryd.underlying24 Tryd.underlying5 Tryd.underlying9 cap
        have hte : (t.toList == t.toList) = true := by simp
        clear hr hf hb hl2 hln hbb hz hl3 hx0 hlw htl
        go_wp2_with (first
          | (go_at_call 13; (with_reducible refine (Q4.out _ (by omega)).mono ?_); rintro e w4 ⟨rfl, hf4⟩)
          | (go_at_call 12; (with_reducible refine (code_nil _).mono ?_); rintro e w5 ⟨rfl, hf5⟩)
          | (go_at_call 7; (with_reducible refine (Q1.out _).mono ?_); rintro e w' ⟨rfl, rfl⟩))
        go_ret
        exact ⟨rfl, (HFF.out.trans hf4).trans hf5⟩
      · have hbb : (zs.take 4).all (· == 0) = false := by
          rw [HZ.out]
          cases hc : (([b0, b1, b2, b3] : List UInt8).take 4).all (· == 0) with
          | false => rfl
          | true => exact absurd ((zs_zero _ _ _ _).1 hc) hz
        rw [hbb]
        have hbad : tailL (crc (l2.take t.size)) ≠ l2.drop t.size := by
          intro e
          rw [htl] at e
          refine hz (finds_fin t.data.toList k b0 b1 b2 b3 (by rw [← hlw]; exact hk4) l2 ?_ e)
          rw [hl2, HZ.out, hlw]
        have HOP := Lib.hid (fun w => open_spoilt l2 t.size w (by have := HLL.out; have := HWS.out; omega) (by omega) hbad)
        have hcv : (convert 24 9 (.slice (some ⟨g, 0, none⟩) l.length cap)).run Tryd.prog wr = .ok (.string ⟨l2.toArray⟩) wr := by
          rw [HLN.out]
          exact run_bytes_back hr 24 9 5 Tryd.underlying24 Tryd.underlying5 Tryd.underlying9 cap
        clear hr hf hb hl2 hln hbb hz hbad hlw htl
        go_wp2_with (first
          | (go_at_call 13; (with_reducible refine (HOP.out _).mono ?_); rintro e w4 ⟨rfl, hf4⟩)
          | (go_at_call 12; (with_reducible refine (code_num 17 _ (HGW.out.fr hf4)).mono ?_); rintro e w5 ⟨rfl, hf5⟩))
        go_ret
        exact ⟨rfl, (HFF.out.trans hf4).trans hf5⟩
end Go.Proofs.YtnbabfggndgfiaaDoor
