/-
  The walk of the law CheckDiffer.
  Conditions: none beyond what every argument meets.
-/
import Derived.Test.YtnbabfggndgfiaaLaw02
namespace Go.Proofs.Ytnbabfggndgfiaa
open Go.RowKit Crc
set_option linter.unusedVariables false

theorem four_len (t0 : ByteArray) (l : List UInt8) (h : Hid (l = (t0 ++ ⟨#[102, 111, 117, 114]⟩ : ByteArray).data.toList)) (hle : t0.size ≤ 299) : 4 ≤ l.length ∧ l.length ≤ 303 := by
  have := congrArg List.length h
  simp at this
  have e : t0.data.size = t0.size := rfl
  omega

theorem tmod_bd (a : Int) (l : List UInt8) (h : 4 ≤ l.length) : -((l.length : Int) - 3) < a.tmod ((l.length : Int) - 3) ∧ a.tmod ((l.length : Int) - 3) < (l.length : Int) - 3 := by
  have hp : (0 : Int) < (l.length : Int) - 3 := by omega
  constructor
  · have h1 := Int.lt_tmod_of_pos a hp
    exact h1
  · exact Int.tmod_lt_of_pos a hp

theorem all_step (zs : List UInt8) (m : Nat) (x : UInt8) (h : zs[m]? = some x) : (zs.take (m + 1)).all (· == 0) = ((zs.take m).all (· == 0) && ((x.toNat : Int) == 0)) := by
  rw [List.take_add_one, h]
  simp only [Option.toList_some, List.all_append, List.all_cons, List.all_nil, Bool.and_true]
  congr 1
  rw [Bool.eq_iff_iff]
  simp only [beq_iff_eq]
  constructor
  · rintro rfl; rfl
  · intro hx
    apply UInt8.toNat.inj
    show x.toNat = 0
    omega

theorem differ_fin (l : List UInt8) (k : Nat) (b0 b1 b2 b3 : UInt8) (h : k + 4 ≤ l.length) :
    ((((crc (spoil l k [b0, b1, b2, b3] 4)).toNat : Int) == ((crc l).toNat : Int)) == ([b0, b1, b2, b3].take 4).all (· == 0)) = true := by
  have hs := spoil_same ones l k b0 b1 b2 b3 h
  have e : (((crc (spoil l k [b0, b1, b2, b3] 4)).toNat : Int) = ((crc l).toNat : Int)) ↔ crcL ones (spoil l k [b0, b1, b2, b3] 4) = crcL ones l := by
    constructor
    · intro hh
      have h1 : crc (spoil l k [b0, b1, b2, b3] 4) = crc l := BitVec.eq_of_toNat_eq (by omega)
      unfold crc at h1
      have := congrArg (· ^^^ ones) h1
      simpa [BitVec.xor_assoc] using this
    · intro hh
      unfold crc
      rw [hh]
  rw [beq_iff_eq, Bool.eq_iff_iff, beq_iff_eq, e, hs]
  simp

set_option maxRecDepth 100000 in
theorem differ_walk (s : ByteArray) (at_ : Int) (b0 b1 b2 b3 : UInt8) (w : World) (hs : s.size ≤ 9223372036854775807) (h0 : -9223372036854775808 ≤ at_) (h1 : at_ ≤ 9223372036854775807) :
    Calls Try.prog 3 #[.string s, .int .i64 at_, .agg #[V8 b0, V8 b1, V8 b2, V8 b3]] w fun e w' => e = .returned (.bool true) ∧ Fr noneOf w w' := by
  unfold V8
  go_enter Try.func3, Try.ntmps3
  go_wp2_with fail
  refine (awake_any _).mono ?_
  rintro e w1 ⟨rfl, hf1⟩
  go_wp2_with fail
  refine (short_any s 299 _ hs (by omega)).mono ?_
  rintro e w2 ⟨rfl, rfl⟩
  have hcs := cut_size s 299
  obtain ⟨t0, ht0⟩ : ∃ t0, t0 = cut s 299 := ⟨_, rfl⟩
  rw [← ht0] at hcs ⊢
  have hle : t0.size ≤ 299 := by omega
  have HT := Lib.hid ht0
  have HF1 := Lib.hid hf1
  clear ht0 hcs hf1
  go_wp2_with (first
    | (refine wpList_sbytes rfl 9 24 5 _ rfl Try.underlying9 Try.underlying24 Try.underlying5 _ rfl ?_; intro w2 g cap l hl hrow hfr hg; have hll := four_len t0 l hl hle; have hll1 := hll.1; have hll2 := hll.2; have hmo := tmod_bd at_ l hll1; have hmo1 := hmo.1; have hmo2 := hmo.2; clear hll hmo)
    | (refine wpList_bstring rfl 24 9 5 _ rfl Try.underlying24 Try.underlying9 Try.underlying5 g cap _ l rfl rfl hrow ?_)
    | (go_at_call 8; refine (sumlist_any _ _ (by omega)).mono ?_; rintro e w3 ⟨rfl, hf3⟩))
  obtain ⟨k, hk⟩ : ∃ k : Nat, (at_.tmod (↑l.length - 3) + ↑l.length - 3) % (↑l.length - 3) = (k : Int) := ⟨((at_.tmod (↑l.length - 3) + ↑l.length - 3) % (↑l.length - 3)).toNat, (Int.toNat_of_nonneg (Int.emod_nonneg _ (by omega))).symm⟩
  have hk4 : k + 4 ≤ l.length := by
    have := Int.emod_lt_of_pos (at_.tmod (↑l.length - 3) + ↑l.length - 3) (show (0 : Int) < (l.length : Int) - 3 by omega)
    omega
  rw [hk]
  clear hk hmo1 hmo2
  have hbox := Fr.trans HF1.out (hfr.trans hf3)
  have hby : Row w3 w.heap.size (bytesV [b0, b1, b2, b3]) := Row.fr (Row.of_blk (Blk.new w 22 #[V8 b0, V8 b1, V8 b2, V8 b3])) hbox (fun x => x)
  have hfw := Fr.trans ((Fr.refl noneOf w).alloc (.cells #[V8 b0, V8 b1, V8 b2, V8 b3] 22)) hbox
  have hgw : w.heap.size < g := by
    have := HF1.out.size
    simp at this
    omega
  have hrow3 := hrow.fr hf3 (fun x => x)
  obtain ⟨zs, hzs⟩ : ∃ zs, zs = [b0, b1, b2, b3] := ⟨_, rfl⟩
  rw [← hzs] at hby
  have hz4 : zs.length = 4 := by rw [hzs]; rfl
  have HZ := Lib.hid hzs
  have HZ4 := Lib.hid hz4
  have HBY := Lib.hid hby
  have HFW := Lib.hid hfw
  have HR3 := Lib.hid hrow3
  clear hbox hfr hrow hf3 hby hfw hrow3 hzs hz4 HF1
  go_loopw [11, 12] (fun sm i wr => ∃ m : Nat, m ≤ 4 ∧ i = .int .i64 m ∧ sm = .bool ((zs.take m).all (· == 0)) ∧ Row wr g (bytesV (spoil l k zs m)) ∧ Row wr w.heap.size (bytesV zs) ∧ Fr noneOf w wr) (fun _ i _ => 4 - (intOf i).toNat)
  case atStart => exact ⟨0, by omega, rfl, rfl, HR3.out, HBY.out, HFW.out⟩
  case round =>
    obtain ⟨m, hm, rfl, rfl, hr, hb, hf⟩ := hrel
    by_cases hlt : m < 4
    · obtain ⟨x, hx⟩ : ∃ x, zs[m]? = some x := ⟨zs[m]'(by rw [HZ4.out]; exact hlt), List.getElem?_eq_getElem _⟩
      obtain ⟨y, hy⟩ : ∃ y, l[k + m]? = some y := ⟨l[k + m]'(by omega), List.getElem?_eq_getElem _⟩
      have c1 : wr.cell? ⟨g, k + m, none⟩ = some (.int .u8 (y.toNat : Int)) := hr.cell (k + m) (V8 y) (by simp [bytesV, spoil_later l k zs m (k + m) (by omega), hy])
      have f1 := hr.free (k + m) (by simp [bytesV, length_spoil]; omega)
      have c2 : wr.cell? ⟨w.heap.size, m, none⟩ = some (.int .u8 (x.toNat : Int)) := hb.cell m (V8 x) (by simp [bytesV, hx])
      have hxy : bits .xor .u8 (y.toNat : Int) (x.toNat : Int) = ((y ^^^ x).toNat : Int) := by rw [xor8 _ _ y.toNat_lt x.toNat_lt, UInt8.toNat_xor]
      have i0 : (0 : Int) ≤ (m : Int) := by omega
      have i1 : (m : Int) < 4 := by omega
      have i2 : (0 : Int) ≤ (k : Int) + (m : Int) := by omega
      have i3 : (k : Int) + (m : Int) < (l.length : Int) := by omega
      have hr2 := hr.set_ (k + m) (by simp [bytesV, length_spoil]; omega) (V8 (y ^^^ x))
      have hb2 := hb.far (p := ⟨g, k + m, none⟩) (by simp; omega) (V8 (y ^^^ x))
      have hf2 := Fr.setCell (p := ⟨g, k + m, none⟩) hf (.inr (by simp; omega)) (V8 (y ^^^ x))
      have hl2 : (bytesV (spoil l k zs m)).set (k + m) (V8 (y ^^^ x)) = bytesV (spoil l k zs (m + 1)) := by
        simp [spoil, bytesV, List.map_set, List.getD, hx, hy]
      rw [hl2] at hr2
      have c3 : (wr.setCell ⟨g, k + m, none⟩ (.int .u8 ((y ^^^ x).toNat : Int))).cell? ⟨w.heap.size, m, none⟩ = some (.int .u8 (x.toNat : Int)) := hb2.cell m (V8 x) (by simp [bytesV, hx])
      have hall := all_step zs m x hx
      obtain ⟨bb, hbb⟩ : ∃ bb, (zs.take m).all (· == 0) = bb := ⟨_, rfl⟩
      rw [hbb] at hall ⊢
      have HA := Lib.hid hall
      have HR2 := Lib.hid hr2
      have HB2 := Lib.hid hb2
      have HF2 := Lib.hid hf2
      clear hx hy hr hb hf hr2 hb2 hf2 hl2 hall hbb
      cases bb
      all_goals
        go_wp2
        go_region
        all_goals
          go_wp2
          go_roundw
          case rel => exact ⟨m + 1, by omega, by go_num, by rw [HA.out]; simp, HR2.out.drew, HB2.out.drew, HF2.out.drew⟩
          case measure => simp [intOf]; omega
    · have hmm : m = 4 := by omega
      subst hmm
      obtain ⟨l2, hl2⟩ : ∃ l2, l2 = spoil l k zs 4 := ⟨_, rfl⟩
      rw [← hl2] at hr
      have hln : l.length = l2.length := by rw [hl2, length_spoil]
      have hlb : l2.length ≤ 303 := by omega
      obtain ⟨bb, hbb⟩ : ∃ bb, (zs.take 4).all (· == 0) = bb := ⟨_, rfl⟩
      rw [hbb]
      have hfin : ((((crc l2).toNat : Int) == ((crc l).toNat : Int)) == bb) = true := by
        rw [← hbb, hl2, HZ.out]
        exact differ_fin l k b0 b1 b2 b3 hk4
      have HL := Lib.hid hln
      have HFF := Lib.hid hf
      clear hl2 hln hf hb hbb
      have hcv : (convert 24 9 (.slice (some ⟨g, 0, none⟩) l.length cap)).run Try.prog wr = .ok (.string ⟨l2.toArray⟩) wr := by
        rw [HL.out]
        exact run_bytes_back hr 24 9 5 Try.underlying24 Try.underlying5 Try.underlying9 cap
      clear hr
      go_wp2_with (go_at_call 8; refine (sumlist_any _ _ (by omega)).mono ?_; rintro e w4 ⟨rfl, hf4⟩)
      go_ret
      exact ⟨rfl, HFF.out.trans hf4⟩
end Go.Proofs.Ytnbabfggndgfiaa
