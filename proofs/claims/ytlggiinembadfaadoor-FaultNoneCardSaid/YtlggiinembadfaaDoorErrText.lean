/-
  The text of a bare number's fault: some text, never empty.
  Conditions: none.
-/
import Derived.Test.YtlggiinembadfaaDoorFaultNil
import Derived.Deep.DeepCutAuto
namespace Go.Proofs.YtlggiinembadfaaDoor
open Go.RowKit Go.Extern.Stop Go.Stop Go.Extern
set_option linter.unusedVariables false
set_option linter.unusedSimpArgs false

theorem str_add (x y : List UInt8) : (⟨x.toArray⟩ ++ ⟨y.toArray⟩ : ByteArray) = ⟨(x ++ y).toArray⟩ := ByteArray.mk_append_mk x y
theorem str_len (l : List UInt8) : (⟨l.toArray⟩ : ByteArray).size = l.length := by show l.toArray.size = _; simp
theorem wrap_u64 (x : Int) : ∃ u : Nat, u < 18446744073709551616 ∧ IntKind.u64.wrap x = (u : Int) := by
  refine ⟨(IntKind.u64.wrap x).toNat, ?_, ?_⟩ <;> (simp only [IntKind.wrap, IntKind.signed, IntKind.bits]; simp; omega)
def errHead : List UInt8 := [108, 121, 99, 101, 117, 109, 58, 32, 101, 114, 114, 111, 114, 32]
theorem digit_of (u : Nat) : (48 : Int) + (u : Int) % 10 = ((UInt8.ofNat (48 + u % 10)).toNat : Int) := by
  rw [UInt8.toNat_ofNat']; omega
/-- Some text, not the empty one. -/
def SomeText (w : World) (e : Ending) (w' : World) : Prop := ∃ T : ByteArray, e = .returned (.string T) ∧ 0 < T.size ∧ T.size ≤ 100 ∧ Fr noneOf w w'
theorem row_one (w : World) (cb : UInt8) (g : Nat) (hg : g = w.heap.size) : Row (w.alloc (.cells #[.int .u8 (cb.toNat : Int)] 5)) g (bytesV [cb]) := by subst hg; exact Row.of_blk (Blk.new w 5 #[.int .u8 (cb.toNat : Int)])
theorem size_one (cb : UInt8) : (⟨([cb] : List UInt8).toArray⟩ : ByteArray).size = 1 := rfl
theorem size_head (x : ByteArray) : (⟨#[108, 121, 99, 101, 117, 109, 58, 32, 101, 114, 114, 111, 114, 32]⟩ ++ x : ByteArray).size = 14 + x.size := by rw [ByteArray.size_append]; rfl
set_option maxRecDepth 100000 in
set_option maxHeartbeats 4000000 in
theorem errno_text (n : Int) (w : World) (h0 : -9223372036854775808 ≤ n) (h1 : n ≤ 9223372036854775807) :
    Calls Tryd.prog 50 #[.int .i64 n] w (SomeText w) := by
  have key : ∃ (u : Nat) (sg : ByteArray), u < 18446744073709551616 ∧ sg.size ≤ 1 ∧ ((n < 0 ∧ sg = ⟨#[45]⟩ ∧ ∃ v : Nat, IntKind.u64.wrap n = (v : Int) ∧ IntKind.u64.wrap (-(v : Int)) = (u : Int)) ∨ (0 ≤ n ∧ n = (u : Int) ∧ sg = ⟨#[]⟩)) := by
    by_cases hn : n < 0
    · obtain ⟨v, hv, ev⟩ := wrap_u64 n
      obtain ⟨u, hu, eu⟩ := wrap_u64 (-(v : Int))
      exact ⟨u, ⟨#[45]⟩, hu, Nat.le_refl _, .inl ⟨hn, rfl, v, ev, eu⟩⟩
    · exact ⟨n.toNat, ⟨#[]⟩, by omega, by decide, .inr ⟨by omega, by omega, rfl⟩⟩
  obtain ⟨u, sg, hu, hsg, key⟩ := key
  obtain ⟨cb, hcb⟩ : ∃ cb, cb = UInt8.ofNat (48 + u % 10) := ⟨_, rfl⟩
  have hcv : (48 : Int) + (u : Int) % 10 = (cb.toNat : Int) := by rw [hcb]; exact digit_of u
  clear hcb
  have HSG := Lib.hid hsg
  rcases key with ⟨hn, hs, v, ev, eu⟩ | ⟨hn, hs, hsg0⟩
  · have HS := Lib.hid hs
    clear hs hsg
    go_enter Tryd.func50, Tryd.ntmps50
    go_wp2_with (refine wpList_bstring rfl 64 9 5 (.tmp 16) rfl Tryd.underlying64 Tryd.underlying9 Tryd.underlying5 w.heap.size 1 1 [cb] rfl rfl (row_one _ _ _ rfl) ?_)
    rw [← HS.out]
    have HF0 : Hid (Fr noneOf w (w.alloc (.cells #[.int .u8 (cb.toNat : Int)] 5))) := Lib.hid ((Fr.refl _ _).alloc _)
    have hu20 : u < 10 ^ 20 := by omega
    have HU := Lib.hid hu20
    have HU64 := Lib.hid hu
    clear hcv hu hu20 ev eu HS
    go_loopw [3, 5] (fun x t wr => ∃ (m : Nat) (T : ByteArray), x = .int .u64 (m : Int) ∧ t = .string T ∧ Hid (m < 10 ^ (21 - T.size)) ∧ 1 ≤ T.size ∧ T.size ≤ 20 ∧ Hid (m < 18446744073709551616) ∧ Fr noneOf w wr) (fun x _ _ => (intOf x).toNat)
    case atStart => exact ⟨u, ⟨([cb] : List UInt8).toArray⟩, rfl, rfl, HU.out, by rw [size_one]; omega, by rw [size_one]; omega, HU64, HF0.out⟩
    case round =>
      obtain ⟨m, T, rfl, rfl, hm, hT1, hT2, hm64, hf⟩ := hrel
      have HF := Lib.hid hf
      have HT := Lib.hid (And.intro hT1 hT2)
      clear hf
      by_cases h10 : 10 ≤ m
      · obtain ⟨cd, hcd⟩ : ∃ cd, cd = UInt8.ofNat (48 + (m / 10) % 10) := ⟨_, rfl⟩
        have hcw : (48 : Int) + (m : Int) / 10 % 10 = (cd.toNat : Int) := by
          have := digit_of (m / 10)
          rw [hcd]
          omega
        clear hcd
        obtain ⟨D, hD⟩ : ∃ D : ByteArray, D = ⟨([cd] : List UInt8).toArray⟩ := ⟨_, rfl⟩
        have hDs : D.size = 1 := by rw [hD]; rfl
        have hadd : ¬ 9223372036854775807 < D.size + T.size := by omega
        have HD := Lib.hid hD
        have HDS := Lib.hid hDs
        have hmI : (10 : Int) ≤ (m : Int) := by omega
        have hmb : m < 18446744073709551616 := hm64.out
        clear hD hDs
        go_wp2_with (refine wpList_bstring rfl 64 9 5 (.tmp 26) rfl Tryd.underlying64 Tryd.underlying9 Tryd.underlying5 wr.heap.size 1 1 [cd] rfl rfl (row_one _ _ _ rfl) ?_; rw [← HD.out])
        go_roundw
        case rel =>
          have hpow := hm.out
          have hle : T.size ≤ 19 := by
            rcases Nat.lt_or_ge T.size 20 with h | h
            · omega
            · have e : T.size = 20 := by omega
              rw [e] at hpow
              omega
          refine ⟨m / 10, D ++ T, by go_num, rfl, ?_, by rw [ByteArray.size_append]; omega, by rw [ByteArray.size_append, HDS.out]; omega, Lib.hid (by have := hm64.out; omega), HF.out.alloc _⟩
          rw [ByteArray.size_append, HDS.out]
          show m / 10 < 10 ^ (21 - (1 + T.size))
          rw [show 21 - T.size = (21 - (1 + T.size)) + 1 by omega, Nat.pow_succ] at hpow
          omega
        case measure => simp [intOf]; omega
      · have hmI : ¬ (10 : Int) ≤ (m : Int) := by omega
        obtain ⟨E, hE⟩ : ∃ E : ByteArray, E = ⟨#[108, 121, 99, 101, 117, 109, 58, 32, 101, 114, 114, 111, 114, 32]⟩ := ⟨_, rfl⟩
        have hEs : E.size = 14 := by rw [hE]; rfl
        have HE := Lib.hid hEs
        have hsg1 := HSG.out
        have ha1 : ¬ 9223372036854775807 < E.size + sg.size := by omega
        have ha2 : ¬ 9223372036854775807 < (E ++ sg).size + T.size := by rw [ByteArray.size_append]; omega
        clear hEs hsg1
        go_upto_region 9 with fail
        rw [← hE]
        clear hE
        go_wp2
        go_ret
        exact ⟨E ++ sg ++ T, rfl, by rw [ByteArray.size_append]; omega, by rw [ByteArray.size_append, ByteArray.size_append, HE.out]; have := HSG.out; omega, HF.out⟩
  · subst hs
    have hn0 : ¬ (u : Int) < 0 := by omega
    have HS := Lib.hid hsg0
    clear hsg0 hsg
    go_enter Tryd.func50, Tryd.ntmps50
    go_wp2_with (refine wpList_bstring rfl 64 9 5 (.tmp 16) rfl Tryd.underlying64 Tryd.underlying9 Tryd.underlying5 w.heap.size 1 1 [cb] rfl rfl (row_one _ _ _ rfl) ?_)
    rw [← HS.out]
    have HF0 : Hid (Fr noneOf w (w.alloc (.cells #[.int .u8 (cb.toNat : Int)] 5))) := Lib.hid ((Fr.refl _ _).alloc _)
    have hu20 : u < 10 ^ 20 := by omega
    have HU := Lib.hid hu20
    have HU64 := Lib.hid hu
    clear hcv hu hu20 HS hn0
    go_loopw [3, 5] (fun x t wr => ∃ (m : Nat) (T : ByteArray), x = .int .u64 (m : Int) ∧ t = .string T ∧ Hid (m < 10 ^ (21 - T.size)) ∧ 1 ≤ T.size ∧ T.size ≤ 20 ∧ Hid (m < 18446744073709551616) ∧ Fr noneOf w wr) (fun x _ _ => (intOf x).toNat)
    case atStart => exact ⟨u, ⟨([cb] : List UInt8).toArray⟩, rfl, rfl, HU.out, by rw [size_one]; omega, by rw [size_one]; omega, HU64, HF0.out⟩
    case round =>
      obtain ⟨m, T, rfl, rfl, hm, hT1, hT2, hm64, hf⟩ := hrel
      have HF := Lib.hid hf
      have HT := Lib.hid (And.intro hT1 hT2)
      clear hf
      by_cases h10 : 10 ≤ m
      · obtain ⟨cd, hcd⟩ : ∃ cd, cd = UInt8.ofNat (48 + (m / 10) % 10) := ⟨_, rfl⟩
        have hcw : (48 : Int) + (m : Int) / 10 % 10 = (cd.toNat : Int) := by
          have := digit_of (m / 10)
          rw [hcd]
          omega
        clear hcd
        obtain ⟨D, hD⟩ : ∃ D : ByteArray, D = ⟨([cd] : List UInt8).toArray⟩ := ⟨_, rfl⟩
        have hDs : D.size = 1 := by rw [hD]; rfl
        have hadd : ¬ 9223372036854775807 < D.size + T.size := by omega
        have HD := Lib.hid hD
        have HDS := Lib.hid hDs
        have hmI : (10 : Int) ≤ (m : Int) := by omega
        have hmb : m < 18446744073709551616 := hm64.out
        clear hD hDs
        go_wp2_with (refine wpList_bstring rfl 64 9 5 (.tmp 26) rfl Tryd.underlying64 Tryd.underlying9 Tryd.underlying5 wr.heap.size 1 1 [cd] rfl rfl (row_one _ _ _ rfl) ?_; rw [← HD.out])
        go_roundw
        case rel =>
          have hpow := hm.out
          have hle : T.size ≤ 19 := by
            rcases Nat.lt_or_ge T.size 20 with h | h
            · omega
            · have e : T.size = 20 := by omega
              rw [e] at hpow
              omega
          refine ⟨m / 10, D ++ T, by go_num, rfl, ?_, by rw [ByteArray.size_append]; omega, by rw [ByteArray.size_append, HDS.out]; omega, Lib.hid (by have := hm64.out; omega), HF.out.alloc _⟩
          rw [ByteArray.size_append, HDS.out]
          show m / 10 < 10 ^ (21 - (1 + T.size))
          rw [show 21 - T.size = (21 - (1 + T.size)) + 1 by omega, Nat.pow_succ] at hpow
          omega
        case measure => simp [intOf]; omega
      · have hmI : ¬ (10 : Int) ≤ (m : Int) := by omega
        obtain ⟨E, hE⟩ : ∃ E : ByteArray, E = ⟨#[108, 121, 99, 101, 117, 109, 58, 32, 101, 114, 114, 111, 114, 32]⟩ := ⟨_, rfl⟩
        have hEs : E.size = 14 := by rw [hE]; rfl
        have HE := Lib.hid hEs
        have hsg1 := HSG.out
        have ha1 : ¬ 9223372036854775807 < E.size + sg.size := by omega
        have ha2 : ¬ 9223372036854775807 < (E ++ sg).size + T.size := by rw [ByteArray.size_append]; omega
        clear hEs hsg1
        go_upto_region 9 with fail
        rw [← hE]
        clear hE
        go_wp2
        go_ret
        exact ⟨E ++ sg ++ T, rfl, by rw [ByteArray.size_append]; omega, by rw [ByteArray.size_append, ByteArray.size_append, HE.out]; have := HSG.out; omega, HF.out⟩
end Go.Proofs.YtlggiinembadfaaDoor
