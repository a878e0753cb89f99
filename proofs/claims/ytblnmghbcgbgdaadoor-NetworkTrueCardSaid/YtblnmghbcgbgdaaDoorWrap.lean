/-
  Contracts of package check: tail, Wrap, Open.
  Conditions: a text is at most 2^47 bytes long.
-/
import Derived.Test.YtblnmghbcgbgdaaDoorAsW
import Derived.Test.YtblnmghbcgbgdaaDoorSum
import Derived.Deep.RegionHeld3
namespace Go.Proofs.YtblnmghbcgbgdaaDoor
open Go.RowKit Crc
set_option linter.unusedVariables false

/-- A sum's four bytes. -/
def tailL (x : BitVec 32) : List UInt8 := [UInt8.ofNat (x.toNat % 256), UInt8.ofNat (x.toNat / 256 % 256), UInt8.ofNat (x.toNat / 65536 % 256), UInt8.ofNat (x.toNat / 16777216 % 256)]
def tailB (x : BitVec 32) : ByteArray := ⟨(tailL x).toArray⟩
theorem tailB_size (x : BitVec 32) : (tailB x).size = 4 := rfl
theorem tailB_list (x : BitVec 32) : (tailB x).data.toList = tailL x := rfl
theorem u8_of (n : Nat) (h : n < 256) : ((UInt8.ofNat n).toNat : Int) = (n : Int) := by rw [UInt8.toNat_ofNat']; omega
theorem tailL_is (x : BitVec 32) : ∃ b0 b1 b2 b3 : UInt8, tailL x = [b0, b1, b2, b3] ∧ (x.toNat : Int) % 256 = (b0.toNat : Int) ∧ (x.toNat : Int) / 256 % 256 = (b1.toNat : Int) ∧ (x.toNat : Int) / 65536 % 256 = (b2.toNat : Int) ∧ (x.toNat : Int) / 16777216 = (b3.toNat : Int) := by
  have hx := x.isLt
  refine ⟨_, _, _, _, rfl, ?_, ?_, ?_, ?_⟩
  · rw [u8_of _ (by omega)]; omega
  · rw [u8_of _ (by omega)]; omega
  · rw [u8_of _ (by omega)]; omega
  · rw [u8_of _ (by omega)]; omega
set_option maxRecDepth 100000 in
theorem tail_any (x : BitVec 32) (w : World) : Calls Tryd.prog 55 #[.int .u32 (x.toNat : Int)] w fun e w' => e = .returned (.string (tailB x)) ∧ Fr noneOf w w' := by
  obtain ⟨b0, b1, b2, b3, hl, e0, e1, e2, e3⟩ := tailL_is x
  have hrow : Row (w.alloc (.cells #[.int .u8 (b0.toNat : Int), .int .u8 (b1.toNat : Int), .int .u8 (b2.toNat : Int), .int .u8 (b3.toNat : Int)] 5)) w.heap.size (bytesV [b0, b1, b2, b3]) := Row.of_blk (Blk.new w _ _)
  have HR := Lib.hid hrow
  have HL := Lib.hid hl
  have hlt : (x.toNat : Int) < 4294967296 := by have := x.isLt; omega
  have hge : (0 : Int) ≤ (x.toNat : Int) := by omega
  clear hrow hl
  go_enter Tryd.func55, Tryd.ntmps55
  go_wp2_with (refine wpList_bstring rfl 63 9 5 (.tmp 14) rfl Tryd.underlying63 Tryd.underlying9 Tryd.underlying5 w.heap.size 4 4 [b0, b1, b2, b3] rfl rfl HR.out ?_)
  go_ret
  exact ⟨by unfold tailB; rw [HL.out]; rfl, (Fr.refl _ _).alloc _⟩

/-- A text's sum, as a number. -/
theorem sumint_any (s : ByteArray) (w : World) (hs : s.size ≤ 9223372036854775807) : Calls Tryd.prog 56 #[.string s] w fun e w' => e = .returned (.int .u32 ((crc s.data.toList).toNat : Int)) ∧ Fr noneOf w w' := sumtext_any s w hs
theorem wrap_over (s : ByteArray) (w : World) (h : 4096 < s.size) (hs : s.size ≤ 9223372036854775807) : Calls Tryd.prog 32 #[.string s] w fun e w' => e = .returned (.tuple #[.string ⟨#[]⟩, .iface 32 (.int .i64 16)]) ∧ Fr noneOf w w' := by
  go_enter Tryd.func32, Tryd.ntmps32
  go_wp2_with (go_at_call 26; refine (fnew_yes 16 _ rfl).mono ?_; rintro e w' ⟨rfl, rfl⟩)
  exact bodyPost_ret (v := .tuple #[.string ⟨#[]⟩, .iface 32 (.int .i64 16)]) (by simp [results, Tryd.results32, go_sem]) rfl ⟨rfl, Fr.refl _ _⟩
theorem wrap_any (s : ByteArray) (w : World) (h : s.size ≤ 4096) : Calls Tryd.prog 32 #[.string s] w fun e w' => e = .returned (.tuple #[.string (s ++ tailB (crc s.data.toList)), .nilIface]) ∧ Fr noneOf w w' := by
  have hsz : ¬ 9223372036854775807 < s.size + (tailB (crc s.data.toList)).size := by rw [tailB_size]; omega
  go_enter Tryd.func32, Tryd.ntmps32
  go_wp2_with (first
    | (go_at_call 56; refine (sumint_any s _ (by omega)).mono ?_; rintro e w1 ⟨rfl, hf1⟩)
    | (go_at_call 55; refine (tail_any _ _).mono ?_; rintro e w2 ⟨rfl, hf2⟩))
  exact bodyPost_ret (v := .tuple #[.string (s ++ tailB (crc s.data.toList)), .nilIface]) (by simp [results, Tryd.results32, go_sem]) rfl ⟨rfl, hf1.trans hf2⟩
theorem open_short (s : ByteArray) (w : World) (h : s.size < 4) : Calls Tryd.prog 25 #[.string s] w fun e w' => e = .returned (.tuple #[.string ⟨#[]⟩, .iface 32 (.int .i64 11)]) ∧ Fr noneOf w w' := by
  go_enter Tryd.func25, Tryd.ntmps25
  go_wp2_with (go_at_call 26; refine (fnew_yes 11 _ rfl).mono ?_; rintro e w' ⟨rfl, rfl⟩)
  exact bodyPost_ret (v := .tuple #[.string ⟨#[]⟩, .iface 32 (.int .i64 11)]) (by simp [results, Tryd.results25, go_sem]) rfl ⟨rfl, Fr.refl _ _⟩
theorem open_over (s : ByteArray) (w : World) (h : 4100 < s.size) (hs : s.size ≤ 9223372036854775807) : Calls Tryd.prog 25 #[.string s] w fun e w' => e = .returned (.tuple #[.string ⟨#[]⟩, .iface 32 (.int .i64 16)]) ∧ Fr noneOf w w' := by
  go_enter Tryd.func25, Tryd.ntmps25
  go_wp2_with (go_at_call 26; refine (fnew_yes 16 _ rfl).mono ?_; rintro e w' ⟨rfl, rfl⟩)
  exact bodyPost_ret (v := .tuple #[.string ⟨#[]⟩, .iface 32 (.int .i64 16)]) (by simp [results, Tryd.results25, go_sem]) rfl ⟨rfl, Fr.refl _ _⟩
theorem open_good (s : ByteArray) (n : Nat) (w : World) (hsn : s.size = n + 4) (h1 : n ≤ 4096) (hg : ((tailB (crc (List.take n s.data.toList))).toList == (s.extract n s.size).toList) = true) : Calls Tryd.prog 25 #[.string s] w fun e w' => e = .returned (.tuple #[.string (s.extract 0 n), .nilIface]) ∧ Fr noneOf w w' := by
  have hb : (s.extract 0 n).size ≤ 9223372036854775807 := by simp; omega
  have HS := Lib.hid (fun w => sumint_any (s.extract 0 n) w hb)
  have hn : (s.size : Int) - 4 = (n : Int) := by omega
  have hle : n ≤ s.size := by omega
  have hn0 : (0 : Int) ≤ (n : Int) := by omega
  have hn1 : (n : Int) ≤ 4096 := by omega
  have hn2 : (n : Int) ≤ (s.size : Int) := by omega
  have HN := Lib.hid hsn
  clear hb hsn
  go_enter Tryd.func25, Tryd.ntmps25
  go_wp2
  (go_region_held3 (fun w' => Fr noneOf w w') (first | exact hk | exact Fr.refl _ _ | exact (Fr.refl _ _).drew | go_keep)
    (first
      | (go_at_call 56; (with_reducible refine (HS.out _).mono ?_); rintro e w1 ⟨rfl, hf1⟩; have hk := Fr.trans (S := noneOf) (a := w) (by assumption) hf1)
      | (go_at_call 55; (with_reducible refine (tail_any _ _).mono ?_); rintro e w2 ⟨rfl, hf2⟩; have hk := Fr.trans (S := noneOf) (a := w) (by assumption) hf2)))
  go_wp2
  exact bodyPost_ret (v := .tuple #[.string (s.extract 0 n), .nilIface]) (by simp [results, Tryd.results25, go_sem]) rfl ⟨rfl, hk⟩
theorem open_bad (s : ByteArray) (n : Nat) (w : World) (hsn : s.size = n + 4) (h1 : n ≤ 4096) (hg : ((tailB (crc (List.take n s.data.toList))).toList == (s.extract n s.size).toList) = false) : Calls Tryd.prog 25 #[.string s] w fun e w' => e = .returned (.tuple #[.string ⟨#[]⟩, .iface 32 (.int .i64 17)]) ∧ Fr noneOf w w' := by
  have hb : (s.extract 0 n).size ≤ 9223372036854775807 := by simp; omega
  have HS := Lib.hid (fun w => sumint_any (s.extract 0 n) w hb)
  have hn : (s.size : Int) - 4 = (n : Int) := by omega
  have hle : n ≤ s.size := by omega
  have hn0 : (0 : Int) ≤ (n : Int) := by omega
  have hn1 : (n : Int) ≤ 4096 := by omega
  have hn2 : (n : Int) ≤ (s.size : Int) := by omega
  have HN := Lib.hid hsn
  clear hb hsn
  go_enter Tryd.func25, Tryd.ntmps25
  go_wp2
  (go_region_held3 (fun w' => Fr noneOf w w') (first | exact hk | exact Fr.refl _ _ | exact (Fr.refl _ _).drew | go_keep)
    (first
      | (go_at_call 56; (with_reducible refine (HS.out _).mono ?_); rintro e w1 ⟨rfl, hf1⟩; have hk := Fr.trans (S := noneOf) (a := w) (by assumption) hf1)
      | (go_at_call 55; (with_reducible refine (tail_any _ _).mono ?_); rintro e w2 ⟨rfl, hf2⟩; have hk := Fr.trans (S := noneOf) (a := w) (by assumption) hf2)))
  go_wp2_with (go_at_call 26; refine (fnew_yes 17 _ rfl).mono ?_; rintro e w' ⟨rfl, rfl⟩)
  exact bodyPost_ret (v := .tuple #[.string ⟨#[]⟩, .iface 32 (.int .i64 17)]) (by simp [results, Tryd.results25, go_sem]) rfl ⟨rfl, hk⟩
end Go.Proofs.YtblnmghbcgbgdaaDoor
