/-
  Contracts of package nums's PutText, and of the reference's one, Put and PutText.
  Conditions: a row of at most 1000 numbers; a text of at most 100000 bytes.
-/
import Derived.Test.YtblnmghbcgbgdaaDoorNums
namespace Go.Proofs.YtblnmghbcgbgdaaDoor
open Go.RowKit Nums
set_option linter.unusedVariables false

theorem str_add (x y : List UInt8) : (⟨x.toArray⟩ ++ ⟨y.toArray⟩ : ByteArray) = ⟨(x ++ y).toArray⟩ := ByteArray.mk_append_mk x y
theorem str_size (l : List UInt8) : (⟨l.toArray⟩ : ByteArray).size = l.length := by show l.toArray.size = _; simp
theorem str_is (s : ByteArray) : s = ⟨s.data.toList.toArray⟩ := by simp

theorem putText_any (l : List UInt8) (w : World) (hl : l.length ≤ 100000) :
    Calls Tryd.prog 31 #[.string ⟨l.toArray⟩] w fun e w' => e = .returned (.string ⟨(putText l).toArray⟩) ∧ Fr noneOf w w' := by
  have hsz := str_size l
  have hlb := put_len [(l.length : Int)] (fun n hn => by simp at hn; omega)
  rw [List.length_singleton] at hlb
  have hadd := str_add (put [(l.length : Int)]) l
  have HADD := Lib.hid hadd
  have hps := str_size (put [(l.length : Int)])
  have hps2 : (⟨(put [(l.length : Int)]).toArray⟩ : ByteArray).size ≤ 10 := by rw [hps]; omega
  have hl2 : (⟨l.toArray⟩ : ByteArray).size ≤ 100000 := by rw [hsz]; omega
  clear hadd hps
  go_enter Tryd.func31, Tryd.ntmps31
  go_wp2_with fail
  refine (put_any (some ⟨w.heap.size, 0, none⟩) 1 [(l.length : Int)] _ ⟨fun n hn => by simp at hn; omega, fun _ => ⟨_, _, rfl, by simp, fun j n hj => ?_⟩⟩ (by simp)).mono ?_
  · match j, hj with
    | 0, hj => simp at hj; subst hj; simp
  rintro e w1 ⟨rfl, hf⟩
  clear hsz
  go_wp2
  go_ret
  refine ⟨?_, ((Fr.refl noneOf w).alloc _).trans hf⟩
  show Ending.returned (.string _) = _
  rw [putText, ← put_one, ← HADD.out]
theorem one_pos (n : Int) (h0 : 0 ≤ n) : (2 * n : Int) = (fold n : Int) := by unfold fold; rw [if_pos h0]; omega
theorem one_neg (n : Int) (h0 : n < 0) : (2 * (-(n + 1)) + 1 : Int) = (fold n : Int) := by unfold fold; rw [if_neg (by omega)]; omega
set_option maxRecDepth 100000 in
theorem one_any (n : Int) (w : World) (h0 : -9223372036854775808 ≤ n) (h1 : n ≤ 9223372036854775807) :
    Calls Tryd.prog 92 #[.int .i64 n] w fun e w' => e = .returned (.string ⟨(enc (fold n)).toArray⟩) ∧ Fr noneOf w w' := by
  by_cases hn : 0 ≤ n
  all_goals
    go_enter Tryd.func92, Tryd.ntmps92
    go_wp2
    go_loopw [3, 4] (fun x t wr => ∃ (u : Nat) (pre : List UInt8), u < 18446744073709551616 ∧ x = .int .u64 (u : Int) ∧ t = .string ⟨pre.toArray⟩ ∧ Hid (pre ++ enc u = enc (fold n)) ∧ Fr noneOf w wr) (fun x _ _ => (intOf x).toNat)
    case atStart => exact ⟨fold n, [], fold_lt h0 h1, by first | rw [← one_pos n hn] | rw [← one_neg n (by omega)], rfl, rfl, Fr.refl _ _⟩
    case round =>
      obtain ⟨u, pre, hu, rfl, rfl, hpre, hf⟩ := hrel
      have hpl : pre.length ≤ 10 := by
        have := congrArg List.length hpre.out
        have := enc_len10 (fold n) (fold_lt h0 h1)
        rw [List.length_append] at *
        omega
      have HF := Lib.hid hf
      clear hf
      by_cases hlt : u < 128
      · obtain ⟨cb, hcb⟩ : ∃ cb, cb = UInt8.ofNat u := ⟨_, rfl⟩
        have hadd := Lib.hid (str_add pre [cb])
        have hcv : (u : Int) = (cb.toNat : Int) := by have := byte_last u hlt; rw [hcb]; exact this
        have hfin := Lib.hid (show pre ++ [cb] = enc (fold n) by rw [← hpre.out, enc_lt hlt, hcb])
        have hrow := Row.of_blk (Blk.new wr 5 #[.int .u8 (u : Int)])
        have hrow2 : Row (wr.alloc (.cells #[.int .u8 (u : Int)] 5)) wr.heap.size (bytesV [cb]) := by
          rw [hcv] at hrow ⊢
          exact hrow
        clear hcb hcv hrow
        go_wp2_with (refine wpList_bstring rfl 63 9 5 _ rfl Tryd.underlying63 Tryd.underlying9 Tryd.underlying5 wr.heap.size 1 1 [cb] rfl rfl hrow2 ?_)
        go_ret
        refine ⟨?_, HF.out.alloc _⟩
        rw [← hfin.out, ← hadd.out]
        rfl
      · obtain ⟨cb, hcb⟩ : ∃ cb, cb = UInt8.ofNat (u % 128 + 128) := ⟨_, rfl⟩
        have hadd := Lib.hid (str_add pre [cb])
        have hcv : (u : Int) % 128 + 128 = (cb.toNat : Int) := by rw [hcb, UInt8.toNat_ofNat']; omega
        have hnext := Lib.hid (show (pre ++ [cb]) ++ enc (u / 128) = enc (fold n) by rw [← hpre.out, enc_ge (u := u) (by omega), hcb]; simp)
        have hrow2 : Row (wr.alloc (.cells #[.int .u8 (cb.toNat : Int)] 5)) wr.heap.size (bytesV [cb]) := Row.of_blk (Blk.new wr 5 #[.int .u8 (cb.toNat : Int)])
        clear hcb
        go_wp2_with (refine wpList_bstring rfl 63 9 5 _ rfl Tryd.underlying63 Tryd.underlying9 Tryd.underlying5 wr.heap.size 1 1 [cb] rfl rfl hrow2 ?_)
        go_roundw
        case rel => exact ⟨u / 128, pre ++ [cb], by omega, by go_num, by rw [← hadd.out], hnext, HF.out.alloc _⟩
        case measure => simp [intOf]; omega

set_option maxRecDepth 100000 in
theorem refPut_any (A : Option Addr) (c : Nat) (l : List Int) (w : World) (h : NumsAt w A l) (hl : l.length ≤ 1000) :
    Calls Tryd.prog 76 #[.slice A l.length c] w fun e w' => e = .returned (.string ⟨(put l).toArray⟩) ∧ Fr noneOf w w' := by
  go_enter Tryd.func76, Tryd.ntmps76
  go_wp2
  go_loopw [3, 4] (fun t i wr => ∃ k : Nat, k ≤ l.length ∧ i = .int .i64 k ∧ t = .string ⟨(put (l.take k)).toArray⟩ ∧ Fr noneOf w wr) (fun _ i _ => l.length - (intOf i).toNat)
  case atStart => exact ⟨0, by omega, rfl, rfl, Fr.refl _ _⟩
  case round =>
    obtain ⟨k, hk, rfl, rfl, hf⟩ := hrel
    by_cases hlt : k < l.length
    · obtain ⟨n, hn⟩ : ∃ n, l[k]? = some n := ⟨l[k], List.getElem?_eq_getElem _⟩
      have h' := h.fr hf
      obtain ⟨g, o, rfl, hg, hc⟩ := h'.2 (by intro e; rw [e] at hlt; simp at hlt)
      have hnb := h.1 n (List.mem_of_getElem? hn)
      have hc1 : wr.cell? ⟨g, o + k, none⟩ = some (.int .i64 n) := hc k n hn
      have hp1 : (put (l.take k)).length ≤ 10000 := by
        have h1 := put_len (l.take k) (fun m hm => h.1 m (List.mem_of_mem_take hm))
        have h2 : (l.take k).length ≤ l.length := List.length_take_le' _ _
        omega
      have hp2 := enc_len10 (fold n) (fold_lt hnb.1 hnb.2)
      have hadd := Lib.hid (str_add (put (l.take k)) (enc (fold n)))
      have hnx := Lib.hid (show put (l.take (k + 1)) = put (l.take k) ++ enc (fold n) by rw [take_next l k n hn, put_snoc])
      have HF := Lib.hid hf
      clear hf hn hc hg h h'
      go_wp2_with (go_at_call 92; refine (one_any n _ hnb.1 hnb.2).mono ?_; rintro e w1 ⟨rfl, hf1⟩)
      go_roundw
      case rel => exact ⟨k + 1, by omega, by go_num, by rw [hnx.out, ← hadd.out], HF.out.trans hf1⟩
      case measure => simp [intOf]; omega
    · have hkk : k = l.length := by omega
      subst hkk
      have HF := Lib.hid hf
      clear hf
      go_wp2
      go_ret
      exact ⟨by simp, HF.out⟩

theorem put_is (A : Option Addr) (c n : Nat) (l : List Int) (w : World) (hn : n = l.length) (h : NumsAt w A l) (hl : l.length ≤ 1000) :
    Calls Tryd.prog 29 #[.slice A n c] w fun e w' => e = .returned (.string ⟨(put l).toArray⟩) ∧ Fr noneOf w w' := by
  subst hn
  exact put_any A c l w h hl
theorem refPut_is (A : Option Addr) (c n : Nat) (l : List Int) (w : World) (hn : n = l.length) (h : NumsAt w A l) (hl : l.length ≤ 1000) :
    Calls Tryd.prog 76 #[.slice A n c] w fun e w' => e = .returned (.string ⟨(put l).toArray⟩) ∧ Fr noneOf w w' := by
  subst hn
  exact refPut_any A c l w h hl

theorem refPutText_any (l : List UInt8) (w : World) (hl : l.length ≤ 100000) :
    Calls Tryd.prog 77 #[.string ⟨l.toArray⟩] w fun e w' => e = .returned (.string ⟨(putText l).toArray⟩) ∧ Fr noneOf w w' := by
  have hadd := Lib.hid (str_add (enc (fold l.length)) l)
  have hlb := enc_len10 (fold (l.length : Int)) (fold_lt (by omega) (by omega))
  go_enter Tryd.func77, Tryd.ntmps77
  go_wp2_with (go_at_call 92; refine (one_any (l.length : Int) _ (by omega) (by omega)).mono ?_; rintro e w1 ⟨rfl, hf⟩)
  go_ret
  refine ⟨?_, hf⟩
  show Ending.returned (.string _) = _
  rw [putText, ← hadd.out]
end Go.Proofs.YtblnmghbcgbgdaaDoor
