/-
  Contracts of package nums's fold, Put and PutText, and of the reference's one, Put and PutText.
  Conditions: a row of at most 1000 numbers; a text of at most 2^46 bytes.
-/
import Derived.Test.YtblnmghbcgbgdaaDoorBuilder
import Derived.Test.YtblnmghbcgbgdaaDoorNumsP
namespace Go.Proofs.YtblnmghbcgbgdaaDoor
open Go.RowKit Nums
set_option linter.unusedVariables false

theorem fold_pos (n : Int) (h0 : 0 ≤ n) (h1 : n ≤ 9223372036854775807) : bits .xor .u64 (IntKind.u64.wrap (wrap64 (n * 2))) (n / 9223372036854775808) = (fold n : Int) := by
  have e1 : IntKind.u64.wrap (wrap64 (n * 2)) = ((2 * n).toNat : Int) := by rw [IntKind.wrap_u64]; unfold wrap64; omega
  have e2 : n / 9223372036854775808 = ((0 : Nat) : Int) := by omega
  rw [e1, e2, bits_xor_u64_nat _ _ (by omega) (by omega), Nat.xor_zero]
  unfold fold
  rw [if_pos h0]
theorem xor_ones (a : Nat) (h : a < 18446744073709551616) : a ^^^ 18446744073709551615 = 18446744073709551615 - a := by
  have hx : (BitVec.ofNat 64 a ^^^ BitVec.allOnes 64) = ~~~ (BitVec.ofNat 64 a) := BitVec.xor_allOnes
  have := congrArg BitVec.toNat hx
  rw [BitVec.toNat_xor, BitVec.toNat_not, BitVec.toNat_ofNat, BitVec.toNat_allOnes, Nat.mod_eq_of_lt h] at this
  exact this
theorem fold_negs (n : Int) (h0 : n < 0) (h1 : -9223372036854775808 ≤ n) : bits .xor .u64 (IntKind.u64.wrap (wrap64 (n * 2))) (IntKind.u64.wrap (n / 9223372036854775808)) = (fold n : Int) := by
  have e1 : IntKind.u64.wrap (wrap64 (n * 2)) = ((2 * n + 18446744073709551616).toNat : Int) := by rw [IntKind.wrap_u64]; unfold wrap64; omega
  have e2 : IntKind.u64.wrap (n / 9223372036854775808) = ((18446744073709551615 : Nat) : Int) := by rw [IntKind.wrap_u64]; omega
  rw [e1, e2, bits_xor_u64_nat _ _ (by omega) (by omega), xor_ones _ (by omega)]
  unfold fold
  rw [if_neg (by omega)]
  omega
theorem fold_any (n : Int) (w : World) (h0 : -9223372036854775808 ≤ n) (h1 : n ≤ 9223372036854775807) :
    Calls Tryd.prog 58 #[.int .i64 n] w fun e w' => e = .returned (.int .u64 (fold n : Int)) ∧ w = w' := by
  by_cases hn : 0 ≤ n
  · have e := Lib.hid (fold_pos n hn h1)
    go_enter Tryd.func58, Tryd.ntmps58
    go_wp2
    go_ret
    rw [← e.out]
    exact ⟨rfl, rfl⟩
  · have hn' : n < 0 := by omega
    have e := Lib.hid (fold_negs n hn' h0)
    clear hn
    go_enter Tryd.func58, Tryd.ntmps58
    go_wp2
    go_ret
    rw [← e.out]
    exact ⟨rfl, rfl⟩

theorem byte_low (u : Nat) (h : 128 ≤ u) : bits .or .u8 ((u : Int) % 256) 128 = ((UInt8.ofNat (u % 128 + 128)).toNat : Int) := by
  rw [show (u : Int) % 256 = ((u % 256 : Nat) : Int) from by omega, show (128 : Int) = ((128 : Nat) : Int) from rfl, u8_or_nat _ _ (by omega) (by omega), UInt8.toNat_ofNat']
  have key : ∀ i : Fin 256, i.val ||| 128 = (i.val % 128 + 128) % 2 ^ 8 := by decide +kernel
  have := key ⟨u % 256, by omega⟩
  simp only at this
  rw [this, show u % 256 % 128 = u % 128 from by omega]
theorem byte_last (u : Nat) (h : u < 128) : (u : Int) = ((UInt8.ofNat u).toNat : Int) := by
  rw [UInt8.toNat_ofNat']; omega

/-- A row of numbers that the call may read: from block g, place o on. -/
def NumsAt (w : World) (A : Option Addr) (l : List Int) : Prop :=
  (∀ n ∈ l, -9223372036854775808 ≤ n ∧ n ≤ 9223372036854775807) ∧ (l ≠ [] → ∃ g o, A = some ⟨g, o, none⟩ ∧ g < w.heap.size ∧ ∀ j n, l[j]? = some n → w.cell? ⟨g, o + j, none⟩ = some (.int .i64 n))
theorem NumsAt.fr {w w' : World} {A : Option Addr} {l : List Int} (h : NumsAt w A l) (hf : Fr noneOf w w') : NumsAt w' A l :=
  ⟨h.1, fun hl => by
    obtain ⟨g, o, e, hg, hc⟩ := h.2 hl
    exact ⟨g, o, e, Nat.lt_of_lt_of_le hg hf.size, fun j n hj => (hf.cell (p := ⟨g, o + j, none⟩) hg (fun x => x)).trans (hc j n hj)⟩⟩
theorem NumsAt.nil {w : World} {A : Option Addr} : NumsAt w A [] := ⟨fun _ h => by simp at h, fun h => absurd rfl h⟩

theorem put_room (l : List Int) (k : Nat) (n : Int) (pre : List UInt8) (u : Nat) (hpre : Hid (pre ++ enc u = enc (fold n))) (hb : ∀ n ∈ l, -9223372036854775808 ≤ n ∧ n ≤ 9223372036854775807) (hl : l.length ≤ 1000)
    (hn : -9223372036854775808 ≤ n ∧ n ≤ 9223372036854775807) : (put (l.take k) ++ pre).length + 1 ≤ 140737488355328 := by
  have h1 := put_len (l.take k) (fun m hm => hb m (List.mem_of_mem_take hm))
  have h2 : (l.take k).length ≤ l.length := List.length_take_le' _ _
  have h3 := enc_len10 (fold n) (fold_lt hn.1 hn.2)
  have h4 := congrArg List.length hpre.out
  rw [List.length_append] at h4
  rw [List.length_append]
  omega
theorem take_next (l : List Int) (k : Nat) (n : Int) (h : l[k]? = some n) : l.take (k + 1) = l.take k ++ [n] := by
  rw [List.take_add_one, h]; rfl
set_option maxRecDepth 100000 in
theorem put_any (A : Option Addr) (c : Nat) (l : List Int) (w : World) (h : NumsAt w A l) (hl : l.length ≤ 1000) :
    Calls Tryd.prog 29 #[.slice A l.length c] w fun e w' => e = .returned (.string ⟨(put l).toArray⟩) ∧ Fr noneOf w w' := by
  go_enter Tryd.func29, Tryd.ntmps29
  go_wp2
  go_loopw [9] (fun i wr => ∃ k : Nat, k ≤ l.length ∧ i = .int .i64 k ∧ Bld w.heap.size w.heap.size (put (l.take k)) wr ∧ Below w.heap.size w wr) (fun i _ => l.length - (intOf i).toNat)
  case atStart => exact ⟨0, by omega, rfl, bld_new w, (Below.refl _ _).alloc (Nat.le_refl _) _⟩
  case round =>
    obtain ⟨k, hk, rfl, hb, hbel⟩ := hrel
    by_cases hlt : k < l.length
    · obtain ⟨n, hn⟩ : ∃ n, l[k]? = some n := ⟨l[k], List.getElem?_eq_getElem _⟩
      obtain ⟨g, o, rfl, hg, hc⟩ := h.2 (by intro e; rw [e] at hlt; simp at hlt)
      have hnb := h.1 n (List.mem_of_getElem? hn)
      have hc1 : wr.cell? ⟨g, o + k, none⟩ = some (.int .i64 n) := (hbel.cell (p := ⟨g, o + k, none⟩) hg).trans (hc k n hn)
      have HB := Lib.hid hb
      have HBel := Lib.hid hbel
      have HN := Lib.hid hn
      clear hb hbel hn hc hg
      go_wp2_with (go_at_call 58; refine (fold_any n _ hnb.1 hnb.2).mono ?_; rintro e w1 ⟨rfl, rfl⟩)
      go_loopw [6] (fun x wj => ∃ (u : Nat) (pre : List UInt8), u < 18446744073709551616 ∧ x = .int .u64 (u : Int) ∧ Hid (pre ++ enc u = enc (fold n)) ∧ Bld w.heap.size w.heap.size (put (l.take k) ++ pre) wj ∧ Below w.heap.size w wj) (fun x _ => (intOf x).toNat)
      case atStart => exact ⟨fold n, [], fold_lt hnb.1 hnb.2, rfl, rfl, by simpa using HB.out, HBel.out⟩
      case round =>
        obtain ⟨u, pre, hu, rfl, hpre, hb2, hbel2⟩ := hrel
        have hlen : (put (l.take k) ++ pre).length + 1 ≤ 140737488355328 := put_room l k n pre u hpre h.1 hl hnb
        have hsz := hbel2.size
        by_cases hlt2 : u < 128
        · obtain ⟨cb, hcb⟩ : ∃ cb, cb = UInt8.ofNat u := ⟨_, rfl⟩
          have hby : (u : Int) % 256 = (cb.toNat : Int) := by rw [hcb, ← byte_last u hlt2]; omega
          have HCB := Lib.hid hcb
          have hcv : (u : Int) = (cb.toNat : Int) := by have := byte_last u hlt2; rw [hcb]; exact this
          have HCV := Lib.hid hcv
          have hug : ¬ 128 ≤ u := by omega
          have HB2 := Lib.hid hb2
          have HBel2 := Lib.hid hbel2
          have HLEN := Lib.hid hlen
          have HU := Lib.hid hlt2
          clear hcb hby hc1 hcv hb2 hbel2 hlen hlt2
          go_wp2_with (go_at_call 59; refine (writeByte_is w.heap.size w.heap.size _ _ cb _ HCV.out HB2.out HLEN.out hsz).mono ?_; rintro e w2 ⟨rfl, hb3, hbel3⟩)
          go_roundw
          case rel => exact ⟨k + 1, by omega, by go_num, by rw [take_next l k n HN.out, put_snoc, ← hpre.out, enc_lt HU.out, ← HCB.out, ← List.append_assoc]; exact hb3, HBel2.out.trans hbel3⟩
          case measure => simp [intOf]; omega
        · obtain ⟨cb, hcb⟩ : ∃ cb, cb = UInt8.ofNat (u % 128 + 128) := ⟨_, rfl⟩
          have hby : bits .or .u8 ((u : Int) % 256) 128 = (cb.toNat : Int) := by rw [hcb]; exact byte_low u (by omega)
          have HCB := Lib.hid hcb
          have hu0 : 128 ≤ u := by omega
          have HB2 := Lib.hid hb2
          have HBel2 := Lib.hid hbel2
          have HLEN := Lib.hid hlen
          clear hcb hlt2 hb2 hbel2 hlen
          go_wp2_with (go_at_call 59; refine (writeByte_any w.heap.size w.heap.size _ cb _ HB2.out HLEN.out hsz).mono ?_; rintro e w2 ⟨rfl, hb3, hbel3⟩)
          go_roundw
          case rel => exact ⟨u / 128, pre ++ [cb], by omega, by go_num, by show (pre ++ [cb]) ++ enc (u / 128) = enc (fold n); rw [← hpre.out, enc_ge hu0, HCB.out]; simp, by rw [← List.append_assoc]; exact hb3, HBel2.out.trans hbel3⟩
          case measure => simp [intOf]; omega
    · have hkk : k = l.length := by omega
      subst hkk
      have hb' : Bld w.heap.size w.heap.size (put l) wr := by simpa using hb
      have hsz := hbel.size
      have HBel := Lib.hid hbel
      clear hb hbel
      go_wp2_with (go_at_call 33; refine (string_any w.heap.size w.heap.size _ _ hb' hsz).mono ?_; rintro e w2 ⟨rfl, hb3, hbel3⟩)
      go_ret
      exact ⟨rfl, Fr.of_below noneOf (HBel.out.trans hbel3)⟩
end Go.Proofs.YtblnmghbcgbgdaaDoor
