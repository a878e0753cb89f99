/-
  Layer 1's example: a word around a place around a number, told.
-/
import Derived.Test.YtlggiinembadfaaDoorErrText
import Derived.Test.YtlggiinembadfaaDoorShelf
import Derived.Deep.RegionHeld3
namespace Go.Proofs.YtlggiinembadfaaDoor
open Go.RowKit Go.Extern.Stop Go.Stop Go.Extern
set_option linter.unusedVariables false
set_option linter.unusedSimpArgs false

def t10 : List UInt8 := [108, 121, 99, 101, 117, 109, 58, 32, 101, 114, 114, 111, 114, 32, 49, 48]
theorem row48 (w : World) (g : Nat) (hg : g = w.heap.size) : Row (w.alloc (.cells #[.int .u8 48] 5)) g (bytesV [48]) := row_one w 48 g hg
theorem row49 (w : World) (g : Nat) (hg : g = w.heap.size) : Row (w.alloc (.cells #[.int .u8 49] 5)) g (bytesV [49]) := row_one w 49 g hg
set_option maxRecDepth 100000 in
theorem errno_ten (w : World) : Calls Tryd.prog 50 #[.int .i64 10] w fun e w' => e = .returned (.string ⟨t10.toArray⟩) ∧ Fr noneOf w w' := by
  go_enter Tryd.func50, Tryd.ntmps50
  go_wp2_with (refine wpList_bstring rfl 64 9 5 (.tmp 16) rfl Tryd.underlying64 Tryd.underlying9 Tryd.underlying5 w.heap.size 1 1 [48] rfl rfl (row48 _ _ rfl) ?_)
  refine wp_loop_rounds 2 ?_
  rw [rounds_succ]
  go_wp2_with (refine wpList_bstring rfl 64 9 5 (.tmp 26) rfl Tryd.underlying64 Tryd.underlying9 Tryd.underlying5 (w.heap.size + 1) 1 1 [49] rfl rfl (row49 _ _ (by simp)) ?_)
  rw [rounds_succ]
  go_wp2
  go_ret
  refine ⟨?_, ((Fr.refl _ _).alloc _).alloc _⟩
  have e1 : (⟨#[49]⟩ ++ ⟨#[48]⟩ : ByteArray) = ⟨#[49, 48]⟩ := str_add [49] [48]
  have e2 : (⟨#[108, 121, 99, 101, 117, 109, 58, 32, 101, 114, 114, 111, 114, 32]⟩ ++ ⟨#[]⟩ : ByteArray) = ⟨#[108, 121, 99, 101, 117, 109, 58, 32, 101, 114, 114, 111, 114, 32]⟩ := str_add [108, 121, 99, 101, 117, 109, 58, 32, 101, 114, 114, 111, 114, 32] []
  have e3 : (⟨#[108, 121, 99, 101, 117, 109, 58, 32, 101, 114, 114, 111, 114, 32]⟩ ++ ⟨#[49, 48]⟩ : ByteArray) = ⟨t10.toArray⟩ := str_add [108, 121, 99, 101, 117, 109, 58, 32, 101, 114, 114, 111, 114, 32] [49, 48]
  show Ending.returned (.string ((⟨#[108, 121, 99, 101, 117, 109, 58, 32, 101, 114, 114, 111, 114, 32]⟩ ++ ⟨#[]⟩) ++ (⟨#[49]⟩ ++ ⟨#[48]⟩))) = _
  rw [e1, e2, e3]
def tAt : List UInt8 := [97, 116, 32, 51, 58, 32] ++ t10
def tRow : List UInt8 := [114, 111, 119, 58, 32] ++ tAt
theorem nilAheadE (v : Value) (w : World) : (nilAhead 236 22 v "Error").run Tryd.prog w = .ok (some false) w := by kernel_rfl
theorem methodE (n : Int) (w : World) : (Go.method 236 22 (.int .i64 n) "Error").run Tryd.prog w = .ok (50, .int .i64 n) w := by kernel_rfl
theorem nilAheadA (a : Addr) (w : World) : (nilAhead 236 36 (.pointer (some a)) "Error").run Tryd.prog w = .ok (some false) w := by kernel_rfl
theorem methodA (a : Addr) (w : World) : (Go.method 236 36 (.pointer (some a)) "Error").run Tryd.prog w = .ok (51, .pointer (some a)) w := by kernel_rfl
theorem itoa3 (w : World) : Calls Tryd.prog 53 #[.int .i64 3] w fun e w' => e = .returned (.string ⟨#[51]⟩) ∧ w = w' := (Tryd.strconv_Itoa_small 3 (by omega) w).mono fun e w' ⟨h1, h2⟩ => ⟨h1.trans (by rw [show Lib.decDigits 3 = [51] by simp [Lib.decDigits]]), h2.symm⟩
set_option maxRecDepth 100000 in
set_option maxHeartbeats 2000000 in
theorem around_at (b : Nat) (w : World) (h : Blk w b 38 #[.iface 22 (.int .i64 10), .int .i64 3, .string ⟨#[]⟩, .bool false]) : Calls Tryd.prog 51 #[.pointer (some ⟨b, 0, none⟩)] w fun e w' => e = .returned (.string ⟨tAt.toArray⟩) ∧ Fr noneOf w w' := by
  have hnE := nilAheadE (.int .i64 10)
  have hmE := methodE 10
  have HB := Lib.hid h
  have c0 : w.cell? ⟨b, 0, none⟩ = some (.iface 22 (.int .i64 10)) := h.cell 0
  have c1 : w.cell? ⟨b, 1, none⟩ = some (.int .i64 3) := h.cell 1
  have c3 : w.cell? ⟨b, 3, none⟩ = some (.bool false) := h.cell 3
  obtain ⟨S, hS⟩ : ∃ S : ByteArray, S = ⟨t10.toArray⟩ := ⟨_, rfl⟩
  have hS16 : S.size = 16 := by rw [hS]; rfl
  have hsz : ¬ 9223372036854775807 < (⟨#[97, 116, 32]⟩ ++ ⟨#[51]⟩ ++ ⟨#[58, 32]⟩ : ByteArray).size + S.size := by rw [ByteArray.size_append, ByteArray.size_append, hS16]; decide
  have hsz' : ¬ 9223372036854775807 < 6 + S.size := by omega
  have HS := Lib.hid hS
  have H10 : Hid (∀ w, Calls Tryd.prog 50 #[.int .i64 10] w fun e w' => e = .returned (.string S) ∧ Fr noneOf w w') := Lib.hid (by rw [hS]; exact errno_ten)
  clear hS hS16
  clear h
  go_enter Tryd.func51, Tryd.ntmps51
  go_wp2
  have hk0 := Fr.refl noneOf w
  (go_region_held3 (fun w' => (w'.cell? ⟨b, 0, none⟩ = some (.iface 22 (.int .i64 10)) ∧ w'.cell? ⟨b, 1, none⟩ = some (.int .i64 3)) ∧ Fr noneOf w w')
    (first | exact ⟨⟨(HB.out.fr0 hk).cell 0, (HB.out.fr0 hk).cell 1⟩, hk⟩ | exact ⟨⟨c0, c1⟩, hk0.drew⟩)
    (first
      | (go_at_call 53; go_split_ands; (with_reducible refine (itoa3 _).mono ?_); rintro e wk ⟨rfl, rfl⟩; have hk := (by assumption : Fr noneOf w _))
      | (go_at_call 50; go_split_ands; (with_reducible refine (H10.out _).mono ?_); rintro e wk ⟨rfl, hf⟩; have hk := Fr.trans (S := noneOf) (a := w) (by assumption) hf)))
  all_goals
    go_wp2
    go_ret
    refine ⟨?_, hk⟩
    have e1 : (⟨#[97, 116, 32]⟩ ++ ⟨#[51]⟩ : ByteArray) = ⟨#[97, 116, 32, 51]⟩ := str_add [97, 116, 32] [51]
    have e2 : (⟨#[97, 116, 32, 51]⟩ ++ ⟨#[58, 32]⟩ : ByteArray) = ⟨#[97, 116, 32, 51, 58, 32]⟩ := str_add [97, 116, 32, 51] [58, 32]
    have e3 : (⟨#[97, 116, 32, 51, 58, 32]⟩ ++ ⟨t10.toArray⟩ : ByteArray) = ⟨tAt.toArray⟩ := str_add [97, 116, 32, 51, 58, 32] t10
    show Ending.returned (.string ((⟨#[97, 116, 32]⟩ ++ ⟨#[51]⟩) ++ ⟨#[58, 32]⟩ ++ S)) = _
    rw [HS.out, e1, e2, e3]
set_option maxRecDepth 100000 in
set_option maxHeartbeats 2000000 in
theorem around_in (b c : Nat) (w : World) (h : Blk w b 38 #[.iface 36 (.pointer (some ⟨c, 0, none⟩)), .int .i64 0, .string ⟨#[114, 111, 119]⟩, .bool true]) (g : Blk w c 38 #[.iface 22 (.int .i64 10), .int .i64 3, .string ⟨#[]⟩, .bool false]) : Calls Tryd.prog 51 #[.pointer (some ⟨b, 0, none⟩)] w fun e w' => e = .returned (.string ⟨tRow.toArray⟩) ∧ Fr noneOf w w' := by
  have hnA := nilAheadA ⟨c, 0, none⟩
  have hmA := methodA ⟨c, 0, none⟩
  have HB := Lib.hid h
  obtain ⟨S, hS⟩ : ∃ S : ByteArray, S = ⟨tAt.toArray⟩ := ⟨_, rfl⟩
  have hS22 : S.size = 22 := by rw [hS]; rfl
  have HG : Hid (∀ w', Fr noneOf w w' → Calls Tryd.prog 51 #[.pointer (some ⟨c, 0, none⟩)] w' fun e w'' => e = .returned (.string S) ∧ Fr noneOf w' w'') := Lib.hid (fun w' hf => by rw [hS]; exact around_at c w' (g.fr0 hf))
  have c0 : w.cell? ⟨b, 0, none⟩ = some (.iface 36 (.pointer (some ⟨c, 0, none⟩))) := h.cell 0
  have c2 : w.cell? ⟨b, 2, none⟩ = some (.string ⟨#[114, 111, 119]⟩) := h.cell 2
  have c3 : w.cell? ⟨b, 3, none⟩ = some (.bool true) := h.cell 3
  have hsz : ¬ 9223372036854775807 < (⟨#[114, 111, 119]⟩ ++ ⟨#[58, 32]⟩ : ByteArray).size + S.size := by rw [ByteArray.size_append, hS22]; decide
  have hsz' : ¬ 9223372036854775807 < 5 + S.size := by omega
  have HS := Lib.hid hS
  clear hS hS22
  clear h g
  go_enter Tryd.func51, Tryd.ntmps51
  go_wp2
  have hk0 := Fr.refl noneOf w
  (go_region_held3 (fun w' => (w'.cell? ⟨b, 0, none⟩ = some (.iface 36 (.pointer (some ⟨c, 0, none⟩))) ∧ w'.cell? ⟨b, 2, none⟩ = some (.string ⟨#[114, 111, 119]⟩)) ∧ Fr noneOf w w')
    (first | exact ⟨⟨(HB.out.fr0 hk).cell 0, (HB.out.fr0 hk).cell 2⟩, hk⟩ | exact ⟨⟨c0, c2⟩, hk0.drew⟩)
    (first
      | (go_at_call 51; go_split_ands; (with_reducible refine (HG.out _ (by assumption)).mono ?_); rintro e wk ⟨rfl, hf⟩; have hk := Fr.trans (S := noneOf) (a := w) (by assumption) hf)))
  all_goals
    go_wp2
    go_ret
    refine ⟨?_, hk⟩
    have e1 : (⟨#[114, 111, 119]⟩ ++ ⟨#[58, 32]⟩ : ByteArray) = ⟨#[114, 111, 119, 58, 32]⟩ := str_add [114, 111, 119] [58, 32]
    have e3 : (⟨#[114, 111, 119, 58, 32]⟩ ++ ⟨tAt.toArray⟩ : ByteArray) = ⟨tRow.toArray⟩ := str_add [114, 111, 119, 58, 32] tAt
    show Ending.returned (.string ((⟨#[114, 111, 119]⟩ ++ ⟨#[58, 32]⟩) ++ S)) = _
    rw [HS.out, e1, e3]
theorem ftext_row (b c : Nat) (w : World) (h : Blk w b 38 #[.iface 36 (.pointer (some ⟨c, 0, none⟩)), .int .i64 0, .string ⟨#[114, 111, 119]⟩, .bool true]) (g : Blk w c 38 #[.iface 22 (.int .i64 10), .int .i64 3, .string ⟨#[]⟩, .bool false]) : Calls Tryd.prog 11 #[.iface 36 (.pointer (some ⟨b, 0, none⟩))] w fun e w' => e = .returned (.string ⟨tRow.toArray⟩) ∧ Fr noneOf w w' := by
  have hnA := nilAheadA ⟨b, 0, none⟩
  have hmA := methodA ⟨b, 0, none⟩
  have HG := Lib.hid (around_in b c w h g)
  clear h g
  go_enter Tryd.func11, Tryd.ntmps11
  go_wp2_with (go_at_call 51; (with_reducible refine HG.out.mono ?_); rintro e w1 ⟨rfl, hf1⟩)
  go_ret
  exact ⟨rfl, hf1⟩
theorem ftext_num (n : Int) (w : World) (h0 : -9223372036854775808 ≤ n) (h1 : n ≤ 9223372036854775807) : Calls Tryd.prog 11 #[.iface 22 (.int .i64 n)] w (SomeText w) := by
  have hnE := nilAheadE (.int .i64 n)
  have hmE := methodE n
  have HE := Lib.hid (errno_text n w h0 h1)
  clear h0 h1
  go_enter Tryd.func11, Tryd.ntmps11
  go_wp2_with (go_at_call 50; (with_reducible refine HE.out.mono ?_); rintro e w1 ⟨T, rfl, ht, ht2, hf1⟩)
  go_ret
  exact ⟨T, rfl, ht, ht2, hf1⟩
theorem fat_num (p : Int) (n : Int) (w : World) : Calls Tryd.prog 6 #[.iface 22 (.int .i64 n), .int .i64 p] w fun e w' => e = .returned (.iface 36 (.pointer (some ⟨w.heap.size, 0, none⟩))) ∧ w' = w.alloc (.cells #[.iface 22 (.int .i64 n), .int .i64 p, .string ⟨#[]⟩, .bool false] 38) := by
  go_enter Tryd.func6, Tryd.ntmps6
  go_wp2
  go_ret
  exact ⟨rfl, rfl⟩
theorem fin_ptr (a : Addr) (s : ByteArray) (w : World) : Calls Tryd.prog 5 #[.iface 36 (.pointer (some a)), .string s] w fun e w' => e = .returned (.iface 36 (.pointer (some ⟨w.heap.size, 0, none⟩))) ∧ w' = w.alloc (.cells #[.iface 36 (.pointer (some a)), .int .i64 0, .string s, .bool true] 38) := by
  go_enter Tryd.func5, Tryd.ntmps5
  go_wp2
  go_ret
  exact ⟨rfl, rfl⟩
theorem awake_any (w : World) : Calls Tryd.prog 4 #[] w fun e w' => e = .returned (.bool true) ∧ Fr noneOf w w' := by
  have h1 := Blk.new w 38 #[.iface 22 (.int .i64 10), .int .i64 3, .string ⟨#[]⟩, .bool false]
  have h2 := h1.alloc (.cells #[.iface 36 (.pointer (some ⟨w.heap.size, 0, none⟩)), .int .i64 0, .string ⟨#[114, 111, 119]⟩, .bool true] 38)
  have h3 := Blk.new (w.alloc (.cells #[.iface 22 (.int .i64 10), .int .i64 3, .string ⟨#[]⟩, .bool false] 38)) 38 #[.iface 36 (.pointer (some ⟨w.heap.size, 0, none⟩)), .int .i64 0, .string ⟨#[114, 111, 119]⟩, .bool true]
  rw [World.size_alloc] at h3
  have HT := Lib.hid (ftext_row (w.heap.size + 1) w.heap.size _ h3 h2)
  clear h1 h2 h3
  go_enter Tryd.func4, Tryd.ntmps4
  go_wp2_with (first
    | (go_at_call 8; (with_reducible refine (fnew_yes 10 _ rfl).mono ?_); rintro e w' ⟨rfl, rfl⟩)
    | (go_at_call 6; (with_reducible refine (fat_num 3 10 _).mono ?_); rintro e w' ⟨rfl, rfl⟩)
    | (go_at_call 5; (with_reducible refine (fin_ptr _ _ _).mono ?_); rintro e w' ⟨rfl, rfl⟩)
    | (go_at_call 11; (refine HT.out.mono ?_); rintro e w1 ⟨rfl, hf1⟩))
  go_ret
  exact ⟨rfl, (((Fr.refl _ _).alloc _).alloc _).trans hf1⟩
end Go.Proofs.YtlggiinembadfaaDoor
