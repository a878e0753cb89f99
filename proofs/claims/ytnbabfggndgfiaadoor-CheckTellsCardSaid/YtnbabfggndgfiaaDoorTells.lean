/-
  CheckTells: the walk.
-/
import Derived.Test.YtnbabfggndgfiaaDoorRef02
import Derived.Test.YtnbabfggndgfiaaDoorFinds
import Derived.Deep.OwnRows
namespace Go.Proofs.YtnbabfggndgfiaaDoor
open Go.RowKit Crc
set_option linter.unusedVariables false

/-- A code, as a fault. -/
def errV (n : Int) : Value := if n = 0 then .nilIface else .iface 34 (.int .i64 n)
theorem code_errV (n : Int) (w : World) (hg : errT w) : Calls Tryd.prog 12 #[errV n] w fun e w' => e = .returned (.int .i64 n) ∧ Fr noneOf w w' := by
  unfold errV
  split
  · rename_i h
    subst h
    exact code_nil w
  · exact code_num n w hg
theorem wrap_all (s : ByteArray) (hs : s.size ≤ 100000) : ∃ (S : ByteArray) (n : Int), S.size ≤ 100000 ∧ (∀ w, Calls Tryd.prog 11 #[.string s] w fun e w' => e = .returned (.tuple #[.string S, errV n]) ∧ Fr noneOf w w') ∧
    (∀ w, Calls Tryd.prog 15 #[.string s] w fun e w' => e = .returned (.agg #[.string S, .int .i64 n]) ∧ Fr noneOf w w') := by
  by_cases h : s.size ≤ 4096
  · exact ⟨wrapB s, 0, by rw [wrapB_size]; omega, fun w => wrap_is s w h, fun w => refwrap_any s w h⟩
  · exact ⟨⟨#[]⟩, 16, by decide, fun w => wrap_over s w (by omega) (by omega), fun w => refwrap_over s w (by omega)⟩
theorem open_all (s : ByteArray) (hs : s.size ≤ 100000) : ∃ (S : ByteArray) (n : Int), (∀ w, Calls Tryd.prog 13 #[.string s] w fun e w' => e = .returned (.tuple #[.string S, errV n]) ∧ Fr noneOf w w') ∧
    (∀ w, Calls Tryd.prog 16 #[.string s] w fun e w' => e = .returned (.agg #[.string S, .int .i64 n]) ∧ Fr noneOf w w') := by
  by_cases h4 : s.size < 4
  · exact ⟨⟨#[]⟩, 11, fun w => open_short s w h4, fun w => refopen_short s w h4⟩
  · obtain ⟨n, hn⟩ : ∃ n, s.size = n + 4 := ⟨s.size - 4, by omega⟩
    by_cases ho : 4096 < n
    · exact ⟨⟨#[]⟩, 16, fun w => open_over s w (by omega) (by omega), fun w => refopen_over s n w hn ho (by omega)⟩
    · have hl : s.data.toList = s.data.toList.take n ++ s.data.toList.drop n := (List.take_append_drop _ _).symm
      have hx : (s.extract 0 n).data.toList = s.data.toList.take n := by rw [extract_list]; rfl
      have hy : (s.extract n s.size).data.toList = s.data.toList.drop n := by rw [extract_list, List.take_of_length_le (by simp)]
      by_cases hp : tailL (crc (s.data.toList.take n)) = s.data.toList.drop n
      · refine ⟨s.extract 0 n, 0, fun w => open_good s n w hn (by omega) ?_, fun w => refopen_good s n w hn (by omega) ?_⟩
        · rw [beq_iff_eq, ByteArray.toList_eq, ByteArray.toList_eq, hy, tailB_list]; exact hp
        · rw [beq_iff_eq, ByteArray.toList_eq, ByteArray.toList_eq, wrapB_list, hx, hp]; exact hl.symm
      · refine ⟨⟨#[]⟩, 17, fun w => open_bad s n w hn (by omega) ?_, fun w => refopen_bad s n w hn (by omega) ?_⟩
        · rw [beq_eq_false_iff_ne, ne_eq, ByteArray.toList_eq, ByteArray.toList_eq, hy, tailB_list]; exact hp
        · rw [beq_eq_false_iff_ne, ne_eq, ByteArray.toList_eq, ByteArray.toList_eq, wrapB_list, hx]
          intro e
          exact hp (List.append_cancel_left (e.trans hl))
structure Kt (w0 : World) (b1 b2 b3 : Nat) (S T U : ByteArray) (n m k : Int) (w : World) : Prop where
  d1 : Blk w b1 39 #[.string S, .int .i64 n]
  d2 : Blk w b2 39 #[.string T, .int .i64 m]
  d3 : Blk w b3 39 #[.string U, .int .i64 k]
  er : errT w
  fr : Fr noneOf w0 w
theorem Kt.frm {w0 w w' : World} {b1 b2 b3 : Nat} {S T U : ByteArray} {n m k : Int} (h : Kt w0 b1 b2 b3 S T U n m k w) (hf : Fr noneOf w w') : Kt w0 b1 b2 b3 S T U n m k w' := ⟨h.d1.fr0 hf, h.d2.fr0 hf, h.d3.fr0 hf, h.er.fr hf, h.fr.trans hf⟩
set_option maxHeartbeats 2000000 in
theorem tells_any (s : ByteArray) (w : World) (hs : s.size ≤ 100000) (hg : errT w) : Calls Tryd.prog 8 #[.string s] w fun e w' => e = .returned (.bool true) ∧ Fr noneOf w w' := by
  obtain ⟨S, n, hS, h1, h2⟩ := wrap_all s hs
  obtain ⟨T, m, h3, h4⟩ := open_all s hs
  obtain ⟨U, k, h5, h6⟩ := open_all S hS
  have H1 := Lib.hid h1
  have H2 := Lib.hid h2
  have H3 := Lib.hid h3
  have H4 := Lib.hid h4
  have H5 := Lib.hid h5
  have H6 := Lib.hid h6
  have HG := Lib.hid hg
  clear h1 h2 h3 h4 h5 h6 hg hs hS
  have eS : (S.toList == S.toList) = true := by simp
  have eT : (T.toList == T.toList) = true := by simp
  have eU : (U.toList == U.toList) = true := by simp
  have en : (n == n) = true := by simp
  have em : (m == m) = true := by simp
  have ek : (k == k) = true := by simp
  go_enter Tryd.func8, Tryd.ntmps8
  go_wp2_with (first
    | (go_at_call 11; (with_reducible refine (H1.out _).mono ?_); rintro e w1 ⟨rfl, hf1⟩)
    | (go_at_call 15; (with_reducible refine (H2.out _).mono ?_); rintro e w2 ⟨rfl, hf2⟩)
    | (go_at_call 13; (with_reducible refine (H3.out _).mono ?_); rintro e w3 ⟨rfl, hf3⟩; have D3 := (Blk.new w2 39 #[.string S, .int .i64 n]).fr0 hf3)
    | (go_at_call 16; (with_reducible refine (H4.out _).mono ?_); rintro e w4 ⟨rfl, hf4⟩; have D4 := D3.fr0 hf4; have c4 : w4.cell? ⟨w2.heap.size, 0, none⟩ = some (.string S) := D4.cell 0; have l4 := D4.lt)
    | (go_at_call 13; (with_reducible refine (H5.out _).mono ?_); rintro e w5 ⟨rfl, hf5⟩; have D5 := (D4.alloc _).fr0 hf5; have c5 : w5.cell? ⟨w2.heap.size, 0, none⟩ = some (.string S) := D5.cell 0; have E5 := (Blk.new w4 39 #[.string T, .int .i64 m]).fr0 hf5)
    | (go_at_call 16; (with_reducible refine (H6.out _).mono ?_); rintro e w6 ⟨rfl, hf6⟩; have D6 := D5.fr0 hf6; have E6 := E5.fr0 hf6))
  have hfw := (((((((hf1.trans hf2).alloc _).trans hf3).trans hf4).alloc _).trans hf5).trans hf6).alloc (.cells #[.string U, .int .i64 k] 39)
  have HK : Hid (Kt w w2.heap.size w4.heap.size w6.heap.size S T U n m k (w6.alloc (.cells #[.string U, .int .i64 k] 39))) := Lib.hid ⟨D6.alloc _, E6.alloc _, Blk.new w6 _ _, HG.out.fr hfw, hfw⟩
  clear hfw D3 D4 D5 D6 E5 E6 hf1 hf2 hf3 hf4 hf5 hf6
  obtain ⟨b1, hb1⟩ : ∃ b1, b1 = w2.heap.size := ⟨_, rfl⟩
  obtain ⟨b2, hb2⟩ : ∃ b2, b2 = w4.heap.size := ⟨_, rfl⟩
  obtain ⟨b3, hb3⟩ : ∃ b3, b3 = w6.heap.size := ⟨_, rfl⟩
  rw [← hb1, ← hb2, ← hb3] at HK ⊢
  obtain ⟨wy, hwy⟩ : ∃ wy, wy = w6.alloc (.cells #[.string U, .int .i64 k] 39) := ⟨_, rfl⟩
  rw [← hwy] at HK ⊢
  clear hb1 hb2 hb3 hwy c4 c5 l4
  (go_region_held3 (fun w' => w'.cell? ⟨b1, 0, none⟩ = some (.string S) ∧ w'.cell? ⟨b1, 1, none⟩ = some (.int .i64 n) ∧ w'.cell? ⟨b2, 0, none⟩ = some (.string T) ∧ w'.cell? ⟨b2, 1, none⟩ = some (.int .i64 m) ∧ w'.cell? ⟨b3, 0, none⟩ = some (.string U) ∧ w'.cell? ⟨b3, 1, none⟩ = some (.int .i64 k) ∧ Kt w b1 b2 b3 S T U n m k w')
    (first
      | (exact ⟨hkp.d1.cell 0, hkp.d1.cell 1, hkp.d2.cell 0, hkp.d2.cell 1, hkp.d3.cell 0, hkp.d3.cell 1, hkp⟩)
      | (have q := HK.out; exact ⟨q.d1.cell 0, q.d1.cell 1, q.d2.cell 0, q.d2.cell 1, q.d3.cell 0, q.d3.cell 1, q⟩)
      | (have q := HK.out.frm ((Fr.refl _ _).drew); exact ⟨q.d1.cell 0, q.d1.cell 1, q.d2.cell 0, q.d2.cell 1, q.d3.cell 0, q.d3.cell 1, q⟩)
      | go_keep)
    (first
      | (go_at_call 12; go_split_ands; (with_reducible refine (code_errV _ _ (Kt.er (by assumption))).mono ?_); rintro e wk ⟨rfl, hf⟩; have hkp := Kt.frm (by assumption) hf; clear hf)
      | (go_at_call 12; go_split_ands; (with_reducible refine (code_errV _ _ (Kt.er (by assumption))).mono ?_); rintro e wk ⟨rfl, hf⟩; have hkp := Kt.frm (by assumption) hf; clear hf)))
  all_goals
    go_wp2
    go_ret
    exact ⟨rfl, hkp.fr⟩
end Go.Proofs.YtnbabfggndgfiaaDoor
