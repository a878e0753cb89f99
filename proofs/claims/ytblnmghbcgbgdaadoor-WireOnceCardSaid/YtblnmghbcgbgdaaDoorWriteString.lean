/-
  strings.Builder's WriteString (for a dump at which the shelf's own is not laid).
  Conditions: all its bytes take at most 2^47 bytes.
-/
import Derived.Test.YtblnmghbcgbgdaaDoorBuilder
import Derived.Test.YtblnmghbcgbgdaaDoorNumsR
namespace Go.Proofs.YtblnmghbcgbgdaaDoor
open Go.RowKit Go.Shelf Go.Lib
set_option linter.unusedVariables false
set_option linter.unusedSimpArgs false

set_option maxHeartbeats 2000000 in
set_option maxRecDepth 100000 in
theorem writeString_any (B b : Nat) (l m : List UInt8) (w : World) (h : Bld B b l w) (hlen : l.length + m.length ≤ 140737488355328) (hBw : B ≤ w.heap.size) :
    Calls Tryd.prog 28 #[.pointer (some ⟨b, 0, none⟩), .string ⟨m.toArray⟩] w fun e w' => e = .returned (.tuple #[.int .i64 m.length, .nilIface]) ∧ Bld B b (l ++ m) w' ∧ Below B w w' := by
  obtain ⟨i0, hi, hz0, hz1, hz2⟩ := info_parts byte_info
  have hbl := bytes_len l
  have HL := Lib.hid hbl
  clear hbl
  obtain ⟨bs, hbs⟩ : ∃ bs, bs = Lib.byteCells l := ⟨_, rfl⟩
  unfold Bld at h
  rw [← hbs] at h HL
  obtain ⟨s, hs⟩ : ∃ s : ByteArray, s = ⟨m.toArray⟩ := ⟨_, rfl⟩
  have hsz : s.size = m.length := by rw [hs]; exact str_size m
  have hcells : Lib.strCells s = Lib.byteCells m := by rw [hs]; simp [Lib.strCells, Lib.byteCells]
  have hlen' : bs.length + s.size ≤ 140737488355328 := by rw [HL.out, hsz]; exact hlen
  have HBS := Lib.hid hbs
  have HSZ := Lib.hid (And.intro hsz hcells)
  rw [← hs]
  clear hbs hs hsz hcells hlen
  go_enter Tryd.func28, Tryd.ntmps28
  go_wp2_with fail
  refine (copyCheck_any B b bs _ h).mono ?_
  rintro e w1 ⟨rfl, h1, hb1⟩
  obtain ⟨hB, v, hbk, hown, hne⟩ := h1
  have c0 : w1.cell? ⟨b, 0, none⟩ = some (.pointer (some ⟨b, 0, none⟩)) := by rw [Lib.cell_of_heap hbk]; rfl
  have c1 : w1.cell? ⟨b, 1, none⟩ = some v := by rw [Lib.cell_of_heap hbk]; rfl
  have HBK := Lib.hid hbk
  clear hbk
  go_wp2_with (at_builtin; refine Lib.wpList_append_own_stringF _ rfl _ _ 63 9 rfl B 5 i0 Tryd.underlying63 Tryd.underlying9 hi hz0 hz1 hz2 _ _ _ rfl hown s rfl ?c3 ?c4 ?c5 ?_)
  case c3 => unfold maxLen; omega
  case c4 => omega
  case c5 => have := hb1.size; omega
  intro v' w2 hown' hgrow _
  have hlt : b < w1.heap.size := by
    rcases Nat.lt_or_ge b w1.heap.size with h' | h'
    · exact h'
    · have := HBK.out
      simp [Array.getElem?_eq_none h'] at this
  have hb2 : w2.heap[b]? = some (.cells #[.pointer (some ⟨b, 0, none⟩), v] 67 (0, 0)) := by
    rw [hgrow.block b hlt (fun e => hne e.symm)]
    exact HBK.out
  have d0 : w2.cell? ⟨b, 0, none⟩ = some (.pointer (some ⟨b, 0, none⟩)) := by rw [Lib.cell_of_heap hb2]; rfl
  have d1 : w2.cell? ⟨b, 1, none⟩ = some v := by rw [Lib.cell_of_heap hb2]; rfl
  have f1 : w2.frozen? ⟨b, 1, none⟩ = false := Lib.frozen_of_heap hb2 1
  obtain ⟨ao, n', cap, rfl⟩ : ∃ ao n' cap, v' = .slice ao n' cap := by
    rcases hown'.2 with ⟨hv, _⟩ | ⟨g, cap, cur, fz, hv, _⟩
    · exact ⟨_, _, _, hv⟩
    · exact ⟨_, _, _, hv⟩
  have HB2 := Lib.hid hb2
  clear hb2
  go_wp2
  go_ret2
  have hput := Lib.BuilderAtF.put (T := 67) (e := 5) hB HB2.out (bs' := bs ++ Lib.strCells s) (by simpa [Lib.strCells_length] using hown') (by decide)
  refine ⟨by rw [← HSZ.out.1]; rfl, .inr ?_, ?_⟩
  · have e : Lib.byteCells (l ++ m) = bs ++ Lib.strCells s := by rw [HBS.out, HSZ.out.2]; simp [Lib.byteCells]
    rw [e]
    exact hput
  · exact (hb1.grown hgrow (by have := hb1.size; omega) (fun k hk => (hown.lt k hk).1)).setCell (p := ⟨b, 1, none⟩) hB _
end Go.Proofs.YtblnmghbcgbgdaaDoor
