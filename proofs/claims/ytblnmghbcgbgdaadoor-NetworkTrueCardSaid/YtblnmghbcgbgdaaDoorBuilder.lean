/-
  Contracts of strings.Builder's WriteByte and String (and copyCheck beneath), at this program, over the library's own word for a builder that the call has made; a builder stays one over whatever turns no older block.
  Conditions: the builder's bytes stay within 2^47.
-/
import Derived.Test.YtblnmghbcgbgdaaDoorBase
import Derived.Test.YtblnmghbcgbgdaaDoorShelf
import Derived.Test.YtblnmghbcgbgdaaDoorChecked
import Derived.Lib.FrozenHead2
import Derived.Lib.OthersKept
namespace Go.Proofs.YtblnmghbcgbgdaaDoor
open Go.RowKit
set_option linter.unusedVariables false

/-- THE BUILDER IN BLOCK b HOLDS THE BYTES l; its rows lie from block B on. -/
def Bld (B b : Nat) (l : List UInt8) (w : World) : Prop := Lib.IsBuilderF 67 5 B b (Lib.byteCells l) w
theorem bytes_len (l : List UInt8) : (Lib.byteCells l).length = l.length := by simp [Lib.byteCells]
theorem byte_info : (Tryd.prog.info? 5).map (fun i => (i.zero, i.size, i.bytes)) = some (some (.int .u8 0), 1, 1) := by kernel_rfl

theorem bld_new (w : World) : Bld w.heap.size w.heap.size [] (w.alloc (.cells #[.pointer none, .slice none 0 0] 67)) :=
  Lib.IsBuilderF.of (Lib.fresh_isBuilder 67 5 w)

theorem atF_fr {T e : TypeId} {B b : Nat} {p : Value} {bs : List Value} {w w' : World} (h : Lib.BuilderAtF T e B b p bs w) (hf : Fr noneOf w w') : Lib.BuilderAtF T e B b p bs w' := by
  have hlt := h.lt
  obtain ⟨hB, v, hb, hown, hne⟩ := h
  refine ⟨hB, v, (hf.block b hlt (fun x => x)).trans hb, hown.kept (row := none) ⟨hf.os, hf.tape, hf.output, hf.size, fun i hi _ => hf.block i hi (fun x => x)⟩ ?_, hne⟩
  cases v.ownBlock <;> simp
theorem Bld.fr {B b : Nat} {l : List UInt8} {w w' : World} (h : Bld B b l w) (hf : Fr noneOf w w') : Bld B b l w' :=
  h.elim (fun x => .inl (atF_fr x hf)) (fun x => .inr (atF_fr x hf))
theorem Bld.base {B b : Nat} {l : List UInt8} {w : World} (h : Bld B b l w) : B ≤ b := h.elim (fun x => x.1) (fun x => x.1)
theorem Bld.lt {B b : Nat} {l : List UInt8} {w : World} (h : Bld B b l w) : b < w.heap.size := h.elim (fun x => x.lt) (fun x => x.lt)

theorem builder_size : (Tryd.prog.info? 67).map (·.size) = some 2 := by kernel_rfl
theorem builder_lies : liesAt Tryd.prog Tryd.prog.depth 67 (2 / Tryd.prog.cellsOf 67) 0 67 1 = true := by kernel_rfl
set_option maxRecDepth 100000 in
theorem copyCheck_any (B b : Nat) (bs : List Value) (w : World) (h : Lib.IsBuilderF 67 5 B b bs w) :
    Calls Tryd.prog 57 #[.pointer (some ⟨b, 0, none⟩)] w fun e w' => e = .returned (.tuple #[]) ∧ Lib.BuilderAtF 67 5 B b (.pointer (some ⟨b, 0, none⟩)) bs w' ∧ Below B w w' := by
  rcases h with h | h
  · have c0 := h.cell0
    have f0 := h.frozen0
    have sh := h.shape
    have hu := h.used (.pointer (some ⟨b, 0, none⟩))
    have hB := h.1
    have HU := Lib.hid hu
    have HB := Lib.hid hB
    clear h hu hB
    obtain ⟨j, hj, hjs⟩ := Option.map_eq_some_iff.1 builder_size
    go_enter Tryd.func57, Tryd.ntmps57
    go_wp2
    rw [Lib.run_to_unsafe w ⟨b, 0, none⟩ Tryd.underlying65 Tryd.underlying105 hj (by rw [hjs]; decide) sh (Nat.zero_lt_succ 1)]
    simp only [Result.andThen]
    rw [Oper.upon_value]
    go_wp2
    rw [run_callFunc_extern Tryd.func82 (by kernel_rfl) (by kernel_rfl) (by kernel_rfl) (e := Extern.AbiNoEscape.same) (by kernel_rfl)]
    rw [Lib.run_noEscape]
    simp only [Result.andThen]
    rw [Oper.upon_value]
    go_wp2
    rw [Lib.run_from_unsafe w ⟨b, 0, none⟩ Tryd.underlying105 Tryd.underlying65 hj sh builder_lies]
    simp only [Result.andThen]
    rw [Oper.upon_value]
    have c0' : (w.setCell ⟨b, 0, none⟩ (.pointer (some ⟨b, 0, none⟩))).cell? ⟨b, 0, none⟩ = some (.pointer (some ⟨b, 0, none⟩)) := World.cell?_setCell_same _ _ _ c0
    have hne := fun (W : World) => Lib.run_neq_ptr_same W (P := Tryd.prog) ⟨b, 0, none⟩ Tryd.underlying65 hj
    go_wp2
    go_end0
    exact ⟨rfl, HU.out, (Below.refl B w).setCell (p := ⟨b, 0, none⟩) HB.out _⟩
  · have c0 := h.cell0
    have HU := Lib.hid h
    clear h
    obtain ⟨j, hj, hjs⟩ := Option.map_eq_some_iff.1 builder_size
    have hne := fun (W : World) => Lib.run_neq_ptr_same W (P := Tryd.prog) ⟨b, 0, none⟩ Tryd.underlying65 hj
    go_enter Tryd.func57, Tryd.ntmps57
    go_wp2
    go_end0
    exact ⟨rfl, HU.out, Below.refl B _⟩

set_option maxRecDepth 100000 in
theorem writeByte_any (B b : Nat) (l : List UInt8) (c : UInt8) (w : World) (h : Bld B b l w) (hlen : l.length + 1 ≤ 140737488355328) (hBw : B ≤ w.heap.size) :
    Calls Tryd.prog 59 #[.pointer (some ⟨b, 0, none⟩), .int .u8 (c.toNat : Int)] w fun e w' => e = .returned .nilIface ∧ Bld B b (l ++ [c]) w' ∧ Below B w w' := by
  obtain ⟨i0, hi, hz0, hz1, hz2⟩ := info_parts byte_info
  have hbl := bytes_len l
  have HL := Lib.hid hbl
  clear hbl
  obtain ⟨bs, hbs⟩ : ∃ bs, bs = Lib.byteCells l := ⟨_, rfl⟩
  unfold Bld at h
  rw [← hbs] at h HL
  have hlen' : bs.length + 1 ≤ 140737488355328 := by rw [HL.out]; exact hlen
  have HBS := Lib.hid hbs
  clear hbs
  go_enter Tryd.func59, Tryd.ntmps59
  go_wp2_with fail
  refine (copyCheck_any B b bs _ h).mono ?_
  rintro e w1 ⟨rfl, h1, hb1⟩
  obtain ⟨hB, v, hbk, hown, hne⟩ := h1
  have c0 : w1.cell? ⟨b, 0, none⟩ = some (.pointer (some ⟨b, 0, none⟩)) := by rw [Lib.cell_of_heap hbk]; rfl
  have c1 : w1.cell? ⟨b, 1, none⟩ = some v := by rw [Lib.cell_of_heap hbk]; rfl
  have HBK := Lib.hid hbk
  clear hbk
  go_wp2_with (at_builtin; refine wpList_append_ownF _ rfl _ _ 63 rfl B 5 i0 (.int .u8 0) 1 1 Tryd.underlying63 hi hz0 hz1 hz2 rfl (by decide) _ _ _ rfl (hown.alloc _) ⟨w1.heap.size, 0, none⟩ 1 1 [.int .u8 (c.toNat : Int)] rfl rfl ?c1 ?c2 ?c3 ?c4 ?c5 ?_)
  case c1 =>
    intro j u hj
    match j, hj with
    | 0, hj => simp at hj; subst hj; simp [Addr.add]
  case c2 => intro u hu; simp at hu; subst hu; rfl
  case c3 => unfold maxLen; omega
  case c4 => omega
  case c5 => have := hb1.size; simp; omega
  intro v' w2 hown' hgrow _
  have hlt : b < w1.heap.size := by
    rcases Nat.lt_or_ge b w1.heap.size with h' | h'
    · exact h'
    · have := HBK.out
      simp [Array.getElem?_eq_none h'] at this
  have hb2 : w2.heap[b]? = some (.cells #[.pointer (some ⟨b, 0, none⟩), v] 67 (0, 0)) := by
    rw [hgrow.block b (by simp; omega) (fun e => hne e.symm), Lib.alloc_old w1 _ b hlt]
    exact HBK.out
  have d0 : w2.cell? ⟨b, 0, none⟩ = some (.pointer (some ⟨b, 0, none⟩)) := by rw [Lib.cell_of_heap hb2]; rfl
  have d1 : w2.cell? ⟨b, 1, none⟩ = some v := by rw [Lib.cell_of_heap hb2]; rfl
  have f1 : w2.frozen? ⟨b, 1, none⟩ = false := Lib.frozen_of_heap hb2 1
  obtain ⟨g, cap, rfl⟩ : ∃ g cap, v' = .slice (some ⟨g, 0, none⟩) (bs.length + 1) cap := by
    rcases hown'.2 with ⟨_, h0⟩ | ⟨g, cap, cur, fz, hv, _⟩
    · omega
    · exact ⟨g, cap, hv⟩
  have HB2 := Lib.hid hb2
  clear hb2
  go_wp2
  go_ret
  have hput : Lib.BuilderAtF 67 5 B b (.pointer (some ⟨b, 0, none⟩)) (bs ++ [.int .u8 (c.toNat : Int)]) _ := Lib.BuilderAtF.put hB HB2.out (by simpa using hown') (by decide)
  refine ⟨rfl, .inr ?_, ?_⟩
  · have e : Lib.byteCells (l ++ [c]) = bs ++ [.int .u8 (c.toNat : Int)] := by rw [HBS.out]; simp [Lib.byteCells]
    rw [e]
    exact hput
  · exact ((hb1.alloc (by have := hb1.size; omega) _).grown hgrow (by have := hb1.size; simp; omega) (fun k hk => (hown.lt k hk).1)).setCell (p := ⟨b, 1, none⟩) hB _

theorem writeByte_is (B b : Nat) (l : List UInt8) (x : Int) (c : UInt8) (w : World) (hx : x = (c.toNat : Int)) (h : Bld B b l w) (hlen : l.length + 1 ≤ 140737488355328) (hBw : B ≤ w.heap.size) :
    Calls Tryd.prog 59 #[.pointer (some ⟨b, 0, none⟩), .int .u8 x] w fun e w' => e = .returned .nilIface ∧ Bld B b (l ++ [c]) w' ∧ Below B w w' := by
  subst hx
  exact writeByte_any B b l c w h hlen hBw

theorem string_any (B b : Nat) (l : List UInt8) (w : World) (h : Bld B b l w) (hBw : B ≤ w.heap.size) :
    Calls Tryd.prog 33 #[.pointer (some ⟨b, 0, none⟩)] w fun e w' => e = .returned (.string ⟨l.toArray⟩) ∧ Bld B b l w' ∧ Below B w w' :=
  (Tryd.Builder_String_any_f B b l w h hBw).mono fun _ _ ⟨he, hr⟩ => ⟨he, hr.1, hr.2⟩
end Go.Proofs.YtblnmghbcgbgdaaDoor
