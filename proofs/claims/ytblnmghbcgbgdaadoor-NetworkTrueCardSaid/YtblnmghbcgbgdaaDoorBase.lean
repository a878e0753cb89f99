/-
  Small laws of this work's own, of whatever program: a 'build' met by a closed fact; worlds of which one block alone has turned; 32-bit words as numbers.
  Conditions: none.
-/
import Derived.Test.YtblnmghbcgbgdaaDoorCrc
import Derived.WalkKit
import Derived.WalkLawsBesides
import Derived.WalkSpells
import Derived.Lib.Hide
namespace Go.Proofs.YtblnmghbcgbgdaaDoor
open Go.RowKit

/-- 'build' by a closed fact on the program's table. -/
theorem wpList_build_at {P : Program} {ops : Array Oper} {rest : List Oper} {o : Oper} {a : Act} {w : World} {Q : Exit → Act → World → Prop} (hg : o.guard = none) (t : TypeId) (parts : Array (Nat × Operand)) (ho : o.op = .build t parts)
    (vals : List (Nat × Value)) (hv : parts.toList.map (fun p => (p.1, a.eval p.2)) = vals) (cells : Array Value) (hb : P.built t vals = some cells)
    (h : wpList P ops Q rest (a.put o.dst (.agg cells)) w) : wpList P ops Q (o :: rest) a w := by
  have hb' : P.built t (parts.map fun (i, x) => (i, a.eval x)).toList = some cells := by rw [Array.toList_map]; rw [← hb, ← hv]
  exact wpList_build hg t parts ho (by rw [hb']; rfl) (by rw [hb']; exact h)

/-- Block g is just the cells cs, of element type t; none of them is frozen. -/
def Blk (w : World) (g : Nat) (t : TypeId) (cs : Array Value) : Prop := w.heap[g]? = some (.cells cs t (0, 0))
theorem Blk.lt {w : World} {g : Nat} {t : TypeId} {cs : Array Value} (h : Blk w g t cs) : g < w.heap.size := by
  by_cases hg : g < w.heap.size
  · exact hg
  · have e : w.heap[g]? = none := Array.getElem?_eq_none (by omega)
    rw [Blk, e] at h
    cases h

/-- ONLY THE BLOCKS OF S, AND NEW ONES, HAVE TURNED. -/
structure Fr (S : Nat → Prop) (a w : World) : Prop where
  os : w.os = a.os
  tape : w.tape = a.tape
  output : w.output = a.output
  size : a.heap.size ≤ w.heap.size
  block : ∀ i, i < a.heap.size → ¬ S i → w.heap[i]? = a.heap[i]?

def noneOf : Nat → Prop := fun _ => False
def justOf (b : Nat) : Nat → Prop := fun i => i = b

namespace Fr
variable {S T : Nat → Prop} {a b c w : World}
theorem refl (S : Nat → Prop) (a : World) : Fr S a a := ⟨rfl, rfl, rfl, Nat.le_refl _, fun _ _ _ => rfl⟩
theorem trans (h : Fr S a b) (k : Fr S b c) : Fr S a c :=
  ⟨k.os.trans h.os, k.tape.trans h.tape, k.output.trans h.output, Nat.le_trans h.size k.size, fun i hi hs => (k.block i (Nat.lt_of_lt_of_le hi h.size) hs).trans (h.block i hi hs)⟩
/-- Behind the first, the second may also turn what is new since. -/
theorem trans' (h : Fr S a b) (k : Fr T b c) (ht : ∀ i, i < a.heap.size → T i → S i) : Fr S a c :=
  ⟨k.os.trans h.os, k.tape.trans h.tape, k.output.trans h.output, Nat.le_trans h.size k.size, fun i hi hs => (k.block i (Nat.lt_of_lt_of_le hi h.size) (fun hti => hs (ht i hi hti))).trans (h.block i hi hs)⟩
theorem mono (h : Fr S a b) (hs : ∀ i, S i → T i) : Fr T a b := ⟨h.os, h.tape, h.output, h.size, fun i hi ht => h.block i hi (fun hsi => ht (hs i hsi))⟩
theorem drew (h : Fr S a w) : Fr S a w.drew := ⟨h.os, h.tape, h.output, h.size, h.block⟩
theorem drewN (h : Fr S a w) (n : Nat) : Fr S a (w.drewN n) := ⟨h.os, h.tape, h.output, h.size, h.block⟩
theorem alloc (h : Fr S a w) (o : Obj) : Fr S a (w.alloc o) :=
  ⟨h.os, h.tape, h.output, Nat.le_trans h.size (by simp), fun i hi hs => (Below.heap_alloc w o i (Nat.lt_of_lt_of_le hi h.size)).trans (h.block i hi hs)⟩
theorem setCell (h : Fr S a w) {p : Addr} (hp : S p.block ∨ a.heap.size ≤ p.block) (u : Value) : Fr S a (w.setCell p u) :=
  ⟨h.os, h.tape, h.output, by simpa [World.setCell] using h.size, fun i hi hs => (Below.heap_setCell w p u i (by
    rintro rfl
    rcases hp with hp | hp
    · exact hs hp
    · omega)).trans (h.block i hi hs)⟩
theorem put (b off : Nat) (u : Value) (h : Fr (justOf b) a w) : Fr (justOf b) a (w.setCell ⟨b, off, none⟩ u) := setCell (p := ⟨b, off, none⟩) h (.inl rfl) u
theorem of0 (S : Nat → Prop) (h : Fr noneOf a w) : Fr S a w := h.mono (fun _ x => x.elim)
theorem below (h : Fr noneOf a w) : Below a.heap.size a w := ⟨h.os, h.tape, h.output, h.size, fun i hi => h.block i hi (fun x => x)⟩
theorem of_below (S : Nat → Prop) (h : Below a.heap.size a w) : Fr S a w := ⟨h.os, h.tape, h.output, h.size, fun i hi _ => h.block i hi⟩
theorem of_grown {row : Option Nat} (h : a.grownBy w row) (hr : ∀ g, row = some g → S g ∨ a.heap.size ≤ g) : Fr S a w :=
  ⟨h.os, h.tape, h.output, h.size, fun i hi hs => h.block i hi (fun e => by rcases hr i e.symm with hx | hx; exact hs hx; omega)⟩
theorem grown {row : Option Nat} (h : Fr S a w) (hg : w.grownBy c row) (hr : ∀ g, row = some g → a.heap.size ≤ g) : Fr S a c :=
  ⟨hg.os.trans h.os, hg.tape.trans h.tape, hg.output.trans h.output, Nat.le_trans h.size hg.size, fun i hi hs => (hg.block i (Nat.lt_of_lt_of_le hi h.size) (fun e => by have := hr i e.symm; omega)).trans (h.block i hi hs)⟩
theorem cell (h : Fr S a w) {p : Addr} (hp : p.block < a.heap.size) (hs : ¬ S p.block) : w.cell? p = a.cell? p := World.cell?_of_block (h.block _ hp hs)
theorem blk (h : Fr S a w) {g : Nat} {t : TypeId} {cs : Array Value} (hb : Blk a g t cs) (hs : ¬ S g) : Blk w g t cs := (h.block g hb.lt hs).trans hb
end Fr

section
variable {w w' : World} {g : Nat} {t : TypeId} {cs : Array Value}
theorem Blk.cell (h : Blk w g t cs) (i : Nat) : w.cell? ⟨g, i, none⟩ = cs[i]? := cell_of_row w g i cs t (0, 0) h
theorem Blk.frozen (h : Blk w g t cs) (i : Nat) : w.frozen? ⟨g, i, none⟩ = false := frozen_of_row w g i cs t h
theorem Blk.new (w : World) (t : TypeId) (cs : Array Value) : Blk (w.alloc (.cells cs t)) w.heap.size t cs := heap_alloc_new w _
theorem Blk.fr {S : Nat → Prop} (h : Blk w g t cs) (hf : Fr S w w') (hs : ¬ S g) : Blk w' g t cs := (hf.block g h.lt hs).trans h
theorem Blk.fr0 (h : Blk w g t cs) (hf : Fr noneOf w w') : Blk w' g t cs := h.fr (S := noneOf) hf (fun x => x)
theorem Blk.drew (h : Blk w g t cs) : Blk w.drew g t cs := h.fr (S := noneOf) (Fr.refl noneOf w).drew (fun x => x)
theorem Blk.alloc (h : Blk w g t cs) (o : Obj) : Blk (w.alloc o) g t cs := h.fr (S := noneOf) ((Fr.refl noneOf w).alloc o) (fun x => x)
theorem Blk.set_ (h : Blk w g t cs) (i : Nat) (u : Value) : Blk (w.setCell ⟨g, i, none⟩ u) g t (cs.setIfInBounds i u) := heap_setCell_same w g i cs t u h
theorem Blk.far (h : Blk w g t cs) {p : Addr} (hp : g ≠ p.block) (u : Value) : Blk (w.setCell p u) g t cs := (heap_setCell_other w p g u hp).trans h
end

theorem frozen_of_block {w w' : World} {p : Addr} (h : w'.heap[p.block]? = w.heap[p.block]?) : w'.frozen? p = w.frozen? p := by
  simp only [World.frozen?, h]
theorem Fr.frozen {S : Nat → Prop} {a w : World} (h : Fr S a w) {p : Addr} (hp : p.block < a.heap.size) (hs : ¬ S p.block) : w.frozen? p = a.frozen? p := frozen_of_block (h.block _ hp hs)

/-- BLOCK g BEGINS WITH THE VALUES vs, none of them frozen. -/
structure Row (w : World) (g : Nat) (vs : List Value) : Prop where
  lt : g < w.heap.size
  cell : ∀ j v, vs[j]? = some v → w.cell? ⟨g, j, none⟩ = some v
  free : ∀ j, j < vs.length → w.frozen? ⟨g, j, none⟩ = false
namespace Row
variable {w w' : World} {g : Nat} {vs : List Value}
theorem fr {S : Nat → Prop} (h : Row w g vs) (hf : Fr S w w') (hs : ¬ S g) : Row w' g vs :=
  ⟨Nat.lt_of_lt_of_le h.lt hf.size, fun j v hj => (hf.cell (p := ⟨g, j, none⟩) h.lt hs).trans (h.cell j v hj), fun j hj => (hf.frozen (p := ⟨g, j, none⟩) h.lt hs).trans (h.free j hj)⟩
theorem fr0 (h : Row w g vs) (hf : Fr noneOf w w') : Row w' g vs := h.fr (S := noneOf) hf (fun x => x)
theorem drew (h : Row w g vs) : Row w.drew g vs := ⟨h.lt, h.cell, h.free⟩
theorem alloc (h : Row w g vs) (o : Obj) : Row (w.alloc o) g vs := h.fr ((Fr.refl noneOf w).alloc o) (fun x => x)
theorem far (h : Row w g vs) {p : Addr} (hp : g ≠ p.block) (u : Value) : Row (w.setCell p u) g vs := h.fr (S := justOf p.block) (Fr.setCell (S := justOf p.block) (p := p) (Fr.refl _ w) (.inl rfl) u) hp
theorem set_ (h : Row w g vs) (i : Nat) (hi : i < vs.length) (u : Value) : Row (w.setCell ⟨g, i, none⟩ u) g (vs.set i u) := by
  refine ⟨by simpa using h.lt, fun j v hj => ?_, fun j hj => by simpa using h.free j (by simpa using hj)⟩
  by_cases e : i = j
  · subst e
    rw [List.getElem?_set_self hi] at hj
    cases hj
    exact World.cell?_setCell_same w ⟨g, i, none⟩ u (h.cell i _ (List.getElem?_eq_getElem hi))
  · rw [List.getElem?_set_ne e] at hj
    rw [World.cell?_setCell_other w ⟨g, i, none⟩ ⟨g, j, none⟩ u (fun x => e (congrArg Addr.off x))]
    exact h.cell j v hj
theorem of_blk {t : TypeId} {cs : Array Value} (h : Blk w g t cs) : Row w g cs.toList :=
  ⟨h.lt, fun j v hj => (h.cell j).trans (by simpa using hj), fun j _ => h.frozen j⟩
end Row
/-- Bytes as the walk has them. -/
def V8 (b : UInt8) : Value := .int .u8 (b.toNat : Int)
def bytesV (l : List UInt8) : List Value := l.map V8
theorem bytesV_at {l : List UInt8} {j : Nat} (h : j < l.length) : (bytesV l)[j]? = some (V8 l[j]) := by simp [bytesV, h]

/-- What '[]byte(s)' leaves. -/
theorem row_of_bytes (w : World) (e : TypeId) (s : ByteArray) (cap : Nat) :
    Row (w.alloc (.cells (bytesRow s cap) e ((bytesRow s cap).size, (bytesRow s cap).size + 1))) w.heap.size (bytesV s.data.toList) := by
  have hb : (w.alloc (.cells (bytesRow s cap) e ((bytesRow s cap).size, (bytesRow s cap).size + 1))).heap[w.heap.size]? = some (.cells (bytesRow s cap) e ((bytesRow s cap).size, (bytesRow s cap).size + 1)) := heap_alloc_new w _
  have hle : s.data.size ≤ (bytesRow s cap).size := by simp [bytesRow]
  refine ⟨by simp, fun j v hj => ?_, fun j hj => ?_⟩
  · have hjl : j < s.data.size := by
      have := (List.getElem?_eq_some_iff.1 hj).1
      simpa [bytesV] using this
    rw [cell_of_row _ _ j _ _ _ hb]
    unfold bytesRow
    rw [Array.getElem?_append_left (by simpa using hjl)]
    simpa [bytesV, V8] using hj
  · have hjl : j < s.data.size := by simpa [bytesV] using hj
    simp only [World.frozen?, hb]
    simp
    omega

/-- 'string(b)' of a row of the bytes l. -/
theorem run_bytes_back {P : Program} {w : World} {g : Nat} {l : List UInt8} (h : Row w g (bytesV l)) (src dst e : TypeId) (hs : P.underlying src = some (.slice e)) (he : P.underlying e = some (.int .u8)) (hd : P.underlying dst = some .string) (cap : Nat) :
    (convert src dst (.slice (some ⟨g, 0, none⟩) l.length cap)).run P w = .ok (.string ⟨l.toArray⟩) w :=
  run_convert_bytes_back w src dst e ⟨g, 0, none⟩ cap l hs he hd fun j hj => by
    have : (⟨g, 0, none⟩ : Addr).add j = ⟨g, j, none⟩ := by unfold Addr.add; split <;> simp_all
    rw [this]
    exact h.cell j _ (bytesV_at hj)

section
variable {P : Program} {ops : Array Oper} {rest : List Oper} {o : Oper} {a : Act} {w : World} {K : Act → World → Prop} {Q : Exit → Act → World → Prop}
theorem wp_sbytes (src dst e : TypeId) (x : Operand) (ho : o.op = .convert src dst x) (hs : P.underlying src = some .string) (hd : P.underlying dst = some (.slice e)) (he : P.underlying e = some (.int .u8))
    (s : ByteArray) (hx : a.eval x = .string s)
    (h : ∀ (w' : World) (g cap : Nat) (l : List UInt8), Hid (l = s.data.toList) → Row w' g (bytesV l) → Fr noneOf w w' → w.heap.size ≤ g → K (a.put o.dst (.slice (some ⟨g, 0, none⟩) l.length cap)) w') : o.wp P a w K Q := by
  have hr := run_bytes_of_string (P := P) w src dst e s hs hd he
  unfold Oper.wp execOp
  simp only [ho, Sem.run_bind, hx, hr, Result.andThen_ok]
  have h' := h _ _ (grownCap w s.size 0 e) _ rfl (row_of_bytes w.drew e s (grownCap w s.size 0 e)) ((Fr.refl noneOf w).drew.alloc _) (Nat.le_refl _)
  rw [show s.data.toList.length = s.size from by simp] at h'
  exact h'
theorem wpList_sbytes (hg : o.guard = none) (src dst e : TypeId) (x : Operand) (ho : o.op = .convert src dst x) (hs : P.underlying src = some .string) (hd : P.underlying dst = some (.slice e)) (he : P.underlying e = some (.int .u8))
    (s : ByteArray) (hx : a.eval x = .string s)
    (h : ∀ (w' : World) (g cap : Nat) (l : List UInt8), Hid (l = s.data.toList) → Row w' g (bytesV l) → Fr noneOf w w' → w.heap.size ≤ g → wpList P ops Q rest (a.put o.dst (.slice (some ⟨g, 0, none⟩) l.length cap)) w') : wpList P ops Q (o :: rest) a w :=
  wpList_plain hg fun _ hK => wp_sbytes src dst e x ho hs hd he s hx fun w' g cap l h1 h2 h3 h4 => hK _ _ (h w' g cap l h1 h2 h3 h4)
theorem wp_bstring (src dst e : TypeId) (x : Operand) (ho : o.op = .convert src dst x) (hs : P.underlying src = some (.slice e)) (hd : P.underlying dst = some .string) (he : P.underlying e = some (.int .u8))
    (g cap n : Nat) (l : List UInt8) (hx : a.eval x = .slice (some ⟨g, 0, none⟩) n cap) (hn : n = l.length) (hr : Row w g (bytesV l))
    (h : K (a.put o.dst (.string ⟨l.toArray⟩)) w) : o.wp P a w K Q := by
  subst hn
  have hr := run_bytes_back hr (P := P) src dst e hs he hd cap
  unfold Oper.wp execOp
  simp only [ho, Sem.run_bind, hx, hr, Result.andThen_ok]
  exact h
theorem wpList_bstring (hg : o.guard = none) (src dst e : TypeId) (x : Operand) (ho : o.op = .convert src dst x) (hs : P.underlying src = some (.slice e)) (hd : P.underlying dst = some .string) (he : P.underlying e = some (.int .u8))
    (g cap n : Nat) (l : List UInt8) (hx : a.eval x = .slice (some ⟨g, 0, none⟩) n cap) (hn : n = l.length) (hr : Row w g (bytesV l))
    (h : wpList P ops Q rest (a.put o.dst (.string ⟨l.toArray⟩)) w) : wpList P ops Q (o :: rest) a w :=
  wpList_plain hg fun _ hK => wp_bstring src dst e x ho hs hd he g cap n l hx hn hr (hK _ _ h)
end

/-- A 32-bit word as the walk has it. -/
def V32 (x : BitVec 32) : Value := .int .u32 (x.toNat : Int)
theorem xor32 (x y : BitVec 32) : bits .xor .u32 (x.toNat : Int) (y.toNat : Int) = ((x ^^^ y).toNat : Int) := by
  show IntKind.u32.wrap ((BitVec.ofInt 32 (x.toNat : Int) ^^^ BitVec.ofInt 32 (y.toNat : Int)).toNat : Int) = _
  have e (z : BitVec 32) : BitVec.ofInt 32 (z.toNat : Int) = z := by
    rw [BitVec.ofInt_natCast]; simp
  rw [e, e]
  have := (x ^^^ y).isLt
  generalize x ^^^ y = z at *
  simp only [IntKind.wrap, IntKind.signed, IntKind.bits]
  simp
  omega
theorem and32 (x y : BitVec 32) : bits .and .u32 (x.toNat : Int) (y.toNat : Int) = ((x &&& y).toNat : Int) := by
  show IntKind.u32.wrap ((BitVec.ofInt 32 (x.toNat : Int) &&& BitVec.ofInt 32 (y.toNat : Int)).toNat : Int) = _
  have e (z : BitVec 32) : BitVec.ofInt 32 (z.toNat : Int) = z := by
    rw [BitVec.ofInt_natCast]; simp
  rw [e, e]
  have := (x &&& y).isLt
  generalize x &&& y = z at *
  simp only [IntKind.wrap, IntKind.signed, IntKind.bits]
  simp
  omega
theorem xor8 (x y : Nat) (hx : x < 256) (hy : y < 256) : bits .xor .u8 (x : Int) (y : Int) = ((x ^^^ y : Nat) : Int) := by
  show IntKind.u8.wrap ((BitVec.ofInt 8 (x : Int) ^^^ BitVec.ofInt 8 (y : Int)).toNat : Int) = _
  have e (z : Nat) (hz : z < 256) : (BitVec.ofInt 8 (z : Int)).toNat = z := by
    rw [BitVec.ofInt_natCast, BitVec.toNat_ofNat]; exact Nat.mod_eq_of_lt hz
  rw [BitVec.toNat_xor, e x hx, e y hy]
  have := Nat.xor_lt_two_pow (n := 8) hx hy
  simp only [IntKind.wrap, IntKind.signed, IntKind.bits]
  simp
  omega
end Go.Proofs.YtblnmghbcgbgdaaDoor
