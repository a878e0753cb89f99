/-
  Two messages told apart by ==.
  Conditions: none.
-/
import Derived.Test.YtblnmghbcgbgdaaDoorWireMade
import Derived.Test.YtblnmghbcgbgdaaDoorMsg
import Derived.Laws.StructEq
namespace Go.Proofs.YtblnmghbcgbgdaaDoor
open Go.RowKit Nums
set_option linter.unusedVariables false
set_option linter.unusedSimpArgs false

theorem ms_raw (m : Ms) : ∃ r : Raw, m.val = r.val := by
  cases m <;> exact ⟨⟨_, _, _, _, _, _, _, _⟩, rfl⟩
theorem val_inj (x y : Ms) (hx : x.ok) (hy : y.ok) (h : x.val = y.val) : x = y := by
  cases x <;> cases y <;> simp only [Ms.ok, Ms.val] at hx hy h <;> simp at h <;> (try (exfalso; omega)) <;> simp <;> (try simp_all) <;> omega
theorem tl_inj (a b : ByteArray) (h : a.toList = b.toList) : a = b := by
  rw [ByteArray.toList_eq, ByteArray.toList_eq] at h
  obtain ⟨⟨x⟩⟩ := a
  obtain ⟨⟨y⟩⟩ := b
  simp at h
  rw [h]
set_option maxRecDepth 100000 in
theorem msg_other (w : World) (k1 g1 s1 : Int) (y1 : Bool) (b1 p1 : ByteArray) (n1 c1 : Int) (k2 g2 s2 : Int) (y2 : Bool) (b2 p2 : ByteArray) (n2 c2 : Int) (h : ¬ (#[.int .i64 k1, .int .i64 g1, .int .i64 s1, .bool y1, .string b1, .string p1, .int .i64 n1, .int .i64 c1] : Array Value) = #[.int .i64 k2, .int .i64 g2, .int .i64 s2, .bool y2, .string b2, .string p2, .int .i64 n2, .int .i64 c2]) :
    (binOp .eql 25 (.agg #[.int .i64 k1, .int .i64 g1, .int .i64 s1, .bool y1, .string b1, .string p1, .int .i64 n1, .int .i64 c1]) (.agg #[.int .i64 k2, .int .i64 g2, .int .i64 s2, .bool y2, .string b2, .string p2, .int .i64 n2, .int .i64 c2])).run Tryd.prog w = .ok (.bool false) w := by
  go_simp
  intro i1 i2 i3 i4 i5 i6 i7 i8
  apply h; rw [i1, i2, i3, i4, tl_inj _ _ i5, tl_inj _ _ i6, i7, i8]
set_option maxRecDepth 100000 in
theorem msg_same (w : World) (k1 g1 s1 : Int) (y1 : Bool) (b1 p1 : ByteArray) (n1 c1 : Int) : (binOp .eql 25 (.agg #[.int .i64 k1, .int .i64 g1, .int .i64 s1, .bool y1, .string b1, .string p1, .int .i64 n1, .int .i64 c1]) (.agg #[.int .i64 k1, .int .i64 g1, .int .i64 s1, .bool y1, .string b1, .string p1, .int .i64 n1, .int .i64 c1])).run Tryd.prog w = .ok (.bool true) w := by
  go_simp
end Go.Proofs.YtblnmghbcgbgdaaDoor
