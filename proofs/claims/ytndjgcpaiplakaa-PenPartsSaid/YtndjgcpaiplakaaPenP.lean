/-
  Plain: what numbers do to a pen. No program.
-/
import Derived.Test.YtndjgcpaiplakaaBase
namespace Go.Proofs.Ytndjgcpaiplakaa
open Go.RowKit
set_option linter.unusedVariables false

/-- A pen: character, colours, ways of drawing. -/
structure Pn where
  r : Int
  f : Int
  b : Int
  a : Int
def penV (c : Pn) : Value := .agg #[.int .i32 c.r, .int .u8 c.f, .int .u8 c.b, .int .u8 c.a]
def penC (c : Pn) : Array Value := #[.int .i32 c.r, .int .u8 c.f, .int .u8 c.b, .int .u8 c.a]
def colP (n : Int) : Int := (max n 1) % 256
def tensP (c : Pn) (n : Int) : Pn :=
  if 30 ≤ n ∧ n ≤ 37 then { c with f := colP (n - 30) } else if 40 ≤ n ∧ n ≤ 47 then { c with b := colP (n - 40) }
  else if 90 ≤ n ∧ n ≤ 97 then { c with f := colP (n - 90 + 8) } else if 100 ≤ n ∧ n ≤ 107 then { c with b := colP (n - 100 + 8) } else c
def codeP : Nat → Int
  | 0 => 1
  | 1 => 2
  | 2 => 3
  | 3 => 4
  | 4 => 5
  | _ => 7
def bitP : Nat → Int
  | 0 => 1
  | 1 => 2
  | 2 => 4
  | 3 => 8
  | 4 => 16
  | _ => 32
def attrStep (n a : Int) (k : Nat) : Int := if n = codeP k then bits .or .u8 a (bitP k) else if n = codeP k + 20 ∧ 2 < codeP k then bits .andNot .u8 a (bitP k) else a
def attrF (n a : Int) : Nat → Int
  | 0 => a
  | k + 1 => attrStep n (attrF n a k) k
def oneA (c : Pn) (n : Int) : Pn :=
  if n = 0 then { c with f := 0, b := 0, a := 0 } else if n = 22 then { c with a := bits .andNot .u8 c.a 3 } else if n = 39 then { c with f := 0 } else if n = 49 then { c with b := 0 } else c
def withA (c : Pn) (a : Int) : Pn := { c with a := a }
def oneP (c : Pn) (n : Int) : Pn := tensP (withA (oneA c n) (attrF n (oneA c n).a 6)) n
def partP (n : Int) : Int := (min (max n 0) 255) / 43
def triP (x y z : Int) : Int := colP (16 + 36 * partP x + 6 * partP y + partP z)
def setP (c : Pn) (n x : Int) : Pn := if n = 38 then { c with f := x } else { c with b := x }
/-- What a row of numbers makes of a pen. -/
inductive Run : List Int → Pn → Pn → Prop
  | done (c : Pn) : Run [] c c
  | one {n : Int} {l : List Int} {c z : Pn} : n ≠ 38 → n ≠ 48 → Run l (oneP c n) z → Run (n :: l) c z
  | five {n x : Int} {l : List Int} {c z : Pn} : n = 38 ∨ n = 48 → 0 ≤ x → x ≤ 255 → Run l (setP c n (colP x)) z → Run (n :: 5 :: x :: l) c z
  | none5 {n x : Int} {l : List Int} {c z : Pn} : n = 38 ∨ n = 48 → x < 0 ∨ 255 < x → Run l c z → Run (n :: 5 :: x :: l) c z
  | three {n x y u : Int} {l : List Int} {c z : Pn} : n = 38 ∨ n = 48 → Run l (setP c n (triP x y u)) z → Run (n :: 2 :: x :: y :: u :: l) c z
  | stop {n : Int} {l : List Int} {c : Pn} : n = 38 ∨ n = 48 → ¬ (2 ≤ l.length ∧ l[0]? = some 5) → ¬ (4 ≤ l.length ∧ l[0]? = some 2) → Run (n :: l) c c
end Go.Proofs.Ytndjgcpaiplakaa
