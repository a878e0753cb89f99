/-
  No cell of these rows narrows 'for every input' (looked for: loops, veiled, ifaces, maps, wideKeys, modest, calm, conditions, laid).
  DERIVED. THE GIVEN ROWS OF THIS SEAT. 4 by the template 'for every input the law returns true; each argument reads behind the call as it read before'; 0 by the template 'total and deterministic' (their statements: YtmopieejfbiedaaTotals.lean).
  GIVEN WITH THE SEED: the statements are not yours to turn. If you find one false, say at which input.
  Laid BY PROGRAM, IN A SANDBOX (cutbox-rows.mjs): the forced cells as the released guide's own fill.sh prints them over the translation 0ffe2b22e374968f… (all of the seat's roots in one cut). By AI agents, Wed Nov 11 2026. No macro, syntax, notation, axiom, sorry.
-/
import Derived.Test.YtmopieejfbiedaaChecked
import GoSem.Claim
import GoSem.ClaimJoined
import GoSem.ClaimMapViews
import Derived.JoinedTies
import Derived.KernelRfl
namespace Go.Proofs.Ytmopieejfbiedaa
/- THE CELL 'sum', in the pinned program and in every row, IS THE sha256 OF THE DUMP (.gsa) THAT YtmopieejfbiedaaProg.lean LOADS. Nothing in Lean hashes anything: it is a label: what it is worth is what the hold of that sum in a sandbox is worth. -/
noncomputable def Try.pinned : Pinned := { name := "ytmopieejfbiedaa", sum := "0ffe2b22e374968fc73262ef87ac9b7f353e0bb1a990c6d4fc48d0a5dc8ba8cc", checked := Try.checked }
namespace Rows
def none {H : Type} : Left H := { results := [], args := [] }

/-- 'lyceumlaw21.HandsOrder': WHATEVER THE INPUT: true; the input reads as it did. -/
def handsOrderSpec : ChangeSpec := { name := "handsOrder", fn := fun _ => fun
  | [d1, d2] => { results := [.lit (.bool true)], args := [d1, d2] }
  | _ => none }
def handsOrderRow : OpenClaim := { program := "ytmopieejfbiedaa", sum := "0ffe2b22e374968fc73262ef87ac9b7f353e0bb1a990c6d4fc48d0a5dc8ba8cc", func := "lyceum/lyceumlaw21.HandsOrder", spec := "handsOrder", apart := false }
def HandsOrderSaid : Prop := handsOrderRow.holds Try.pinned (OpenSpec.ofChange handsOrderSpec)

/-- ITS FALSE NEIGHBOUR: 'it returns false'. Refute it at one input. -/
def handsOrderWrong : ChangeSpec := { name := "handsOrder", fn := fun _ => fun
  | [d1, d2] => { results := [.lit (.bool false)], args := [d1, d2] }
  | _ => none }
def HandsOrderWrongFalsely : Prop := handsOrderRow.holds Try.pinned (OpenSpec.ofChange handsOrderWrong)

/-- 'lyceumlaw21.HandsOnce': WHATEVER THE INPUT: true; the input reads as it did. -/
def handsOnceSpec : ChangeSpec := { name := "handsOnce", fn := fun _ => fun
  | [d1, d2] => { results := [.lit (.bool true)], args := [d1, d2] }
  | _ => none }
def handsOnceRow : OpenClaim := { program := "ytmopieejfbiedaa", sum := "0ffe2b22e374968fc73262ef87ac9b7f353e0bb1a990c6d4fc48d0a5dc8ba8cc", func := "lyceum/lyceumlaw21.HandsOnce", spec := "handsOnce", apart := false }
def HandsOnceSaid : Prop := handsOnceRow.holds Try.pinned (OpenSpec.ofChange handsOnceSpec)

/-- ITS FALSE NEIGHBOUR: 'it returns false'. Refute it at one input. -/
def handsOnceWrong : ChangeSpec := { name := "handsOnce", fn := fun _ => fun
  | [d1, d2] => { results := [.lit (.bool false)], args := [d1, d2] }
  | _ => none }
def HandsOnceWrongFalsely : Prop := handsOnceRow.holds Try.pinned (OpenSpec.ofChange handsOnceWrong)

/-- 'lyceumlaw21.HandsReach': WHATEVER THE INPUT: true; the input reads as it did. -/
def handsReachSpec : ChangeSpec := { name := "handsReach", fn := fun _ => fun
  | [d1, d2, d3] => { results := [.lit (.bool true)], args := [d1, d2, d3] }
  | _ => none }
def handsReachRow : OpenClaim := { program := "ytmopieejfbiedaa", sum := "0ffe2b22e374968fc73262ef87ac9b7f353e0bb1a990c6d4fc48d0a5dc8ba8cc", func := "lyceum/lyceumlaw21.HandsReach", spec := "handsReach", apart := false }
def HandsReachSaid : Prop := handsReachRow.holds Try.pinned (OpenSpec.ofChange handsReachSpec)

/-- ITS FALSE NEIGHBOUR: 'it returns false'. Refute it at one input. -/
def handsReachWrong : ChangeSpec := { name := "handsReach", fn := fun _ => fun
  | [d1, d2, d3] => { results := [.lit (.bool false)], args := [d1, d2, d3] }
  | _ => none }
def HandsReachWrongFalsely : Prop := handsReachRow.holds Try.pinned (OpenSpec.ofChange handsReachWrong)

/-- 'lyceumlaw21.HandsNil': WHATEVER THE INPUT: true; the input reads as it did. -/
def handsNilSpec : ChangeSpec := { name := "handsNil", fn := fun _ => fun
  | [d] => { results := [.lit (.bool true)], args := [d] }
  | _ => none }
def handsNilRow : OpenClaim := { program := "ytmopieejfbiedaa", sum := "0ffe2b22e374968fc73262ef87ac9b7f353e0bb1a990c6d4fc48d0a5dc8ba8cc", func := "lyceum/lyceumlaw21.HandsNil", spec := "handsNil", apart := false }
def HandsNilSaid : Prop := handsNilRow.holds Try.pinned (OpenSpec.ofChange handsNilSpec)

/-- ITS FALSE NEIGHBOUR: 'it returns false'. Refute it at one input. -/
def handsNilWrong : ChangeSpec := { name := "handsNil", fn := fun _ => fun
  | [d] => { results := [.lit (.bool false)], args := [d] }
  | _ => none }
def HandsNilWrongFalsely : Prop := handsNilRow.holds Try.pinned (OpenSpec.ofChange handsNilWrong)

/- THE SECOND FORM. 'bulk': how many values and letters a reading holds, each counted each time it is reached (what is shared counts as often as it is met; a slice's spare places count too). A statement '..UptoSaid' is the law's where the arguments, and the package variables that the reading takes, are together of bulk at most 1048576: NARROWER than '..Said'. Prove '..Said' where nothing that the law and all that it calls make is longer than what came in: it says more and counts as full. Else prove '..UptoSaid'. A law counts once. -/
mutual
def uptoBulk {H : Type} : DataW H → Nat
  | .lit (.string bytes) => bytes.length + 1
  | .lit _ => 1
  | .nil => 1
  | .ptr d => uptoBulk d + 1
  | .slice elems spare => uptoBulkAll elems + uptoBulkAll spare + 1
  | .agg parts => uptoBulkAll parts + 1
  | .iface _ d => uptoBulk d + 1
  | .map entries => uptoBulkEntries entries + 1
  | .held _ => 1
def uptoBulkAll {H : Type} : List (DataW H) → Nat
  | [] => 0
  | d :: r => uptoBulk d + uptoBulkAll r
def uptoBulkEntries {H : Type} : List (Lit × DataW H) → Nat
  | [] => 0
  | x :: r => uptoBulkEntry x + uptoBulkEntries r
def uptoBulkEntry {H : Type} : Lit × DataW H → Nat
  | (.string bytes, d) => bytes.length + uptoBulk d + 1
  | (_, d) => uptoBulk d + 1
 end
def uptoSmall : (H : Type) → List (DataW H) → Bool := fun _ ds => decide (uptoBulkAll ds ≤ 1048576)
def OpenSpec.upto (s : _root_.Go.ChangeSpec) : _root_.Go.OpenSpec := { _root_.Go.OpenSpec.ofChange s with cond := some uptoSmall }

/-- 'lyceumlaw21.HandsOrder', WHERE WHAT IT READS IS OF BULK AT MOST 1048576: true; the input reads as it did. -/
def handsOrderUptoRow : OpenClaim := { program := "ytmopieejfbiedaa", sum := "0ffe2b22e374968fc73262ef87ac9b7f353e0bb1a990c6d4fc48d0a5dc8ba8cc", func := "lyceum/lyceumlaw21.HandsOrder", spec := "handsOrder", apart := false, narrowed := true }
def HandsOrderUptoSaid : Prop := handsOrderUptoRow.holds Try.pinned (OpenSpec.upto handsOrderSpec)

/-- 'lyceumlaw21.HandsOnce', WHERE WHAT IT READS IS OF BULK AT MOST 1048576: true; the input reads as it did. -/
def handsOnceUptoRow : OpenClaim := { program := "ytmopieejfbiedaa", sum := "0ffe2b22e374968fc73262ef87ac9b7f353e0bb1a990c6d4fc48d0a5dc8ba8cc", func := "lyceum/lyceumlaw21.HandsOnce", spec := "handsOnce", apart := false, narrowed := true }
def HandsOnceUptoSaid : Prop := handsOnceUptoRow.holds Try.pinned (OpenSpec.upto handsOnceSpec)

/-- 'lyceumlaw21.HandsReach', WHERE WHAT IT READS IS OF BULK AT MOST 1048576: true; the input reads as it did. -/
def handsReachUptoRow : OpenClaim := { program := "ytmopieejfbiedaa", sum := "0ffe2b22e374968fc73262ef87ac9b7f353e0bb1a990c6d4fc48d0a5dc8ba8cc", func := "lyceum/lyceumlaw21.HandsReach", spec := "handsReach", apart := false, narrowed := true }
def HandsReachUptoSaid : Prop := handsReachUptoRow.holds Try.pinned (OpenSpec.upto handsReachSpec)

/-- 'lyceumlaw21.HandsNil', WHERE WHAT IT READS IS OF BULK AT MOST 1048576: true; the input reads as it did. -/
def handsNilUptoRow : OpenClaim := { program := "ytmopieejfbiedaa", sum := "0ffe2b22e374968fc73262ef87ac9b7f353e0bb1a990c6d4fc48d0a5dc8ba8cc", func := "lyceum/lyceumlaw21.HandsNil", spec := "handsNil", apart := false, narrowed := true }
def HandsNilUptoSaid : Prop := handsNilUptoRow.holds Try.pinned (OpenSpec.upto handsNilSpec)

end Rows
end Go.Proofs.Ytmopieejfbiedaa
