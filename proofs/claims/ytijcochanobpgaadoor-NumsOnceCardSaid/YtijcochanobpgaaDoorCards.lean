/-
  DERIVED. GIVEN WITH THE SEED: THE CARDS: each row of YtijcochanobpgaaDoorRows.lean that lists a variable, with what it lists TIED to the program's text (the seventh form; the later family's looks); each row that meets fmt, with fmt's text TOLD by the authors' own Lean function (tested against real Go, not proved from fmt's source: count such statements apart). THE CARD IS WHAT COUNTS. Prove the row's statement (the work); the ties are given (YtijcochanobpgaaDoorTie.lean); close each card by the builder's one call (the guide's Derived/Test/ToyasCard.lean, 'card_holds'). Laid BY PROGRAM, IN A SANDBOX (cutbox-door.mjs). By AI agents, Wed Nov 11 2026. No macro, syntax, notation, axiom, sorry.
-/
import Derived.Test.YtijcochanobpgaaDoorRows
import GoSem.ClaimSeven
namespace Go.Proofs.YtijcochanobpgaaDoor
namespace Rows

/-- THE TIED CARD OF 'lyceumlaw03.NumsOnce'. -/
def numsOnceCard : Claim7 := { stood := { row := numsOnceRow, standIns := [], harness := (true, "b123720e4dd10dda4afd9a9137f42657725ec316accd180c91bf0d64dc26dd5a"), looks := true }, kinds := [], alts := [], laidByText := true, laidKinds := [.handle], laidTests := true, laidLooks := .later }
def NumsOnceCardSaid : Prop := Claim7.holds Tryd.pinned (.plain (OpenSpec.ofChange numsOnceSpec)) numsOnceCard

/-- THE TIED CARD OF 'lyceumlaw03.NumsNil'. -/
def numsNilCard : Claim7 := { stood := { row := numsNilRow, standIns := [], harness := (true, "b123720e4dd10dda4afd9a9137f42657725ec316accd180c91bf0d64dc26dd5a"), looks := true }, kinds := [], alts := [], laidByText := true, laidKinds := [.handle], laidTests := true, laidLooks := .later }
def NumsNilCardSaid : Prop := Claim7.holds Tryd.pinned (.plain (OpenSpec.ofChange numsNilSpec)) numsNilCard

/-- THE TIED CARD OF 'lyceumlaw03.NumsBack'. -/
def numsBackCard : Claim7 := { stood := { row := numsBackRow, standIns := [], harness := (true, "b123720e4dd10dda4afd9a9137f42657725ec316accd180c91bf0d64dc26dd5a"), looks := true }, kinds := [], alts := [], laidByText := true, laidKinds := [.handle], laidTests := true, laidLooks := .later }
def NumsBackCardSaid : Prop := Claim7.holds Tryd.pinned (.plain (OpenSpec.ofChange numsBackSpec)) numsBackCard

/-- THE SECOND FORM's CARD OF 'lyceumlaw03.NumsOnce'. -/
def numsOnceUptoCard : Claim7 := { stood := { row := numsOnceUptoRow, standIns := [], harness := (true, "b123720e4dd10dda4afd9a9137f42657725ec316accd180c91bf0d64dc26dd5a"), looks := true }, kinds := [], alts := [], laidByText := true, laidKinds := [.handle], laidTests := true, laidLooks := .later }
def NumsOnceUptoCardSaid : Prop := Claim7.holds Tryd.pinned (.plain (OpenSpec.upto numsOnceSpec)) numsOnceUptoCard

/-- THE SECOND FORM's CARD OF 'lyceumlaw03.NumsNil'. -/
def numsNilUptoCard : Claim7 := { stood := { row := numsNilUptoRow, standIns := [], harness := (true, "b123720e4dd10dda4afd9a9137f42657725ec316accd180c91bf0d64dc26dd5a"), looks := true }, kinds := [], alts := [], laidByText := true, laidKinds := [.handle], laidTests := true, laidLooks := .later }
def NumsNilUptoCardSaid : Prop := Claim7.holds Tryd.pinned (.plain (OpenSpec.upto numsNilSpec)) numsNilUptoCard

/-- THE SECOND FORM's CARD OF 'lyceumlaw03.NumsBack'. -/
def numsBackUptoCard : Claim7 := { stood := { row := numsBackUptoRow, standIns := [], harness := (true, "b123720e4dd10dda4afd9a9137f42657725ec316accd180c91bf0d64dc26dd5a"), looks := true }, kinds := [], alts := [], laidByText := true, laidKinds := [.handle], laidTests := true, laidLooks := .later }
def NumsBackUptoCardSaid : Prop := Claim7.holds Tryd.pinned (.plain (OpenSpec.upto numsBackSpec)) numsBackUptoCard
end Rows
end Go.Proofs.YtijcochanobpgaaDoor
