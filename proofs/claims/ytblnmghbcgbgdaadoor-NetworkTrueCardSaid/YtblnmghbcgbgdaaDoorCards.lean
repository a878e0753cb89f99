/-
  DERIVED. GIVEN WITH THE SEED: THE CARDS: each row of YtblnmghbcgbgdaaDoorRows.lean that lists a variable, with what it lists TIED to the program's text (the seventh form; the later family's looks); each row that meets fmt, with fmt's text TOLD by the authors' own Lean function (tested against real Go, not proved from fmt's source: count such statements apart). THE CARD IS WHAT COUNTS. Prove the row's statement (the work); the ties are given (YtblnmghbcgbgdaaDoorTie.lean); close each card by the builder's one call (the guide's Derived/Test/ToyasCard.lean, 'card_holds'). Laid BY PROGRAM, IN A SANDBOX (cutbox-door.mjs). By AI agents, Wed Nov 11 2026. No macro, syntax, notation, axiom, sorry.
-/
import Derived.Test.YtblnmghbcgbgdaaDoorRows
import GoSem.ClaimSeven
namespace Go.Proofs.YtblnmghbcgbgdaaDoor
namespace Rows

/-- THE TIED CARD OF 'lyceumlaw19.WireApart'. -/
def wireApartCard : Claim7 := { stood := { row := wireApartRow, standIns := [], harness := (true, "b2c100aa23c3b144e9b8ee5415b34487f5dd11f6b7ad189a848e3fd783872358"), looks := true }, kinds := [], alts := [], laidByText := true, laidKinds := [.handle], laidTests := true, laidLooks := .later }
def WireApartCardSaid : Prop := Claim7.holds Tryd.pinned (.plain (OpenSpec.ofChange wireApartSpec)) wireApartCard

/-- THE TIED CARD OF 'lyceumlaw19.WireBack'. -/
def wireBackCard : Claim7 := { stood := { row := wireBackRow, standIns := [], harness := (true, "b2c100aa23c3b144e9b8ee5415b34487f5dd11f6b7ad189a848e3fd783872358"), looks := true }, kinds := [], alts := [], laidByText := true, laidKinds := [.handle], laidTests := true, laidLooks := .later }
def WireBackCardSaid : Prop := Claim7.holds Tryd.pinned (.plain (OpenSpec.ofChange wireBackSpec)) wireBackCard

/-- THE TIED CARD OF 'lyceumlaw19.WireOnce'. -/
def wireOnceCard : Claim7 := { stood := { row := wireOnceRow, standIns := [], harness := (true, "b2c100aa23c3b144e9b8ee5415b34487f5dd11f6b7ad189a848e3fd783872358"), looks := true }, kinds := [], alts := [], laidByText := true, laidKinds := [.handle], laidTests := true, laidLooks := .later }
def WireOnceCardSaid : Prop := Claim7.holds Tryd.pinned (.plain (OpenSpec.ofChange wireOnceSpec)) wireOnceCard

/-- THE TIED CARD OF 'lyceumlaw23.NetworkTrue'. -/
def networkTrueCard : Claim7 := { stood := { row := networkTrueRow, standIns := [], harness := (true, "b2c100aa23c3b144e9b8ee5415b34487f5dd11f6b7ad189a848e3fd783872358"), looks := true }, kinds := [], alts := [], laidByText := true, laidKinds := [.handle], laidTests := true, laidLooks := .later }
def NetworkTrueCardSaid : Prop := Claim7.holds Tryd.pinned (.plain (OpenSpec.ofChange networkTrueSpec)) networkTrueCard

/-- THE SECOND FORM's CARD OF 'lyceumlaw19.WireApart'. -/
def wireApartUptoCard : Claim7 := { stood := { row := wireApartUptoRow, standIns := [], harness := (true, "b2c100aa23c3b144e9b8ee5415b34487f5dd11f6b7ad189a848e3fd783872358"), looks := true }, kinds := [], alts := [], laidByText := true, laidKinds := [.handle], laidTests := true, laidLooks := .later }
def WireApartUptoCardSaid : Prop := Claim7.holds Tryd.pinned (.plain (OpenSpec.upto wireApartSpec)) wireApartUptoCard

/-- THE SECOND FORM's CARD OF 'lyceumlaw19.WireBack'. -/
def wireBackUptoCard : Claim7 := { stood := { row := wireBackUptoRow, standIns := [], harness := (true, "b2c100aa23c3b144e9b8ee5415b34487f5dd11f6b7ad189a848e3fd783872358"), looks := true }, kinds := [], alts := [], laidByText := true, laidKinds := [.handle], laidTests := true, laidLooks := .later }
def WireBackUptoCardSaid : Prop := Claim7.holds Tryd.pinned (.plain (OpenSpec.upto wireBackSpec)) wireBackUptoCard

/-- THE SECOND FORM's CARD OF 'lyceumlaw19.WireOnce'. -/
def wireOnceUptoCard : Claim7 := { stood := { row := wireOnceUptoRow, standIns := [], harness := (true, "b2c100aa23c3b144e9b8ee5415b34487f5dd11f6b7ad189a848e3fd783872358"), looks := true }, kinds := [], alts := [], laidByText := true, laidKinds := [.handle], laidTests := true, laidLooks := .later }
def WireOnceUptoCardSaid : Prop := Claim7.holds Tryd.pinned (.plain (OpenSpec.upto wireOnceSpec)) wireOnceUptoCard

/-- THE SECOND FORM's CARD OF 'lyceumlaw23.NetworkTrue'. -/
def networkTrueUptoCard : Claim7 := { stood := { row := networkTrueUptoRow, standIns := [], harness := (true, "b2c100aa23c3b144e9b8ee5415b34487f5dd11f6b7ad189a848e3fd783872358"), looks := true }, kinds := [], alts := [], laidByText := true, laidKinds := [.handle], laidTests := true, laidLooks := .later }
def NetworkTrueUptoCardSaid : Prop := Claim7.holds Tryd.pinned (.plain (OpenSpec.upto networkTrueSpec)) networkTrueUptoCard
end Rows
end Go.Proofs.YtblnmghbcgbgdaaDoor
