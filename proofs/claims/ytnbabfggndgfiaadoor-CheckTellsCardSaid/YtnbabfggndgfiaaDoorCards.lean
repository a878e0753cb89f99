/-
  DERIVED. GIVEN WITH THE SEED: THE CARDS: each row of YtnbabfggndgfiaaDoorRows.lean that lists a variable, with what it lists TIED to the program's text (the seventh form; the later family's looks); each row that meets fmt, with fmt's text TOLD by the authors' own Lean function (tested against real Go, not proved from fmt's source: count such statements apart). THE CARD IS WHAT COUNTS. Prove the row's statement (the work); the ties are given (YtnbabfggndgfiaaDoorTie.lean); close each card by the builder's one call (the guide's Derived/Test/ToyasCard.lean, 'card_holds'). Laid BY PROGRAM, IN A SANDBOX (cutbox-door.mjs). By AI agents, Wed Nov 11 2026. No macro, syntax, notation, axiom, sorry.
-/
import Derived.Test.YtnbabfggndgfiaaDoorRows
import GoSem.ClaimSeven
namespace Go.Proofs.YtnbabfggndgfiaaDoor
namespace Rows

/-- THE TIED CARD OF 'lyceumlaw02.CheckTells'. -/
def checkTellsCard : Claim7 := { stood := { row := checkTellsRow, standIns := [], harness := (true, "d0e6de97d714ef26889a441f92b3f6bed6ab813672c181127d098c2dee9bca8b"), looks := true }, kinds := [], alts := [], laidByText := true, laidKinds := [.handle], laidTests := true, laidLooks := .later }
def CheckTellsCardSaid : Prop := Claim7.holds Tryd.pinned (.plain (OpenSpec.ofChange checkTellsSpec)) checkTellsCard

/-- THE TIED CARD OF 'lyceumlaw02.CheckFinds'. -/
def checkFindsCard : Claim7 := { stood := { row := checkFindsRow, standIns := [], harness := (true, "d0e6de97d714ef26889a441f92b3f6bed6ab813672c181127d098c2dee9bca8b"), looks := true }, kinds := [], alts := [], laidByText := true, laidKinds := [.handle], laidTests := true, laidLooks := .later }
def CheckFindsCardSaid : Prop := Claim7.holds Tryd.pinned (.plain (OpenSpec.ofChange checkFindsSpec)) checkFindsCard

/-- THE TIED CARD OF 'lyceumlaw02.CheckBack'. -/
def checkBackCard : Claim7 := { stood := { row := checkBackRow, standIns := [], harness := (true, "d0e6de97d714ef26889a441f92b3f6bed6ab813672c181127d098c2dee9bca8b"), looks := true }, kinds := [], alts := [], laidByText := true, laidKinds := [.handle], laidTests := true, laidLooks := .later }
def CheckBackCardSaid : Prop := Claim7.holds Tryd.pinned (.plain (OpenSpec.ofChange checkBackSpec)) checkBackCard

/-- THE SECOND FORM's CARD OF 'lyceumlaw02.CheckTells'. -/
def checkTellsUptoCard : Claim7 := { stood := { row := checkTellsUptoRow, standIns := [], harness := (true, "d0e6de97d714ef26889a441f92b3f6bed6ab813672c181127d098c2dee9bca8b"), looks := true }, kinds := [], alts := [], laidByText := true, laidKinds := [.handle], laidTests := true, laidLooks := .later }
def CheckTellsUptoCardSaid : Prop := Claim7.holds Tryd.pinned (.plain (OpenSpec.upto checkTellsSpec)) checkTellsUptoCard

/-- THE SECOND FORM's CARD OF 'lyceumlaw02.CheckFinds'. -/
def checkFindsUptoCard : Claim7 := { stood := { row := checkFindsUptoRow, standIns := [], harness := (true, "d0e6de97d714ef26889a441f92b3f6bed6ab813672c181127d098c2dee9bca8b"), looks := true }, kinds := [], alts := [], laidByText := true, laidKinds := [.handle], laidTests := true, laidLooks := .later }
def CheckFindsUptoCardSaid : Prop := Claim7.holds Tryd.pinned (.plain (OpenSpec.upto checkFindsSpec)) checkFindsUptoCard

/-- THE SECOND FORM's CARD OF 'lyceumlaw02.CheckBack'. -/
def checkBackUptoCard : Claim7 := { stood := { row := checkBackUptoRow, standIns := [], harness := (true, "d0e6de97d714ef26889a441f92b3f6bed6ab813672c181127d098c2dee9bca8b"), looks := true }, kinds := [], alts := [], laidByText := true, laidKinds := [.handle], laidTests := true, laidLooks := .later }
def CheckBackUptoCardSaid : Prop := Claim7.holds Tryd.pinned (.plain (OpenSpec.upto checkBackSpec)) checkBackUptoCard
end Rows
end Go.Proofs.YtnbabfggndgfiaaDoor
