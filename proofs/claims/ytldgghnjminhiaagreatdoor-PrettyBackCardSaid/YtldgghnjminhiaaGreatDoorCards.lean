/-
  DERIVED. GIVEN WITH THE SEED: THE CARDS: each row of YtldgghnjminhiaaGreatDoorRows.lean that lists a variable, with what it lists TIED to the program's text (the seventh form; the later family's looks); each row that meets fmt, with fmt's text TOLD by the authors' own Lean function (tested against real Go, not proved from fmt's source: count such statements apart). THE CARD IS WHAT COUNTS. Prove the row's statement (the work); the ties are given (YtldgghnjminhiaaGreatDoorTie.lean); close each card by the builder's one call (the guide's Derived/Test/ToyasCard.lean, 'card_holds'). Laid BY PROGRAM, IN A SANDBOX (cutbox-door.mjs). By AI agents, Wed Nov 11 2026. No macro, syntax, notation, axiom, sorry.
-/
import Derived.Test.YtldgghnjminhiaaGreatDoorRows
import GoSem.ClaimSeven
namespace Go.Proofs.YtldgghnjminhiaaGreatDoor
namespace Rows

/-- THE TIED CARD OF 'warmpathlaw05.PrettyWrites'. -/
def prettyWritesCard : Claim7 := { stood := { row := prettyWritesRow, standIns := [], harness := (true, "a3db093cac5306058e55fb603508202bee0051a466cb6eb0cc1b6b1f729ed927"), looks := true }, kinds := [], alts := [], laidByText := true, laidKinds := [.data, .data, .data], laidTests := true, laidLooks := .later }
def PrettyWritesCardSaid : Prop := Claim7.holds Tryz.pinned (.plain (OpenSpec.ofChange prettyWritesSpec)) prettyWritesCard

/-- THE TIED CARD OF 'warmpathlaw05.PrettyExpressions'. -/
def prettyExpressionsCard : Claim7 := { stood := { row := prettyExpressionsRow, standIns := [], harness := (true, "a3db093cac5306058e55fb603508202bee0051a466cb6eb0cc1b6b1f729ed927"), looks := true }, kinds := [], alts := [], laidByText := true, laidKinds := [.data, .data, .data, .sentinel, .sentinel], laidTests := true, laidLooks := .later }
def PrettyExpressionsCardSaid : Prop := Claim7.holds Tryz.pinned (.plain (OpenSpec.ofChange prettyExpressionsSpec)) prettyExpressionsCard

/-- THE TIED CARD OF 'warmpathlaw04.SyntaxParses'. -/
def syntaxParsesCard : Claim7 := { stood := { row := syntaxParsesRow, standIns := [], harness := (true, "a3db093cac5306058e55fb603508202bee0051a466cb6eb0cc1b6b1f729ed927"), looks := true }, kinds := [], alts := [], laidByText := true, laidKinds := [.data, .data, .data, .sentinel, .sentinel], laidTests := true, laidLooks := .later }
def SyntaxParsesCardSaid : Prop := Claim7.holds Tryz.pinned (.plain (OpenSpec.ofChange syntaxParsesSpec)) syntaxParsesCard

/-- THE TIED CARD OF 'warmpathlaw06.CheckLimits'. -/
def checkLimitsCard : Claim7 := { stood := { row := checkLimitsRow, standIns := [], harness := (true, "a3db093cac5306058e55fb603508202bee0051a466cb6eb0cc1b6b1f729ed927"), looks := true }, kinds := [], alts := [], laidByText := true, laidKinds := [.data, .data, .data, .sentinel, .sentinel], laidTests := true, laidLooks := .later }
def CheckLimitsCardSaid : Prop := Claim7.holds Tryz.pinned (.plain (OpenSpec.ofChange checkLimitsSpec)) checkLimitsCard

/-- THE TIED CARD OF 'warmpathlaw05.PrettyBack'. -/
def prettyBackCard : Claim7 := { stood := { row := prettyBackRow, standIns := [], harness := (true, "a3db093cac5306058e55fb603508202bee0051a466cb6eb0cc1b6b1f729ed927"), looks := true }, kinds := [], alts := [], laidByText := true, laidKinds := [.data, .data, .data, .sentinel, .sentinel], laidTests := true, laidLooks := .later }
def PrettyBackCardSaid : Prop := Claim7.holds Tryz.pinned (.plain (OpenSpec.ofChange prettyBackSpec)) prettyBackCard

/-- THE TIED CARD OF 'warmpathlaw05.PrettySame'. -/
def prettySameCard : Claim7 := { stood := { row := prettySameRow, standIns := [], harness := (true, "a3db093cac5306058e55fb603508202bee0051a466cb6eb0cc1b6b1f729ed927"), looks := true }, kinds := [], alts := [], laidByText := true, laidKinds := [.data, .data, .data, .sentinel, .sentinel], laidTests := true, laidLooks := .later }
def PrettySameCardSaid : Prop := Claim7.holds Tryz.pinned (.plain (OpenSpec.ofChange prettySameSpec)) prettySameCard

/-- THE SECOND FORM's CARD OF 'warmpathlaw05.PrettyWrites'. -/
def prettyWritesUptoCard : Claim7 := { stood := { row := prettyWritesUptoRow, standIns := [], harness := (true, "a3db093cac5306058e55fb603508202bee0051a466cb6eb0cc1b6b1f729ed927"), looks := true }, kinds := [], alts := [], laidByText := true, laidKinds := [.data, .data, .data], laidTests := true, laidLooks := .later }
def PrettyWritesUptoCardSaid : Prop := Claim7.holds Tryz.pinned (.plain (OpenSpec.upto prettyWritesSpec)) prettyWritesUptoCard

/-- THE SECOND FORM's CARD OF 'warmpathlaw05.PrettyExpressions'. -/
def prettyExpressionsUptoCard : Claim7 := { stood := { row := prettyExpressionsUptoRow, standIns := [], harness := (true, "a3db093cac5306058e55fb603508202bee0051a466cb6eb0cc1b6b1f729ed927"), looks := true }, kinds := [], alts := [], laidByText := true, laidKinds := [.data, .data, .data, .sentinel, .sentinel], laidTests := true, laidLooks := .later }
def PrettyExpressionsUptoCardSaid : Prop := Claim7.holds Tryz.pinned (.plain (OpenSpec.upto prettyExpressionsSpec)) prettyExpressionsUptoCard

/-- THE SECOND FORM's CARD OF 'warmpathlaw04.SyntaxParses'. -/
def syntaxParsesUptoCard : Claim7 := { stood := { row := syntaxParsesUptoRow, standIns := [], harness := (true, "a3db093cac5306058e55fb603508202bee0051a466cb6eb0cc1b6b1f729ed927"), looks := true }, kinds := [], alts := [], laidByText := true, laidKinds := [.data, .data, .data, .sentinel, .sentinel], laidTests := true, laidLooks := .later }
def SyntaxParsesUptoCardSaid : Prop := Claim7.holds Tryz.pinned (.plain (OpenSpec.upto syntaxParsesSpec)) syntaxParsesUptoCard

/-- THE SECOND FORM's CARD OF 'warmpathlaw06.CheckLimits'. -/
def checkLimitsUptoCard : Claim7 := { stood := { row := checkLimitsUptoRow, standIns := [], harness := (true, "a3db093cac5306058e55fb603508202bee0051a466cb6eb0cc1b6b1f729ed927"), looks := true }, kinds := [], alts := [], laidByText := true, laidKinds := [.data, .data, .data, .sentinel, .sentinel], laidTests := true, laidLooks := .later }
def CheckLimitsUptoCardSaid : Prop := Claim7.holds Tryz.pinned (.plain (OpenSpec.upto checkLimitsSpec)) checkLimitsUptoCard

/-- THE SECOND FORM's CARD OF 'warmpathlaw05.PrettyBack'. -/
def prettyBackUptoCard : Claim7 := { stood := { row := prettyBackUptoRow, standIns := [], harness := (true, "a3db093cac5306058e55fb603508202bee0051a466cb6eb0cc1b6b1f729ed927"), looks := true }, kinds := [], alts := [], laidByText := true, laidKinds := [.data, .data, .data, .sentinel, .sentinel], laidTests := true, laidLooks := .later }
def PrettyBackUptoCardSaid : Prop := Claim7.holds Tryz.pinned (.plain (OpenSpec.upto prettyBackSpec)) prettyBackUptoCard

/-- THE SECOND FORM's CARD OF 'warmpathlaw05.PrettySame'. -/
def prettySameUptoCard : Claim7 := { stood := { row := prettySameUptoRow, standIns := [], harness := (true, "a3db093cac5306058e55fb603508202bee0051a466cb6eb0cc1b6b1f729ed927"), looks := true }, kinds := [], alts := [], laidByText := true, laidKinds := [.data, .data, .data, .sentinel, .sentinel], laidTests := true, laidLooks := .later }
def PrettySameUptoCardSaid : Prop := Claim7.holds Tryz.pinned (.plain (OpenSpec.upto prettySameSpec)) prettySameUptoCard
end Rows
end Go.Proofs.YtldgghnjminhiaaGreatDoor
