/-
  DERIVED. GIVEN WITH THE SEED: THE CARDS: each row of YthcagbplolcbpaaDoorRows.lean that lists a variable, with what it lists TIED to the program's text (the seventh form; the later family's looks); each row that meets fmt, with fmt's text TOLD by the authors' own Lean function (tested against real Go, not proved from fmt's source: count such statements apart). THE CARD IS WHAT COUNTS. Prove the row's statement (the work); the ties are given (YthcagbplolcbpaaDoorTie.lean); close each card by the builder's one call (the guide's Derived/Test/ToyasCard.lean, 'card_holds'). Laid BY PROGRAM, IN A SANDBOX (cutbox-door.mjs). By AI agents, Wed Nov 11 2026. No macro, syntax, notation, axiom, sorry.
-/
import Derived.Test.YthcagbplolcbpaaDoorRows
import GoSem.ClaimSeven
namespace Go.Proofs.YthcagbplolcbpaaDoor
namespace Rows

/-- THE TIED CARD OF 'warmpathlaw03.TokenSpaces'. -/
def tokenSpacesCard : Claim7 := { stood := { row := tokenSpacesRow, standIns := [], harness := (true, "62c0e0e96b186542d320bd5fe24d4da4f1519c46bb236dad17c4b7e9d6b54aa8"), looks := true }, kinds := [], alts := [], laidByText := true, laidKinds := [.data, .data, .data, .sentinel, .sentinel], laidTests := true, laidLooks := .later }
def TokenSpacesCardSaid : Prop := Claim7.holds Tryd.pinned (.plain (OpenSpec.ofChange tokenSpacesSpec)) tokenSpacesCard

/-- THE TIED CARD OF 'warmpathlaw03.TokenLimits'. -/
def tokenLimitsCard : Claim7 := { stood := { row := tokenLimitsRow, standIns := [], harness := (true, "62c0e0e96b186542d320bd5fe24d4da4f1519c46bb236dad17c4b7e9d6b54aa8"), looks := true }, kinds := [], alts := [], laidByText := true, laidKinds := [.data, .data, .data, .sentinel, .sentinel], laidTests := true, laidLooks := .later }
def TokenLimitsCardSaid : Prop := Claim7.holds Tryd.pinned (.plain (OpenSpec.ofChange tokenLimitsSpec)) tokenLimitsCard

/-- THE TIED CARD OF 'warmpathlaw03.TokenScans'. -/
def tokenScansCard : Claim7 := { stood := { row := tokenScansRow, standIns := [], harness := (true, "62c0e0e96b186542d320bd5fe24d4da4f1519c46bb236dad17c4b7e9d6b54aa8"), looks := true }, kinds := [], alts := [], laidByText := true, laidKinds := [.data, .data, .data, .sentinel, .sentinel], laidTests := true, laidLooks := .later }
def TokenScansCardSaid : Prop := Claim7.holds Tryd.pinned (.plain (OpenSpec.ofChange tokenScansSpec)) tokenScansCard

/-- THE TIED CARD OF 'warmpathlaw03.TokenBack'. -/
def tokenBackCard : Claim7 := { stood := { row := tokenBackRow, standIns := [], harness := (true, "62c0e0e96b186542d320bd5fe24d4da4f1519c46bb236dad17c4b7e9d6b54aa8"), looks := true }, kinds := [], alts := [], laidByText := true, laidKinds := [.data, .data, .data, .sentinel, .sentinel], laidTests := true, laidLooks := .later }
def TokenBackCardSaid : Prop := Claim7.holds Tryd.pinned (.plain (OpenSpec.ofChange tokenBackSpec)) tokenBackCard

/-- THE SECOND FORM's CARD OF 'warmpathlaw03.TokenSpaces'. -/
def tokenSpacesUptoCard : Claim7 := { stood := { row := tokenSpacesUptoRow, standIns := [], harness := (true, "62c0e0e96b186542d320bd5fe24d4da4f1519c46bb236dad17c4b7e9d6b54aa8"), looks := true }, kinds := [], alts := [], laidByText := true, laidKinds := [.data, .data, .data, .sentinel, .sentinel], laidTests := true, laidLooks := .later }
def TokenSpacesUptoCardSaid : Prop := Claim7.holds Tryd.pinned (.plain (OpenSpec.upto tokenSpacesSpec)) tokenSpacesUptoCard

/-- THE SECOND FORM's CARD OF 'warmpathlaw03.TokenLimits'. -/
def tokenLimitsUptoCard : Claim7 := { stood := { row := tokenLimitsUptoRow, standIns := [], harness := (true, "62c0e0e96b186542d320bd5fe24d4da4f1519c46bb236dad17c4b7e9d6b54aa8"), looks := true }, kinds := [], alts := [], laidByText := true, laidKinds := [.data, .data, .data, .sentinel, .sentinel], laidTests := true, laidLooks := .later }
def TokenLimitsUptoCardSaid : Prop := Claim7.holds Tryd.pinned (.plain (OpenSpec.upto tokenLimitsSpec)) tokenLimitsUptoCard

/-- THE SECOND FORM's CARD OF 'warmpathlaw03.TokenScans'. -/
def tokenScansUptoCard : Claim7 := { stood := { row := tokenScansUptoRow, standIns := [], harness := (true, "62c0e0e96b186542d320bd5fe24d4da4f1519c46bb236dad17c4b7e9d6b54aa8"), looks := true }, kinds := [], alts := [], laidByText := true, laidKinds := [.data, .data, .data, .sentinel, .sentinel], laidTests := true, laidLooks := .later }
def TokenScansUptoCardSaid : Prop := Claim7.holds Tryd.pinned (.plain (OpenSpec.upto tokenScansSpec)) tokenScansUptoCard

/-- THE SECOND FORM's CARD OF 'warmpathlaw03.TokenBack'. -/
def tokenBackUptoCard : Claim7 := { stood := { row := tokenBackUptoRow, standIns := [], harness := (true, "62c0e0e96b186542d320bd5fe24d4da4f1519c46bb236dad17c4b7e9d6b54aa8"), looks := true }, kinds := [], alts := [], laidByText := true, laidKinds := [.data, .data, .data, .sentinel, .sentinel], laidTests := true, laidLooks := .later }
def TokenBackUptoCardSaid : Prop := Claim7.holds Tryd.pinned (.plain (OpenSpec.upto tokenBackSpec)) tokenBackUptoCard
end Rows
end Go.Proofs.YthcagbplolcbpaaDoor
