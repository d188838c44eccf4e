/-
  DERIVED. GIVEN WITH THE SEED: THE CARDS: each row of YtlbjdglgnkajnaaDoorRows.lean that lists a variable, with what it lists TIED to the program's text (the seventh form; the later family's looks); each row that meets fmt, with fmt's text TOLD by the authors' own Lean function (tested against real Go, not proved from fmt's source: count such statements apart). THE CARD IS WHAT COUNTS. Prove the row's statement (the work); the ties are given (YtlbjdglgnkajnaaDoorTie.lean); close each card by the builder's one call (the guide's Derived/Test/ToyasCard.lean, 'card_holds'). Laid BY PROGRAM, IN A SANDBOX (cutbox-door.mjs). By AI agents, Wed Nov 11 2026. No macro, syntax, notation, axiom, sorry.
-/
import Derived.Test.YtlbjdglgnkajnaaDoorRows
import GoSem.ClaimSeven
namespace Go.Proofs.YtlbjdglgnkajnaaDoor
namespace Rows

/-- THE TIED CARD OF 'warmpathlaw04.SyntaxExpressions'. -/
def syntaxExpressionsCard : Claim7 := { stood := { row := syntaxExpressionsRow, standIns := [], harness := (true, "21ef6a7ed233932e74bebf88a8fc0b313750c145eb44139f2e9ff4a4e9c85b15"), looks := true }, kinds := [], alts := [], laidByText := true, laidKinds := [.data, .data, .data, .sentinel, .sentinel], laidTests := true, laidLooks := .later }
def SyntaxExpressionsCardSaid : Prop := Claim7.holds Tryd.pinned (.plain (OpenSpec.ofChange syntaxExpressionsSpec)) syntaxExpressionsCard

/-- THE TIED CARD OF 'warmpathlaw04.SyntaxPrecedence'. -/
def syntaxPrecedenceCard : Claim7 := { stood := { row := syntaxPrecedenceRow, standIns := [], harness := (true, "21ef6a7ed233932e74bebf88a8fc0b313750c145eb44139f2e9ff4a4e9c85b15"), looks := true }, kinds := [], alts := [], laidByText := true, laidKinds := [.data, .data, .data, .sentinel, .sentinel], laidTests := true, laidLooks := .later }
def SyntaxPrecedenceCardSaid : Prop := Claim7.holds Tryd.pinned (.plain (OpenSpec.ofChange syntaxPrecedenceSpec)) syntaxPrecedenceCard

/-- THE TIED CARD OF 'warmpathlaw04.SyntaxLayout'. -/
def syntaxLayoutCard : Claim7 := { stood := { row := syntaxLayoutRow, standIns := [], harness := (true, "21ef6a7ed233932e74bebf88a8fc0b313750c145eb44139f2e9ff4a4e9c85b15"), looks := true }, kinds := [], alts := [], laidByText := true, laidKinds := [.data, .data, .data, .sentinel, .sentinel], laidTests := true, laidLooks := .later }
def SyntaxLayoutCardSaid : Prop := Claim7.holds Tryd.pinned (.plain (OpenSpec.ofChange syntaxLayoutSpec)) syntaxLayoutCard

/-- THE SECOND FORM's CARD OF 'warmpathlaw04.SyntaxExpressions'. -/
def syntaxExpressionsUptoCard : Claim7 := { stood := { row := syntaxExpressionsUptoRow, standIns := [], harness := (true, "21ef6a7ed233932e74bebf88a8fc0b313750c145eb44139f2e9ff4a4e9c85b15"), looks := true }, kinds := [], alts := [], laidByText := true, laidKinds := [.data, .data, .data, .sentinel, .sentinel], laidTests := true, laidLooks := .later }
def SyntaxExpressionsUptoCardSaid : Prop := Claim7.holds Tryd.pinned (.plain (OpenSpec.upto syntaxExpressionsSpec)) syntaxExpressionsUptoCard

/-- THE SECOND FORM's CARD OF 'warmpathlaw04.SyntaxPrecedence'. -/
def syntaxPrecedenceUptoCard : Claim7 := { stood := { row := syntaxPrecedenceUptoRow, standIns := [], harness := (true, "21ef6a7ed233932e74bebf88a8fc0b313750c145eb44139f2e9ff4a4e9c85b15"), looks := true }, kinds := [], alts := [], laidByText := true, laidKinds := [.data, .data, .data, .sentinel, .sentinel], laidTests := true, laidLooks := .later }
def SyntaxPrecedenceUptoCardSaid : Prop := Claim7.holds Tryd.pinned (.plain (OpenSpec.upto syntaxPrecedenceSpec)) syntaxPrecedenceUptoCard

/-- THE SECOND FORM's CARD OF 'warmpathlaw04.SyntaxLayout'. -/
def syntaxLayoutUptoCard : Claim7 := { stood := { row := syntaxLayoutUptoRow, standIns := [], harness := (true, "21ef6a7ed233932e74bebf88a8fc0b313750c145eb44139f2e9ff4a4e9c85b15"), looks := true }, kinds := [], alts := [], laidByText := true, laidKinds := [.data, .data, .data, .sentinel, .sentinel], laidTests := true, laidLooks := .later }
def SyntaxLayoutUptoCardSaid : Prop := Claim7.holds Tryd.pinned (.plain (OpenSpec.upto syntaxLayoutSpec)) syntaxLayoutUptoCard
end Rows
end Go.Proofs.YtlbjdglgnkajnaaDoor
