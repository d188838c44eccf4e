/-
  DERIVED. GIVEN WITH THE SEED: THE CARDS: each row of YtfgjnkgadnmegaaDoorRows.lean that lists a variable, with what it lists TIED to the program's text (the seventh form; the later family's looks); each row that meets fmt, with fmt's text TOLD by the authors' own Lean function (tested against real Go, not proved from fmt's source: count such statements apart). THE CARD IS WHAT COUNTS. Prove the row's statement (the work); the ties are given (YtfgjnkgadnmegaaDoorTie.lean); close each card by the builder's one call (the guide's Derived/Test/ToyasCard.lean, 'card_holds'). Laid BY PROGRAM, IN A SANDBOX (cutbox-door.mjs). By AI agents, Wed Nov 11 2026. No macro, syntax, notation, axiom, sorry.
-/
import Derived.Test.YtfgjnkgadnmegaaDoorRows
import GoSem.ClaimSeven
namespace Go.Proofs.YtfgjnkgadnmegaaDoor
namespace Rows

/-- THE TIED CARD OF 'warmpathlaw01.CodecNumbers'. -/
def codecNumbersCard : Claim7 := { stood := { row := codecNumbersRow, standIns := [], harness := (true, "61aeac0dd48ce8b2014925adcdba2620fba36b42f97a5ce8af2eb1bcb5960bdd"), looks := false }, kinds := [], alts := [], laidByText := true, laidKinds := [.data], laidTests := true, laidLooks := .later }
def CodecNumbersCardSaid : Prop := Claim7.holds Tryd.pinned (.plain (OpenSpec.ofChange codecNumbersSpec)) codecNumbersCard

/-- THE TIED CARD OF 'warmpathlaw01.CodecBack'. -/
def codecBackCard : Claim7 := { stood := { row := codecBackRow, standIns := [], harness := (true, "61aeac0dd48ce8b2014925adcdba2620fba36b42f97a5ce8af2eb1bcb5960bdd"), looks := false }, kinds := [], alts := [], laidByText := true, laidKinds := [.data], laidTests := true, laidLooks := .later }
def CodecBackCardSaid : Prop := Claim7.holds Tryd.pinned (.plain (OpenSpec.ofChange codecBackSpec)) codecBackCard

/-- THE TIED CARD OF 'warmpathlaw01.CodecFrames'. -/
def codecFramesCard : Claim7 := { stood := { row := codecFramesRow, standIns := [], harness := (true, "61aeac0dd48ce8b2014925adcdba2620fba36b42f97a5ce8af2eb1bcb5960bdd"), looks := false }, kinds := [], alts := [], laidByText := true, laidKinds := [.data], laidTests := true, laidLooks := .later }
def CodecFramesCardSaid : Prop := Claim7.holds Tryd.pinned (.plain (OpenSpec.ofChange codecFramesSpec)) codecFramesCard

/-- THE TIED CARD OF 'warmpathlaw01.CodecDamage'. -/
def codecDamageCard : Claim7 := { stood := { row := codecDamageRow, standIns := [], harness := (true, "61aeac0dd48ce8b2014925adcdba2620fba36b42f97a5ce8af2eb1bcb5960bdd"), looks := false }, kinds := [], alts := [], laidByText := true, laidKinds := [.data], laidTests := true, laidLooks := .later }
def CodecDamageCardSaid : Prop := Claim7.holds Tryd.pinned (.plain (OpenSpec.ofChange codecDamageSpec)) codecDamageCard

/-- THE SECOND FORM's CARD OF 'warmpathlaw01.CodecNumbers'. -/
def codecNumbersUptoCard : Claim7 := { stood := { row := codecNumbersUptoRow, standIns := [], harness := (true, "61aeac0dd48ce8b2014925adcdba2620fba36b42f97a5ce8af2eb1bcb5960bdd"), looks := false }, kinds := [], alts := [], laidByText := true, laidKinds := [.data], laidTests := true, laidLooks := .later }
def CodecNumbersUptoCardSaid : Prop := Claim7.holds Tryd.pinned (.plain (OpenSpec.upto codecNumbersSpec)) codecNumbersUptoCard

/-- THE SECOND FORM's CARD OF 'warmpathlaw01.CodecBack'. -/
def codecBackUptoCard : Claim7 := { stood := { row := codecBackUptoRow, standIns := [], harness := (true, "61aeac0dd48ce8b2014925adcdba2620fba36b42f97a5ce8af2eb1bcb5960bdd"), looks := false }, kinds := [], alts := [], laidByText := true, laidKinds := [.data], laidTests := true, laidLooks := .later }
def CodecBackUptoCardSaid : Prop := Claim7.holds Tryd.pinned (.plain (OpenSpec.upto codecBackSpec)) codecBackUptoCard

/-- THE SECOND FORM's CARD OF 'warmpathlaw01.CodecFrames'. -/
def codecFramesUptoCard : Claim7 := { stood := { row := codecFramesUptoRow, standIns := [], harness := (true, "61aeac0dd48ce8b2014925adcdba2620fba36b42f97a5ce8af2eb1bcb5960bdd"), looks := false }, kinds := [], alts := [], laidByText := true, laidKinds := [.data], laidTests := true, laidLooks := .later }
def CodecFramesUptoCardSaid : Prop := Claim7.holds Tryd.pinned (.plain (OpenSpec.upto codecFramesSpec)) codecFramesUptoCard

/-- THE SECOND FORM's CARD OF 'warmpathlaw01.CodecDamage'. -/
def codecDamageUptoCard : Claim7 := { stood := { row := codecDamageUptoRow, standIns := [], harness := (true, "61aeac0dd48ce8b2014925adcdba2620fba36b42f97a5ce8af2eb1bcb5960bdd"), looks := false }, kinds := [], alts := [], laidByText := true, laidKinds := [.data], laidTests := true, laidLooks := .later }
def CodecDamageUptoCardSaid : Prop := Claim7.holds Tryd.pinned (.plain (OpenSpec.upto codecDamageSpec)) codecDamageUptoCard
end Rows
end Go.Proofs.YtfgjnkgadnmegaaDoor
