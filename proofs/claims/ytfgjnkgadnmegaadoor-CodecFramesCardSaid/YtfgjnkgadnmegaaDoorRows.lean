/-
  NARROWER THAN 'FOR EVERY INPUT', by the rows' own cells (each row's printed sentence says how): CodecNumbers: laid · CodecBack: laid · CodecFrames: laid · CodecDamage: laid.
  DERIVED. THE GIVEN ROWS OF THIS SEAT. 4 by the template 'for every input the law returns true; each argument reads behind the call as it read before'; 0 by the template 'total and deterministic' (their statements: YtfgjnkgadnmegaaDoorTotals.lean).
  GIVEN WITH THE SEED: the statements are not yours to turn. If you find one false, say at which input.
  Laid BY PROGRAM, IN A SANDBOX (cutbox-rows.mjs): the forced cells as the released guide's own fill.sh prints them over the translation 7351d0bbe6a5a01a… (all of the seat's roots in one cut). By AI agents, Wed Nov 11 2026. No macro, syntax, notation, axiom, sorry.
-/
import Derived.Test.YtfgjnkgadnmegaaDoorChecked
import GoSem.Claim
import GoSem.ClaimJoined
import GoSem.ClaimMapViews
import Derived.JoinedTies
import Derived.KernelRfl
namespace Go.Proofs.YtfgjnkgadnmegaaDoor
/- THE CELL 'sum', in the pinned program and in every row, IS THE sha256 OF THE DUMP (.gsa) THAT YtfgjnkgadnmegaaDoorProg.lean LOADS. Nothing in Lean hashes anything: it is a label: what it is worth is what the hold of that sum in a sandbox is worth. -/
noncomputable def Tryd.pinned : Pinned := { name := "ytfgjnkgadnmegaadoor", sum := "7351d0bbe6a5a01ae83e4445f4df31ad1a68ec14ce950fb7dc7e92e25f26c2c2", checked := Tryd.checked }
namespace Rows
def none {H : Type} : Left H := { results := [], args := [] }

/- WHAT THE LISTED PACKAGE-LEVEL VARIABLES READ AS WHEN THE CALL BEGINS. Each datum BY PROGRAM (the guide's laid-datum.mjs) off the statement by which the dump's own 'gosem.cut.vars' lays the variable. In a bare row this is a premise. The card (YtfgjnkgadnmegaaDoorCards.lean) ties it to the program's text. -/
def laid_warmpath_codec_remainders {H : Type} : DataW H := .agg [.lit (.int .u32 0), .lit (.int .u32 498536548), .lit (.int .u32 997073096), .lit (.int .u32 651767980), .lit (.int .u32 1994146192), .lit (.int .u32 1802195444), .lit (.int .u32 1303535960), .lit (.int .u32 1342533948), .lit (.int .u32 3988292384), .lit (.int .u32 4027552580), .lit (.int .u32 3604390888), .lit (.int .u32 3412177804), .lit (.int .u32 2607071920), .lit (.int .u32 2262029012), .lit (.int .u32 2685067896), .lit (.int .u32 3183342108)]

/-- 'warmpathlaw01.CodecNumbers': WHATEVER THE INPUT: true; the input reads as it did. -/
def codecNumbersSpec : ChangeSpec := { name := "codecNumbers", fn := fun _ => fun
  | [d1, d2, d3, d4] => { results := [.lit (.bool true)], args := [d1, d2, d3, d4] }
  | _ => none }
def codecNumbersRow : OpenClaim := { program := "ytfgjnkgadnmegaadoor", sum := "7351d0bbe6a5a01ae83e4445f4df31ad1a68ec14ce950fb7dc7e92e25f26c2c2", func := "warmpath/warmpathlaw01.CodecNumbers", spec := "codecNumbers", recurses := true, named := ["warmpath/codec.remainders"], apart := false, laid := [("warmpath/codec.remainders", laid_warmpath_codec_remainders)] }
def CodecNumbersSaid : Prop := codecNumbersRow.holds Tryd.pinned (OpenSpec.ofChange codecNumbersSpec)

/-- ITS FALSE NEIGHBOUR: 'it returns false'. Refute it at one input. -/
def codecNumbersWrong : ChangeSpec := { name := "codecNumbers", fn := fun _ => fun
  | [d1, d2, d3, d4] => { results := [.lit (.bool false)], args := [d1, d2, d3, d4] }
  | _ => none }
def CodecNumbersWrongFalsely : Prop := codecNumbersRow.holds Tryd.pinned (OpenSpec.ofChange codecNumbersWrong)

/-- 'warmpathlaw01.CodecBack': WHATEVER THE INPUT: true; the input reads as it did. -/
def codecBackSpec : ChangeSpec := { name := "codecBack", fn := fun _ => fun
  | [d1, d2, d3, d4] => { results := [.lit (.bool true)], args := [d1, d2, d3, d4] }
  | _ => none }
def codecBackRow : OpenClaim := { program := "ytfgjnkgadnmegaadoor", sum := "7351d0bbe6a5a01ae83e4445f4df31ad1a68ec14ce950fb7dc7e92e25f26c2c2", func := "warmpath/warmpathlaw01.CodecBack", spec := "codecBack", named := ["warmpath/codec.remainders"], apart := false, laid := [("warmpath/codec.remainders", laid_warmpath_codec_remainders)] }
def CodecBackSaid : Prop := codecBackRow.holds Tryd.pinned (OpenSpec.ofChange codecBackSpec)

/-- ITS FALSE NEIGHBOUR: 'it returns false'. Refute it at one input. -/
def codecBackWrong : ChangeSpec := { name := "codecBack", fn := fun _ => fun
  | [d1, d2, d3, d4] => { results := [.lit (.bool false)], args := [d1, d2, d3, d4] }
  | _ => none }
def CodecBackWrongFalsely : Prop := codecBackRow.holds Tryd.pinned (OpenSpec.ofChange codecBackWrong)

/-- 'warmpathlaw01.CodecFrames': WHATEVER THE INPUT: true; the input reads as it did. -/
def codecFramesSpec : ChangeSpec := { name := "codecFrames", fn := fun _ => fun
  | [d1, d2, d3, d4] => { results := [.lit (.bool true)], args := [d1, d2, d3, d4] }
  | _ => none }
def codecFramesRow : OpenClaim := { program := "ytfgjnkgadnmegaadoor", sum := "7351d0bbe6a5a01ae83e4445f4df31ad1a68ec14ce950fb7dc7e92e25f26c2c2", func := "warmpath/warmpathlaw01.CodecFrames", spec := "codecFrames", recurses := true, named := ["warmpath/codec.remainders"], apart := false, laid := [("warmpath/codec.remainders", laid_warmpath_codec_remainders)] }
def CodecFramesSaid : Prop := codecFramesRow.holds Tryd.pinned (OpenSpec.ofChange codecFramesSpec)

/-- ITS FALSE NEIGHBOUR: 'it returns false'. Refute it at one input. -/
def codecFramesWrong : ChangeSpec := { name := "codecFrames", fn := fun _ => fun
  | [d1, d2, d3, d4] => { results := [.lit (.bool false)], args := [d1, d2, d3, d4] }
  | _ => none }
def CodecFramesWrongFalsely : Prop := codecFramesRow.holds Tryd.pinned (OpenSpec.ofChange codecFramesWrong)

/-- 'warmpathlaw01.CodecDamage': WHATEVER THE INPUT: true; the input reads as it did. -/
def codecDamageSpec : ChangeSpec := { name := "codecDamage", fn := fun _ => fun
  | [d1, d2, d3] => { results := [.lit (.bool true)], args := [d1, d2, d3] }
  | _ => none }
def codecDamageRow : OpenClaim := { program := "ytfgjnkgadnmegaadoor", sum := "7351d0bbe6a5a01ae83e4445f4df31ad1a68ec14ce950fb7dc7e92e25f26c2c2", func := "warmpath/warmpathlaw01.CodecDamage", spec := "codecDamage", named := ["warmpath/codec.remainders"], apart := false, laid := [("warmpath/codec.remainders", laid_warmpath_codec_remainders)] }
def CodecDamageSaid : Prop := codecDamageRow.holds Tryd.pinned (OpenSpec.ofChange codecDamageSpec)

/-- ITS FALSE NEIGHBOUR: 'it returns false'. Refute it at one input. -/
def codecDamageWrong : ChangeSpec := { name := "codecDamage", fn := fun _ => fun
  | [d1, d2, d3] => { results := [.lit (.bool false)], args := [d1, d2, d3] }
  | _ => none }
def CodecDamageWrongFalsely : Prop := codecDamageRow.holds Tryd.pinned (OpenSpec.ofChange codecDamageWrong)

/- THE SECOND FORM. 'bulk': how many values and letters a reading holds, each counted each time it is reached (what is shared counts as often as it is met; a slice's spare places count too). A statement '..UptoSaid' is the law's where the arguments, and the package variables that the reading takes, are together of bulk at most 1048576: NARROWER than '..Said'. Prove '..Said' where nothing that the law and all that it calls make is longer than what came in: it says more and counts as full. Else prove '..UptoSaid'. A law counts once. -/
mutual
def uptoBulk {H : Type} : DataW H → Nat
  | .lit (.string bytes) => bytes.length + 1
  | .lit _ => 1
  | .nil => 1
  | .ptr d => uptoBulk d + 1
  | .slice elems spare => uptoBulkAll elems + uptoBulkAll spare + 1
  | .agg parts => uptoBulkAll parts + 1
  | .iface _ d => uptoBulk d + 1
  | .map entries => uptoBulkEntries entries + 1
  | .held _ => 1
def uptoBulkAll {H : Type} : List (DataW H) → Nat
  | [] => 0
  | d :: r => uptoBulk d + uptoBulkAll r
def uptoBulkEntries {H : Type} : List (Lit × DataW H) → Nat
  | [] => 0
  | x :: r => uptoBulkEntry x + uptoBulkEntries r
def uptoBulkEntry {H : Type} : Lit × DataW H → Nat
  | (.string bytes, d) => bytes.length + uptoBulk d + 1
  | (_, d) => uptoBulk d + 1
 end
def uptoSmall : (H : Type) → List (DataW H) → Bool := fun _ ds => decide (uptoBulkAll ds ≤ 1048576)
def OpenSpec.upto (s : _root_.Go.ChangeSpec) : _root_.Go.OpenSpec := { _root_.Go.OpenSpec.ofChange s with cond := some uptoSmall }

/-- 'warmpathlaw01.CodecNumbers', WHERE WHAT IT READS IS OF BULK AT MOST 1048576: true; the input reads as it did. -/
def codecNumbersUptoRow : OpenClaim := { program := "ytfgjnkgadnmegaadoor", sum := "7351d0bbe6a5a01ae83e4445f4df31ad1a68ec14ce950fb7dc7e92e25f26c2c2", func := "warmpath/warmpathlaw01.CodecNumbers", spec := "codecNumbers", recurses := true, named := ["warmpath/codec.remainders"], apart := false, laid := [("warmpath/codec.remainders", laid_warmpath_codec_remainders)], narrowed := true }
def CodecNumbersUptoSaid : Prop := codecNumbersUptoRow.holds Tryd.pinned (OpenSpec.upto codecNumbersSpec)

/-- 'warmpathlaw01.CodecBack', WHERE WHAT IT READS IS OF BULK AT MOST 1048576: true; the input reads as it did. -/
def codecBackUptoRow : OpenClaim := { program := "ytfgjnkgadnmegaadoor", sum := "7351d0bbe6a5a01ae83e4445f4df31ad1a68ec14ce950fb7dc7e92e25f26c2c2", func := "warmpath/warmpathlaw01.CodecBack", spec := "codecBack", named := ["warmpath/codec.remainders"], apart := false, laid := [("warmpath/codec.remainders", laid_warmpath_codec_remainders)], narrowed := true }
def CodecBackUptoSaid : Prop := codecBackUptoRow.holds Tryd.pinned (OpenSpec.upto codecBackSpec)

/-- 'warmpathlaw01.CodecFrames', WHERE WHAT IT READS IS OF BULK AT MOST 1048576: true; the input reads as it did. -/
def codecFramesUptoRow : OpenClaim := { program := "ytfgjnkgadnmegaadoor", sum := "7351d0bbe6a5a01ae83e4445f4df31ad1a68ec14ce950fb7dc7e92e25f26c2c2", func := "warmpath/warmpathlaw01.CodecFrames", spec := "codecFrames", recurses := true, named := ["warmpath/codec.remainders"], apart := false, laid := [("warmpath/codec.remainders", laid_warmpath_codec_remainders)], narrowed := true }
def CodecFramesUptoSaid : Prop := codecFramesUptoRow.holds Tryd.pinned (OpenSpec.upto codecFramesSpec)

/-- 'warmpathlaw01.CodecDamage', WHERE WHAT IT READS IS OF BULK AT MOST 1048576: true; the input reads as it did. -/
def codecDamageUptoRow : OpenClaim := { program := "ytfgjnkgadnmegaadoor", sum := "7351d0bbe6a5a01ae83e4445f4df31ad1a68ec14ce950fb7dc7e92e25f26c2c2", func := "warmpath/warmpathlaw01.CodecDamage", spec := "codecDamage", named := ["warmpath/codec.remainders"], apart := false, laid := [("warmpath/codec.remainders", laid_warmpath_codec_remainders)], narrowed := true }
def CodecDamageUptoSaid : Prop := codecDamageUptoRow.holds Tryd.pinned (OpenSpec.upto codecDamageSpec)

end Rows
end Go.Proofs.YtfgjnkgadnmegaaDoor
