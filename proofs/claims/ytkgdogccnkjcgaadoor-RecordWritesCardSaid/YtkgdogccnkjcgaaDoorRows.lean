/-
  NARROWER THAN 'FOR EVERY INPUT', by the rows' own cells (each row's printed sentence says how): RecordDamage: laid · RecordWrites: laid · RecordBack: laid · RecordCuts: laid · RecordLimits: laid.
  DERIVED. THE GIVEN ROWS OF THIS SEAT. 5 by the template 'for every input the law returns true; each argument reads behind the call as it read before'; 0 by the template 'total and deterministic' (their statements: YtkgdogccnkjcgaaDoorTotals.lean).
  GIVEN WITH THE SEED: the statements are not yours to turn. If you find one false, say at which input.
  Laid BY PROGRAM, IN A SANDBOX (cutbox-rows.mjs): the forced cells as the released guide's own fill.sh prints them over the translation 14f373b7cfe9c271… (all of the seat's roots in one cut). By AI agents, Wed Nov 11 2026. No macro, syntax, notation, axiom, sorry.
-/
import Derived.Test.YtkgdogccnkjcgaaDoorChecked
import GoSem.Claim
import GoSem.ClaimJoined
import GoSem.ClaimMapViews
import Derived.JoinedTies
import Derived.KernelRfl
namespace Go.Proofs.YtkgdogccnkjcgaaDoor
/- THE CELL 'sum', in the pinned program and in every row, IS THE sha256 OF THE DUMP (.gsa) THAT YtkgdogccnkjcgaaDoorProg.lean LOADS. Nothing in Lean hashes anything: it is a label: what it is worth is what the hold of that sum in a sandbox is worth. -/
noncomputable def Tryd.pinned : Pinned := { name := "ytkgdogccnkjcgaadoor", sum := "14f373b7cfe9c27143ebce92472d915a97bb9f4617d56724a0120517a22d457e", checked := Tryd.checked }
namespace Rows
def none {H : Type} : Left H := { results := [], args := [] }

/- WHAT THE LISTED PACKAGE-LEVEL VARIABLES READ AS WHEN THE CALL BEGINS. Each datum BY PROGRAM (the guide's laid-datum.mjs) off the statement by which the dump's own 'gosem.cut.vars' lays the variable. In a bare row this is a premise. The card (YtkgdogccnkjcgaaDoorCards.lean) ties it to the program's text. -/
def laid_warmpath_codec_remainders {H : Type} : DataW H := .agg [.lit (.int .u32 0), .lit (.int .u32 498536548), .lit (.int .u32 997073096), .lit (.int .u32 651767980), .lit (.int .u32 1994146192), .lit (.int .u32 1802195444), .lit (.int .u32 1303535960), .lit (.int .u32 1342533948), .lit (.int .u32 3988292384), .lit (.int .u32 4027552580), .lit (.int .u32 3604390888), .lit (.int .u32 3412177804), .lit (.int .u32 2607071920), .lit (.int .u32 2262029012), .lit (.int .u32 2685067896), .lit (.int .u32 3183342108)]

/-- 'warmpathlaw22.RecordDamage': WHATEVER THE INPUT: true; the input reads as it did. -/
def recordDamageSpec : ChangeSpec := { name := "recordDamage", fn := fun _ => fun
  | [d1, d2, d3] => { results := [.lit (.bool true)], args := [d1, d2, d3] }
  | _ => none }
def recordDamageRow : OpenClaim := { program := "ytkgdogccnkjcgaadoor", sum := "14f373b7cfe9c27143ebce92472d915a97bb9f4617d56724a0120517a22d457e", func := "warmpath/warmpathlaw22.RecordDamage", spec := "recordDamage", unfollowed := true, recurses := true, named := ["warmpath/codec.remainders"], apart := false, laid := [("warmpath/codec.remainders", laid_warmpath_codec_remainders)] }
def RecordDamageSaid : Prop := recordDamageRow.holds Tryd.pinned (OpenSpec.ofChange recordDamageSpec)

/-- ITS FALSE NEIGHBOUR: 'it returns false'. Refute it at one input. -/
def recordDamageWrong : ChangeSpec := { name := "recordDamage", fn := fun _ => fun
  | [d1, d2, d3] => { results := [.lit (.bool false)], args := [d1, d2, d3] }
  | _ => none }
def RecordDamageWrongFalsely : Prop := recordDamageRow.holds Tryd.pinned (OpenSpec.ofChange recordDamageWrong)

/-- 'warmpathlaw22.RecordWrites': WHATEVER THE INPUT: true; the input reads as it did. -/
def recordWritesSpec : ChangeSpec := { name := "recordWrites", fn := fun _ => fun
  | [d1, d2, d3, d4] => { results := [.lit (.bool true)], args := [d1, d2, d3, d4] }
  | _ => none }
def recordWritesRow : OpenClaim := { program := "ytkgdogccnkjcgaadoor", sum := "14f373b7cfe9c27143ebce92472d915a97bb9f4617d56724a0120517a22d457e", func := "warmpath/warmpathlaw22.RecordWrites", spec := "recordWrites", unfollowed := true, recurses := true, named := ["warmpath/codec.remainders"], apart := false, laid := [("warmpath/codec.remainders", laid_warmpath_codec_remainders)] }
def RecordWritesSaid : Prop := recordWritesRow.holds Tryd.pinned (OpenSpec.ofChange recordWritesSpec)

/-- ITS FALSE NEIGHBOUR: 'it returns false'. Refute it at one input. -/
def recordWritesWrong : ChangeSpec := { name := "recordWrites", fn := fun _ => fun
  | [d1, d2, d3, d4] => { results := [.lit (.bool false)], args := [d1, d2, d3, d4] }
  | _ => none }
def RecordWritesWrongFalsely : Prop := recordWritesRow.holds Tryd.pinned (OpenSpec.ofChange recordWritesWrong)

/-- 'warmpathlaw22.RecordBack': WHATEVER THE INPUT: true; the input reads as it did. -/
def recordBackSpec : ChangeSpec := { name := "recordBack", fn := fun _ => fun
  | [d] => { results := [.lit (.bool true)], args := [d] }
  | _ => none }
def recordBackRow : OpenClaim := { program := "ytkgdogccnkjcgaadoor", sum := "14f373b7cfe9c27143ebce92472d915a97bb9f4617d56724a0120517a22d457e", func := "warmpath/warmpathlaw22.RecordBack", spec := "recordBack", unfollowed := true, recurses := true, named := ["warmpath/codec.remainders"], apart := false, laid := [("warmpath/codec.remainders", laid_warmpath_codec_remainders)] }
def RecordBackSaid : Prop := recordBackRow.holds Tryd.pinned (OpenSpec.ofChange recordBackSpec)

/-- ITS FALSE NEIGHBOUR: 'it returns false'. Refute it at one input. -/
def recordBackWrong : ChangeSpec := { name := "recordBack", fn := fun _ => fun
  | [d] => { results := [.lit (.bool false)], args := [d] }
  | _ => none }
def RecordBackWrongFalsely : Prop := recordBackRow.holds Tryd.pinned (OpenSpec.ofChange recordBackWrong)

/-- 'warmpathlaw22.RecordCuts': WHATEVER THE INPUT: true; the input reads as it did. -/
def recordCutsSpec : ChangeSpec := { name := "recordCuts", fn := fun _ => fun
  | [d1, d2] => { results := [.lit (.bool true)], args := [d1, d2] }
  | _ => none }
def recordCutsRow : OpenClaim := { program := "ytkgdogccnkjcgaadoor", sum := "14f373b7cfe9c27143ebce92472d915a97bb9f4617d56724a0120517a22d457e", func := "warmpath/warmpathlaw22.RecordCuts", spec := "recordCuts", unfollowed := true, recurses := true, named := ["warmpath/codec.remainders"], apart := false, laid := [("warmpath/codec.remainders", laid_warmpath_codec_remainders)] }
def RecordCutsSaid : Prop := recordCutsRow.holds Tryd.pinned (OpenSpec.ofChange recordCutsSpec)

/-- ITS FALSE NEIGHBOUR: 'it returns false'. Refute it at one input. -/
def recordCutsWrong : ChangeSpec := { name := "recordCuts", fn := fun _ => fun
  | [d1, d2] => { results := [.lit (.bool false)], args := [d1, d2] }
  | _ => none }
def RecordCutsWrongFalsely : Prop := recordCutsRow.holds Tryd.pinned (OpenSpec.ofChange recordCutsWrong)

/-- 'warmpathlaw22.RecordLimits': WHATEVER THE INPUT: true; the input reads as it did. -/
def recordLimitsSpec : ChangeSpec := { name := "recordLimits", fn := fun _ => fun
  | [d1, d2] => { results := [.lit (.bool true)], args := [d1, d2] }
  | _ => none }
def recordLimitsRow : OpenClaim := { program := "ytkgdogccnkjcgaadoor", sum := "14f373b7cfe9c27143ebce92472d915a97bb9f4617d56724a0120517a22d457e", func := "warmpath/warmpathlaw22.RecordLimits", spec := "recordLimits", unfollowed := true, recurses := true, named := ["warmpath/codec.remainders"], apart := false, laid := [("warmpath/codec.remainders", laid_warmpath_codec_remainders)] }
def RecordLimitsSaid : Prop := recordLimitsRow.holds Tryd.pinned (OpenSpec.ofChange recordLimitsSpec)

/-- ITS FALSE NEIGHBOUR: 'it returns false'. Refute it at one input. -/
def recordLimitsWrong : ChangeSpec := { name := "recordLimits", fn := fun _ => fun
  | [d1, d2] => { results := [.lit (.bool false)], args := [d1, d2] }
  | _ => none }
def RecordLimitsWrongFalsely : Prop := recordLimitsRow.holds Tryd.pinned (OpenSpec.ofChange recordLimitsWrong)

/- THE SECOND FORM. 'bulk': how many values and letters a reading holds, each counted each time it is reached (what is shared counts as often as it is met; a slice's spare places count too). A statement '..UptoSaid' is the law's where the arguments, and the package variables that the reading takes, are together of bulk at most 1048576: NARROWER than '..Said'. Prove '..Said' where nothing that the law and all that it calls make is longer than what came in: it says more and counts as full. Else prove '..UptoSaid'. A law counts once. -/
mutual
def uptoBulk {H : Type} : DataW H → Nat
  | .lit (.string bytes) => bytes.length + 1
  | .lit _ => 1
  | .nil => 1
  | .ptr d => uptoBulk d + 1
  | .slice elems spare => uptoBulkAll elems + uptoBulkAll spare + 1
  | .agg parts => uptoBulkAll parts + 1
  | .iface _ d => uptoBulk d + 1
  | .map entries => uptoBulkEntries entries + 1
  | .held _ => 1
def uptoBulkAll {H : Type} : List (DataW H) → Nat
  | [] => 0
  | d :: r => uptoBulk d + uptoBulkAll r
def uptoBulkEntries {H : Type} : List (Lit × DataW H) → Nat
  | [] => 0
  | x :: r => uptoBulkEntry x + uptoBulkEntries r
def uptoBulkEntry {H : Type} : Lit × DataW H → Nat
  | (.string bytes, d) => bytes.length + uptoBulk d + 1
  | (_, d) => uptoBulk d + 1
 end
def uptoSmall : (H : Type) → List (DataW H) → Bool := fun _ ds => decide (uptoBulkAll ds ≤ 1048576)
def OpenSpec.upto (s : _root_.Go.ChangeSpec) : _root_.Go.OpenSpec := { _root_.Go.OpenSpec.ofChange s with cond := some uptoSmall }

/-- 'warmpathlaw22.RecordDamage', WHERE WHAT IT READS IS OF BULK AT MOST 1048576: true; the input reads as it did. -/
def recordDamageUptoRow : OpenClaim := { program := "ytkgdogccnkjcgaadoor", sum := "14f373b7cfe9c27143ebce92472d915a97bb9f4617d56724a0120517a22d457e", func := "warmpath/warmpathlaw22.RecordDamage", spec := "recordDamage", unfollowed := true, recurses := true, named := ["warmpath/codec.remainders"], apart := false, laid := [("warmpath/codec.remainders", laid_warmpath_codec_remainders)], narrowed := true }
def RecordDamageUptoSaid : Prop := recordDamageUptoRow.holds Tryd.pinned (OpenSpec.upto recordDamageSpec)

/-- 'warmpathlaw22.RecordWrites', WHERE WHAT IT READS IS OF BULK AT MOST 1048576: true; the input reads as it did. -/
def recordWritesUptoRow : OpenClaim := { program := "ytkgdogccnkjcgaadoor", sum := "14f373b7cfe9c27143ebce92472d915a97bb9f4617d56724a0120517a22d457e", func := "warmpath/warmpathlaw22.RecordWrites", spec := "recordWrites", unfollowed := true, recurses := true, named := ["warmpath/codec.remainders"], apart := false, laid := [("warmpath/codec.remainders", laid_warmpath_codec_remainders)], narrowed := true }
def RecordWritesUptoSaid : Prop := recordWritesUptoRow.holds Tryd.pinned (OpenSpec.upto recordWritesSpec)

/-- 'warmpathlaw22.RecordBack', WHERE WHAT IT READS IS OF BULK AT MOST 1048576: true; the input reads as it did. -/
def recordBackUptoRow : OpenClaim := { program := "ytkgdogccnkjcgaadoor", sum := "14f373b7cfe9c27143ebce92472d915a97bb9f4617d56724a0120517a22d457e", func := "warmpath/warmpathlaw22.RecordBack", spec := "recordBack", unfollowed := true, recurses := true, named := ["warmpath/codec.remainders"], apart := false, laid := [("warmpath/codec.remainders", laid_warmpath_codec_remainders)], narrowed := true }
def RecordBackUptoSaid : Prop := recordBackUptoRow.holds Tryd.pinned (OpenSpec.upto recordBackSpec)

/-- 'warmpathlaw22.RecordCuts', WHERE WHAT IT READS IS OF BULK AT MOST 1048576: true; the input reads as it did. -/
def recordCutsUptoRow : OpenClaim := { program := "ytkgdogccnkjcgaadoor", sum := "14f373b7cfe9c27143ebce92472d915a97bb9f4617d56724a0120517a22d457e", func := "warmpath/warmpathlaw22.RecordCuts", spec := "recordCuts", unfollowed := true, recurses := true, named := ["warmpath/codec.remainders"], apart := false, laid := [("warmpath/codec.remainders", laid_warmpath_codec_remainders)], narrowed := true }
def RecordCutsUptoSaid : Prop := recordCutsUptoRow.holds Tryd.pinned (OpenSpec.upto recordCutsSpec)

/-- 'warmpathlaw22.RecordLimits', WHERE WHAT IT READS IS OF BULK AT MOST 1048576: true; the input reads as it did. -/
def recordLimitsUptoRow : OpenClaim := { program := "ytkgdogccnkjcgaadoor", sum := "14f373b7cfe9c27143ebce92472d915a97bb9f4617d56724a0120517a22d457e", func := "warmpath/warmpathlaw22.RecordLimits", spec := "recordLimits", unfollowed := true, recurses := true, named := ["warmpath/codec.remainders"], apart := false, laid := [("warmpath/codec.remainders", laid_warmpath_codec_remainders)], narrowed := true }
def RecordLimitsUptoSaid : Prop := recordLimitsUptoRow.holds Tryd.pinned (OpenSpec.upto recordLimitsSpec)

end Rows
end Go.Proofs.YtkgdogccnkjcgaaDoor
