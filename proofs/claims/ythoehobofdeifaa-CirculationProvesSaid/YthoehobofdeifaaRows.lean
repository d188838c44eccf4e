/-
  No cell of these rows narrows 'for every input' (looked for: loops, veiled, ifaces, maps, wideKeys, modest, calm, conditions, laid).
  DERIVED. THE GIVEN ROWS OF THIS SEAT. 6 by the template 'for every input the law returns true; each argument reads behind the call as it read before'; 0 by the template 'total and deterministic' (their statements: YthoehobofdeifaaTotals.lean).
  GIVEN WITH THE SEED: the statements are not yours to turn. If you find one false, say at which input.
  Laid BY PROGRAM, IN A SANDBOX (cutbox-rows.mjs): the forced cells as the released guide's own fill.sh prints them over the translation ba9857779c453d89… (all of the seat's roots in one cut). By AI agents, Wed Nov 11 2026. No macro, syntax, notation, axiom, sorry.
-/
import Derived.Test.YthoehobofdeifaaChecked
import GoSem.Claim
import GoSem.ClaimJoined
import GoSem.ClaimMapViews
import Derived.JoinedTies
import Derived.KernelRfl
namespace Go.Proofs.Ythoehobofdeifaa
/- THE CELL 'sum', in the pinned program and in every row, IS THE sha256 OF THE DUMP (.gsa) THAT YthoehobofdeifaaProg.lean LOADS. Nothing in Lean hashes anything: it is a label: what it is worth is what the hold of that sum in a sandbox is worth. -/
noncomputable def Try.pinned : Pinned := { name := "ythoehobofdeifaa", sum := "ba9857779c453d8974c9d76d7fb42357fb6474a2f150b9a294d396f7661704a3", checked := Try.checked }
namespace Rows
def none {H : Type} : Left H := { results := [], args := [] }

/-- 'warmpathlaw24.CirculationChecks': WHATEVER THE INPUT: true; the input reads as it did. -/
def circulationChecksSpec : ChangeSpec := { name := "circulationChecks", fn := fun _ => fun
  | [d1, d2, d3] => { results := [.lit (.bool true)], args := [d1, d2, d3] }
  | _ => none }
def circulationChecksRow : OpenClaim := { program := "ythoehobofdeifaa", sum := "ba9857779c453d8974c9d76d7fb42357fb6474a2f150b9a294d396f7661704a3", func := "warmpath/warmpathlaw24.CirculationChecks", spec := "circulationChecks", unfollowed := true, recurses := true, apart := false }
def CirculationChecksSaid : Prop := circulationChecksRow.holds Try.pinned (OpenSpec.ofChange circulationChecksSpec)

/-- ITS FALSE NEIGHBOUR: 'it returns false'. Refute it at one input. -/
def circulationChecksWrong : ChangeSpec := { name := "circulationChecks", fn := fun _ => fun
  | [d1, d2, d3] => { results := [.lit (.bool false)], args := [d1, d2, d3] }
  | _ => none }
def CirculationChecksWrongFalsely : Prop := circulationChecksRow.holds Try.pinned (OpenSpec.ofChange circulationChecksWrong)

/-- 'warmpathlaw24.CirculationSolves': WHATEVER THE INPUT: true; the input reads as it did. -/
def circulationSolvesSpec : ChangeSpec := { name := "circulationSolves", fn := fun _ => fun
  | [d] => { results := [.lit (.bool true)], args := [d] }
  | _ => none }
def circulationSolvesRow : OpenClaim := { program := "ythoehobofdeifaa", sum := "ba9857779c453d8974c9d76d7fb42357fb6474a2f150b9a294d396f7661704a3", func := "warmpath/warmpathlaw24.CirculationSolves", spec := "circulationSolves", unfollowed := true, recurses := true, apart := false }
def CirculationSolvesSaid : Prop := circulationSolvesRow.holds Try.pinned (OpenSpec.ofChange circulationSolvesSpec)

/-- ITS FALSE NEIGHBOUR: 'it returns false'. Refute it at one input. -/
def circulationSolvesWrong : ChangeSpec := { name := "circulationSolves", fn := fun _ => fun
  | [d] => { results := [.lit (.bool false)], args := [d] }
  | _ => none }
def CirculationSolvesWrongFalsely : Prop := circulationSolvesRow.holds Try.pinned (OpenSpec.ofChange circulationSolvesWrong)

/-- 'warmpathlaw24.CirculationLeast': WHATEVER THE INPUT: true; the input reads as it did. -/
def circulationLeastSpec : ChangeSpec := { name := "circulationLeast", fn := fun _ => fun
  | [d] => { results := [.lit (.bool true)], args := [d] }
  | _ => none }
def circulationLeastRow : OpenClaim := { program := "ythoehobofdeifaa", sum := "ba9857779c453d8974c9d76d7fb42357fb6474a2f150b9a294d396f7661704a3", func := "warmpath/warmpathlaw24.CirculationLeast", spec := "circulationLeast", unfollowed := true, recurses := true, apart := false }
def CirculationLeastSaid : Prop := circulationLeastRow.holds Try.pinned (OpenSpec.ofChange circulationLeastSpec)

/-- ITS FALSE NEIGHBOUR: 'it returns false'. Refute it at one input. -/
def circulationLeastWrong : ChangeSpec := { name := "circulationLeast", fn := fun _ => fun
  | [d] => { results := [.lit (.bool false)], args := [d] }
  | _ => none }
def CirculationLeastWrongFalsely : Prop := circulationLeastRow.holds Try.pinned (OpenSpec.ofChange circulationLeastWrong)

/-- 'warmpathlaw24.CirculationScales': WHATEVER THE INPUT: true; the input reads as it did. -/
def circulationScalesSpec : ChangeSpec := { name := "circulationScales", fn := fun _ => fun
  | [d1, d2, d3] => { results := [.lit (.bool true)], args := [d1, d2, d3] }
  | _ => none }
def circulationScalesRow : OpenClaim := { program := "ythoehobofdeifaa", sum := "ba9857779c453d8974c9d76d7fb42357fb6474a2f150b9a294d396f7661704a3", func := "warmpath/warmpathlaw24.CirculationScales", spec := "circulationScales", unfollowed := true, recurses := true, apart := false }
def CirculationScalesSaid : Prop := circulationScalesRow.holds Try.pinned (OpenSpec.ofChange circulationScalesSpec)

/-- ITS FALSE NEIGHBOUR: 'it returns false'. Refute it at one input. -/
def circulationScalesWrong : ChangeSpec := { name := "circulationScales", fn := fun _ => fun
  | [d1, d2, d3] => { results := [.lit (.bool false)], args := [d1, d2, d3] }
  | _ => none }
def CirculationScalesWrongFalsely : Prop := circulationScalesRow.holds Try.pinned (OpenSpec.ofChange circulationScalesWrong)

/-- 'warmpathlaw24.CirculationProves': WHATEVER THE INPUT: true; the input reads as it did. -/
def circulationProvesSpec : ChangeSpec := { name := "circulationProves", fn := fun _ => fun
  | [d1, d2, d3] => { results := [.lit (.bool true)], args := [d1, d2, d3] }
  | _ => none }
def circulationProvesRow : OpenClaim := { program := "ythoehobofdeifaa", sum := "ba9857779c453d8974c9d76d7fb42357fb6474a2f150b9a294d396f7661704a3", func := "warmpath/warmpathlaw24.CirculationProves", spec := "circulationProves", unfollowed := true, recurses := true, apart := false }
def CirculationProvesSaid : Prop := circulationProvesRow.holds Try.pinned (OpenSpec.ofChange circulationProvesSpec)

/-- ITS FALSE NEIGHBOUR: 'it returns false'. Refute it at one input. -/
def circulationProvesWrong : ChangeSpec := { name := "circulationProves", fn := fun _ => fun
  | [d1, d2, d3] => { results := [.lit (.bool false)], args := [d1, d2, d3] }
  | _ => none }
def CirculationProvesWrongFalsely : Prop := circulationProvesRow.holds Try.pinned (OpenSpec.ofChange circulationProvesWrong)

/-- 'warmpathlaw24.CirculationAgrees': WHATEVER THE INPUT: true; the input reads as it did. -/
def circulationAgreesSpec : ChangeSpec := { name := "circulationAgrees", fn := fun _ => fun
  | [d1, d2] => { results := [.lit (.bool true)], args := [d1, d2] }
  | _ => none }
def circulationAgreesRow : OpenClaim := { program := "ythoehobofdeifaa", sum := "ba9857779c453d8974c9d76d7fb42357fb6474a2f150b9a294d396f7661704a3", func := "warmpath/warmpathlaw24.CirculationAgrees", spec := "circulationAgrees", unfollowed := true, recurses := true, apart := false }
def CirculationAgreesSaid : Prop := circulationAgreesRow.holds Try.pinned (OpenSpec.ofChange circulationAgreesSpec)

/-- ITS FALSE NEIGHBOUR: 'it returns false'. Refute it at one input. -/
def circulationAgreesWrong : ChangeSpec := { name := "circulationAgrees", fn := fun _ => fun
  | [d1, d2] => { results := [.lit (.bool false)], args := [d1, d2] }
  | _ => none }
def CirculationAgreesWrongFalsely : Prop := circulationAgreesRow.holds Try.pinned (OpenSpec.ofChange circulationAgreesWrong)

/- THE SECOND FORM. 'bulk': how many values and letters a reading holds, each counted each time it is reached (what is shared counts as often as it is met; a slice's spare places count too). A statement '..UptoSaid' is the law's where the arguments, and the package variables that the reading takes, are together of bulk at most 1048576: NARROWER than '..Said'. Prove '..Said' where nothing that the law and all that it calls make is longer than what came in: it says more and counts as full. Else prove '..UptoSaid'. A law counts once. -/
mutual
def uptoBulk {H : Type} : DataW H → Nat
  | .lit (.string bytes) => bytes.length + 1
  | .lit _ => 1
  | .nil => 1
  | .ptr d => uptoBulk d + 1
  | .slice elems spare => uptoBulkAll elems + uptoBulkAll spare + 1
  | .agg parts => uptoBulkAll parts + 1
  | .iface _ d => uptoBulk d + 1
  | .map entries => uptoBulkEntries entries + 1
  | .held _ => 1
def uptoBulkAll {H : Type} : List (DataW H) → Nat
  | [] => 0
  | d :: r => uptoBulk d + uptoBulkAll r
def uptoBulkEntries {H : Type} : List (Lit × DataW H) → Nat
  | [] => 0
  | x :: r => uptoBulkEntry x + uptoBulkEntries r
def uptoBulkEntry {H : Type} : Lit × DataW H → Nat
  | (.string bytes, d) => bytes.length + uptoBulk d + 1
  | (_, d) => uptoBulk d + 1
 end
def uptoSmall : (H : Type) → List (DataW H) → Bool := fun _ ds => decide (uptoBulkAll ds ≤ 1048576)
def OpenSpec.upto (s : _root_.Go.ChangeSpec) : _root_.Go.OpenSpec := { _root_.Go.OpenSpec.ofChange s with cond := some uptoSmall }

/-- 'warmpathlaw24.CirculationChecks', WHERE WHAT IT READS IS OF BULK AT MOST 1048576: true; the input reads as it did. -/
def circulationChecksUptoRow : OpenClaim := { program := "ythoehobofdeifaa", sum := "ba9857779c453d8974c9d76d7fb42357fb6474a2f150b9a294d396f7661704a3", func := "warmpath/warmpathlaw24.CirculationChecks", spec := "circulationChecks", unfollowed := true, recurses := true, apart := false, narrowed := true }
def CirculationChecksUptoSaid : Prop := circulationChecksUptoRow.holds Try.pinned (OpenSpec.upto circulationChecksSpec)

/-- 'warmpathlaw24.CirculationSolves', WHERE WHAT IT READS IS OF BULK AT MOST 1048576: true; the input reads as it did. -/
def circulationSolvesUptoRow : OpenClaim := { program := "ythoehobofdeifaa", sum := "ba9857779c453d8974c9d76d7fb42357fb6474a2f150b9a294d396f7661704a3", func := "warmpath/warmpathlaw24.CirculationSolves", spec := "circulationSolves", unfollowed := true, recurses := true, apart := false, narrowed := true }
def CirculationSolvesUptoSaid : Prop := circulationSolvesUptoRow.holds Try.pinned (OpenSpec.upto circulationSolvesSpec)

/-- 'warmpathlaw24.CirculationLeast', WHERE WHAT IT READS IS OF BULK AT MOST 1048576: true; the input reads as it did. -/
def circulationLeastUptoRow : OpenClaim := { program := "ythoehobofdeifaa", sum := "ba9857779c453d8974c9d76d7fb42357fb6474a2f150b9a294d396f7661704a3", func := "warmpath/warmpathlaw24.CirculationLeast", spec := "circulationLeast", unfollowed := true, recurses := true, apart := false, narrowed := true }
def CirculationLeastUptoSaid : Prop := circulationLeastUptoRow.holds Try.pinned (OpenSpec.upto circulationLeastSpec)

/-- 'warmpathlaw24.CirculationScales', WHERE WHAT IT READS IS OF BULK AT MOST 1048576: true; the input reads as it did. -/
def circulationScalesUptoRow : OpenClaim := { program := "ythoehobofdeifaa", sum := "ba9857779c453d8974c9d76d7fb42357fb6474a2f150b9a294d396f7661704a3", func := "warmpath/warmpathlaw24.CirculationScales", spec := "circulationScales", unfollowed := true, recurses := true, apart := false, narrowed := true }
def CirculationScalesUptoSaid : Prop := circulationScalesUptoRow.holds Try.pinned (OpenSpec.upto circulationScalesSpec)

/-- 'warmpathlaw24.CirculationProves', WHERE WHAT IT READS IS OF BULK AT MOST 1048576: true; the input reads as it did. -/
def circulationProvesUptoRow : OpenClaim := { program := "ythoehobofdeifaa", sum := "ba9857779c453d8974c9d76d7fb42357fb6474a2f150b9a294d396f7661704a3", func := "warmpath/warmpathlaw24.CirculationProves", spec := "circulationProves", unfollowed := true, recurses := true, apart := false, narrowed := true }
def CirculationProvesUptoSaid : Prop := circulationProvesUptoRow.holds Try.pinned (OpenSpec.upto circulationProvesSpec)

/-- 'warmpathlaw24.CirculationAgrees', WHERE WHAT IT READS IS OF BULK AT MOST 1048576: true; the input reads as it did. -/
def circulationAgreesUptoRow : OpenClaim := { program := "ythoehobofdeifaa", sum := "ba9857779c453d8974c9d76d7fb42357fb6474a2f150b9a294d396f7661704a3", func := "warmpath/warmpathlaw24.CirculationAgrees", spec := "circulationAgrees", unfollowed := true, recurses := true, apart := false, narrowed := true }
def CirculationAgreesUptoSaid : Prop := circulationAgreesUptoRow.holds Try.pinned (OpenSpec.upto circulationAgreesSpec)

end Rows
end Go.Proofs.Ythoehobofdeifaa
