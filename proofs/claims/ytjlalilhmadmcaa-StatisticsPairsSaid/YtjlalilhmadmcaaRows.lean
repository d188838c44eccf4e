/-
  No cell of these rows narrows 'for every input' (looked for: loops, veiled, ifaces, maps, wideKeys, modest, calm, conditions, laid).
  DERIVED. THE GIVEN ROWS OF THIS SEAT. 7 by the template 'for every input the law returns true; each argument reads behind the call as it read before'; 0 by the template 'total and deterministic' (their statements: YtjlalilhmadmcaaTotals.lean).
  GIVEN WITH THE SEED: the statements are not yours to turn. If you find one false, say at which input.
  Laid BY PROGRAM, IN A SANDBOX (cutbox-rows.mjs): the forced cells as the released guide's own fill.sh prints them over the translation 816ef00da141688d… (all of the seat's roots in one cut). By AI agents, Wed Nov 11 2026. No macro, syntax, notation, axiom, sorry.
-/
import Derived.Test.YtjlalilhmadmcaaChecked
import GoSem.Claim
import GoSem.ClaimJoined
import GoSem.ClaimMapViews
import Derived.JoinedTies
import Derived.KernelRfl
namespace Go.Proofs.Ytjlalilhmadmcaa
/- THE CELL 'sum', in the pinned program and in every row, IS THE sha256 OF THE DUMP (.gsa) THAT YtjlalilhmadmcaaProg.lean LOADS. Nothing in Lean hashes anything: it is a label: what it is worth is what the hold of that sum in a sandbox is worth. -/
noncomputable def Try.pinned : Pinned := { name := "ytjlalilhmadmcaa", sum := "816ef00da141688d6b46551b51131b51251ac99961040458d8cdc2ae65db0fd9", checked := Try.checked }
namespace Rows
def none {H : Type} : Left H := { results := [], args := [] }

/-- 'warmpathlaw43.StatisticsHalves': WHATEVER THE INPUT: true; the input reads as it did. -/
def statisticsHalvesSpec : ChangeSpec := { name := "statisticsHalves", fn := fun _ => fun
  | [d1, d2, d3] => { results := [.lit (.bool true)], args := [d1, d2, d3] }
  | _ => none }
def statisticsHalvesRow : OpenClaim := { program := "ytjlalilhmadmcaa", sum := "816ef00da141688d6b46551b51131b51251ac99961040458d8cdc2ae65db0fd9", func := "warmpath/warmpathlaw43.StatisticsHalves", spec := "statisticsHalves", apart := false }
def StatisticsHalvesSaid : Prop := statisticsHalvesRow.holds Try.pinned (OpenSpec.ofChange statisticsHalvesSpec)

/-- ITS FALSE NEIGHBOUR: 'it returns false'. Refute it at one input. -/
def statisticsHalvesWrong : ChangeSpec := { name := "statisticsHalves", fn := fun _ => fun
  | [d1, d2, d3] => { results := [.lit (.bool false)], args := [d1, d2, d3] }
  | _ => none }
def StatisticsHalvesWrongFalsely : Prop := statisticsHalvesRow.holds Try.pinned (OpenSpec.ofChange statisticsHalvesWrong)

/-- 'warmpathlaw43.StatisticsGrows': WHATEVER THE INPUT: true; the input reads as it did. -/
def statisticsGrowsSpec : ChangeSpec := { name := "statisticsGrows", fn := fun _ => fun
  | [d1, d2, d3] => { results := [.lit (.bool true)], args := [d1, d2, d3] }
  | _ => none }
def statisticsGrowsRow : OpenClaim := { program := "ytjlalilhmadmcaa", sum := "816ef00da141688d6b46551b51131b51251ac99961040458d8cdc2ae65db0fd9", func := "warmpath/warmpathlaw43.StatisticsGrows", spec := "statisticsGrows", recurses := true, apart := false }
def StatisticsGrowsSaid : Prop := statisticsGrowsRow.holds Try.pinned (OpenSpec.ofChange statisticsGrowsSpec)

/-- ITS FALSE NEIGHBOUR: 'it returns false'. Refute it at one input. -/
def statisticsGrowsWrong : ChangeSpec := { name := "statisticsGrows", fn := fun _ => fun
  | [d1, d2, d3] => { results := [.lit (.bool false)], args := [d1, d2, d3] }
  | _ => none }
def StatisticsGrowsWrongFalsely : Prop := statisticsGrowsRow.holds Try.pinned (OpenSpec.ofChange statisticsGrowsWrong)

/-- 'warmpathlaw43.StatisticsNumbers': WHATEVER THE INPUT: true; the input reads as it did. -/
def statisticsNumbersSpec : ChangeSpec := { name := "statisticsNumbers", fn := fun _ => fun
  | [d1, d2, d3, d4] => { results := [.lit (.bool true)], args := [d1, d2, d3, d4] }
  | _ => none }
def statisticsNumbersRow : OpenClaim := { program := "ytjlalilhmadmcaa", sum := "816ef00da141688d6b46551b51131b51251ac99961040458d8cdc2ae65db0fd9", func := "warmpath/warmpathlaw43.StatisticsNumbers", spec := "statisticsNumbers", apart := false }
def StatisticsNumbersSaid : Prop := statisticsNumbersRow.holds Try.pinned (OpenSpec.ofChange statisticsNumbersSpec)

/-- ITS FALSE NEIGHBOUR: 'it returns false'. Refute it at one input. -/
def statisticsNumbersWrong : ChangeSpec := { name := "statisticsNumbers", fn := fun _ => fun
  | [d1, d2, d3, d4] => { results := [.lit (.bool false)], args := [d1, d2, d3, d4] }
  | _ => none }
def StatisticsNumbersWrongFalsely : Prop := statisticsNumbersRow.holds Try.pinned (OpenSpec.ofChange statisticsNumbersWrong)

/-- 'warmpathlaw43.StatisticsSums': WHATEVER THE INPUT: true; the input reads as it did. -/
def statisticsSumsSpec : ChangeSpec := { name := "statisticsSums", fn := fun _ => fun
  | [d1, d2] => { results := [.lit (.bool true)], args := [d1, d2] }
  | _ => none }
def statisticsSumsRow : OpenClaim := { program := "ytjlalilhmadmcaa", sum := "816ef00da141688d6b46551b51131b51251ac99961040458d8cdc2ae65db0fd9", func := "warmpath/warmpathlaw43.StatisticsSums", spec := "statisticsSums", apart := false }
def StatisticsSumsSaid : Prop := statisticsSumsRow.holds Try.pinned (OpenSpec.ofChange statisticsSumsSpec)

/-- ITS FALSE NEIGHBOUR: 'it returns false'. Refute it at one input. -/
def statisticsSumsWrong : ChangeSpec := { name := "statisticsSums", fn := fun _ => fun
  | [d1, d2] => { results := [.lit (.bool false)], args := [d1, d2] }
  | _ => none }
def StatisticsSumsWrongFalsely : Prop := statisticsSumsRow.holds Try.pinned (OpenSpec.ofChange statisticsSumsWrong)

/-- 'warmpathlaw43.StatisticsLevels': WHATEVER THE INPUT: true; the input reads as it did. -/
def statisticsLevelsSpec : ChangeSpec := { name := "statisticsLevels", fn := fun _ => fun
  | [d1, d2, d3, d4, d5] => { results := [.lit (.bool true)], args := [d1, d2, d3, d4, d5] }
  | _ => none }
def statisticsLevelsRow : OpenClaim := { program := "ytjlalilhmadmcaa", sum := "816ef00da141688d6b46551b51131b51251ac99961040458d8cdc2ae65db0fd9", func := "warmpath/warmpathlaw43.StatisticsLevels", spec := "statisticsLevels", recurses := true, apart := false }
def StatisticsLevelsSaid : Prop := statisticsLevelsRow.holds Try.pinned (OpenSpec.ofChange statisticsLevelsSpec)

/-- ITS FALSE NEIGHBOUR: 'it returns false'. Refute it at one input. -/
def statisticsLevelsWrong : ChangeSpec := { name := "statisticsLevels", fn := fun _ => fun
  | [d1, d2, d3, d4, d5] => { results := [.lit (.bool false)], args := [d1, d2, d3, d4, d5] }
  | _ => none }
def StatisticsLevelsWrongFalsely : Prop := statisticsLevelsRow.holds Try.pinned (OpenSpec.ofChange statisticsLevelsWrong)

/-- 'warmpathlaw43.StatisticsMargins': WHATEVER THE INPUT: true; the input reads as it did. -/
def statisticsMarginsSpec : ChangeSpec := { name := "statisticsMargins", fn := fun _ => fun
  | [d1, d2] => { results := [.lit (.bool true)], args := [d1, d2] }
  | _ => none }
def statisticsMarginsRow : OpenClaim := { program := "ytjlalilhmadmcaa", sum := "816ef00da141688d6b46551b51131b51251ac99961040458d8cdc2ae65db0fd9", func := "warmpath/warmpathlaw43.StatisticsMargins", spec := "statisticsMargins", recurses := true, apart := false }
def StatisticsMarginsSaid : Prop := statisticsMarginsRow.holds Try.pinned (OpenSpec.ofChange statisticsMarginsSpec)

/-- ITS FALSE NEIGHBOUR: 'it returns false'. Refute it at one input. -/
def statisticsMarginsWrong : ChangeSpec := { name := "statisticsMargins", fn := fun _ => fun
  | [d1, d2] => { results := [.lit (.bool false)], args := [d1, d2] }
  | _ => none }
def StatisticsMarginsWrongFalsely : Prop := statisticsMarginsRow.holds Try.pinned (OpenSpec.ofChange statisticsMarginsWrong)

/-- 'warmpathlaw43.StatisticsPairs': WHATEVER THE INPUT: true; the input reads as it did. -/
def statisticsPairsSpec : ChangeSpec := { name := "statisticsPairs", fn := fun _ => fun
  | [d1, d2, d3, d4] => { results := [.lit (.bool true)], args := [d1, d2, d3, d4] }
  | _ => none }
def statisticsPairsRow : OpenClaim := { program := "ytjlalilhmadmcaa", sum := "816ef00da141688d6b46551b51131b51251ac99961040458d8cdc2ae65db0fd9", func := "warmpath/warmpathlaw43.StatisticsPairs", spec := "statisticsPairs", recurses := true, apart := false }
def StatisticsPairsSaid : Prop := statisticsPairsRow.holds Try.pinned (OpenSpec.ofChange statisticsPairsSpec)

/-- ITS FALSE NEIGHBOUR: 'it returns false'. Refute it at one input. -/
def statisticsPairsWrong : ChangeSpec := { name := "statisticsPairs", fn := fun _ => fun
  | [d1, d2, d3, d4] => { results := [.lit (.bool false)], args := [d1, d2, d3, d4] }
  | _ => none }
def StatisticsPairsWrongFalsely : Prop := statisticsPairsRow.holds Try.pinned (OpenSpec.ofChange statisticsPairsWrong)

/- THE SECOND FORM. 'bulk': how many values and letters a reading holds, each counted each time it is reached (what is shared counts as often as it is met; a slice's spare places count too). A statement '..UptoSaid' is the law's where the arguments, and the package variables that the reading takes, are together of bulk at most 1048576: NARROWER than '..Said'. Prove '..Said' where nothing that the law and all that it calls make is longer than what came in: it says more and counts as full. Else prove '..UptoSaid'. A law counts once. -/
mutual
def uptoBulk {H : Type} : DataW H → Nat
  | .lit (.string bytes) => bytes.length + 1
  | .lit _ => 1
  | .nil => 1
  | .ptr d => uptoBulk d + 1
  | .slice elems spare => uptoBulkAll elems + uptoBulkAll spare + 1
  | .agg parts => uptoBulkAll parts + 1
  | .iface _ d => uptoBulk d + 1
  | .map entries => uptoBulkEntries entries + 1
  | .held _ => 1
def uptoBulkAll {H : Type} : List (DataW H) → Nat
  | [] => 0
  | d :: r => uptoBulk d + uptoBulkAll r
def uptoBulkEntries {H : Type} : List (Lit × DataW H) → Nat
  | [] => 0
  | x :: r => uptoBulkEntry x + uptoBulkEntries r
def uptoBulkEntry {H : Type} : Lit × DataW H → Nat
  | (.string bytes, d) => bytes.length + uptoBulk d + 1
  | (_, d) => uptoBulk d + 1
 end
def uptoSmall : (H : Type) → List (DataW H) → Bool := fun _ ds => decide (uptoBulkAll ds ≤ 1048576)
def OpenSpec.upto (s : _root_.Go.ChangeSpec) : _root_.Go.OpenSpec := { _root_.Go.OpenSpec.ofChange s with cond := some uptoSmall }

/-- 'warmpathlaw43.StatisticsHalves', WHERE WHAT IT READS IS OF BULK AT MOST 1048576: true; the input reads as it did. -/
def statisticsHalvesUptoRow : OpenClaim := { program := "ytjlalilhmadmcaa", sum := "816ef00da141688d6b46551b51131b51251ac99961040458d8cdc2ae65db0fd9", func := "warmpath/warmpathlaw43.StatisticsHalves", spec := "statisticsHalves", apart := false, narrowed := true }
def StatisticsHalvesUptoSaid : Prop := statisticsHalvesUptoRow.holds Try.pinned (OpenSpec.upto statisticsHalvesSpec)

/-- 'warmpathlaw43.StatisticsGrows', WHERE WHAT IT READS IS OF BULK AT MOST 1048576: true; the input reads as it did. -/
def statisticsGrowsUptoRow : OpenClaim := { program := "ytjlalilhmadmcaa", sum := "816ef00da141688d6b46551b51131b51251ac99961040458d8cdc2ae65db0fd9", func := "warmpath/warmpathlaw43.StatisticsGrows", spec := "statisticsGrows", recurses := true, apart := false, narrowed := true }
def StatisticsGrowsUptoSaid : Prop := statisticsGrowsUptoRow.holds Try.pinned (OpenSpec.upto statisticsGrowsSpec)

/-- 'warmpathlaw43.StatisticsNumbers', WHERE WHAT IT READS IS OF BULK AT MOST 1048576: true; the input reads as it did. -/
def statisticsNumbersUptoRow : OpenClaim := { program := "ytjlalilhmadmcaa", sum := "816ef00da141688d6b46551b51131b51251ac99961040458d8cdc2ae65db0fd9", func := "warmpath/warmpathlaw43.StatisticsNumbers", spec := "statisticsNumbers", apart := false, narrowed := true }
def StatisticsNumbersUptoSaid : Prop := statisticsNumbersUptoRow.holds Try.pinned (OpenSpec.upto statisticsNumbersSpec)

/-- 'warmpathlaw43.StatisticsSums', WHERE WHAT IT READS IS OF BULK AT MOST 1048576: true; the input reads as it did. -/
def statisticsSumsUptoRow : OpenClaim := { program := "ytjlalilhmadmcaa", sum := "816ef00da141688d6b46551b51131b51251ac99961040458d8cdc2ae65db0fd9", func := "warmpath/warmpathlaw43.StatisticsSums", spec := "statisticsSums", apart := false, narrowed := true }
def StatisticsSumsUptoSaid : Prop := statisticsSumsUptoRow.holds Try.pinned (OpenSpec.upto statisticsSumsSpec)

/-- 'warmpathlaw43.StatisticsLevels', WHERE WHAT IT READS IS OF BULK AT MOST 1048576: true; the input reads as it did. -/
def statisticsLevelsUptoRow : OpenClaim := { program := "ytjlalilhmadmcaa", sum := "816ef00da141688d6b46551b51131b51251ac99961040458d8cdc2ae65db0fd9", func := "warmpath/warmpathlaw43.StatisticsLevels", spec := "statisticsLevels", recurses := true, apart := false, narrowed := true }
def StatisticsLevelsUptoSaid : Prop := statisticsLevelsUptoRow.holds Try.pinned (OpenSpec.upto statisticsLevelsSpec)

/-- 'warmpathlaw43.StatisticsMargins', WHERE WHAT IT READS IS OF BULK AT MOST 1048576: true; the input reads as it did. -/
def statisticsMarginsUptoRow : OpenClaim := { program := "ytjlalilhmadmcaa", sum := "816ef00da141688d6b46551b51131b51251ac99961040458d8cdc2ae65db0fd9", func := "warmpath/warmpathlaw43.StatisticsMargins", spec := "statisticsMargins", recurses := true, apart := false, narrowed := true }
def StatisticsMarginsUptoSaid : Prop := statisticsMarginsUptoRow.holds Try.pinned (OpenSpec.upto statisticsMarginsSpec)

/-- 'warmpathlaw43.StatisticsPairs', WHERE WHAT IT READS IS OF BULK AT MOST 1048576: true; the input reads as it did. -/
def statisticsPairsUptoRow : OpenClaim := { program := "ytjlalilhmadmcaa", sum := "816ef00da141688d6b46551b51131b51251ac99961040458d8cdc2ae65db0fd9", func := "warmpath/warmpathlaw43.StatisticsPairs", spec := "statisticsPairs", recurses := true, apart := false, narrowed := true }
def StatisticsPairsUptoSaid : Prop := statisticsPairsUptoRow.holds Try.pinned (OpenSpec.upto statisticsPairsSpec)

end Rows
end Go.Proofs.Ytjlalilhmadmcaa
