/-
  THE LISTED VARIABLES: what the row's condition gives the walks. (Common to the cards of this seat; filled in from a template of this repo.)
-/
import Derived.Test.YtldgghnjminhiaaGreatDoorG2
import Derived.Test.YtldgghnjminhiaaGreatDoorRows
import Derived.LaidMore
import Derived.ProofKit
import Derived.SevenTiedAt
import Derived.Stop.LaidErr
import Derived.Lib.LaidTab
namespace Go.Proofs.YtldgghnjminhiaaGreatDoor
open Go.ChangeShapes Go.WideShapes Go.ChangeAt Go.WideMaps Go.WideElems Go.RowKit

theorem ownLd : ownKnob Tryz.prog.godebug = none := by kernel_rfl
theorem laidOut : laidOutB Tryz.prog = true := by kernel_rfl
theorem t_range : (Tryz.prog.globals[3]?).map (·.type) = some 80 := by kernel_rfl
theorem t_syn : (Tryz.prog.globals[2]?).map (·.type) = some 80 := by kernel_rfl
theorem t_tab : (Tryz.prog.globals[0]?).map (·.type) = some 216 := by kernel_rfl
theorem door_met (os : Os) (args : Array Value) : laidMetH Tryz.prog [("math/bits.deBruijn32tab", Rows.laid_math_bits_deBruijn32tab), ("math/bits.deBruijn64tab", Rows.laid_math_bits_deBruijn64tab), ("internal/strconv.uint64pow10", Rows.laid_internal_strconv_uint64pow10), ("strconv.ErrRange", Rows.laid_strconv_ErrRange), ("strconv.ErrSyntax", Rows.laid_strconv_ErrSyntax)] ((World.doorLaid Tryz.prog 400 os).forCall (fun _ _ => 0) ⟨#[], args, []⟩).memory :=
 laidMetH_of_parts3 (fuel := 8) (laidMet_of_run' 8 (by kernel_rfl) (by kernel_rfl)) (by kernel_rfl) (by kernel_rfl)
theorem star : "*" ++ "errors.errorString" = "*errors.errorString" := by decide
theorem row_err (u : TypeId) (h : Tryz.prog.typeName? 3 u = some "*errors.errorString") : u = 246 :=
 typeName_ptr_named (nm := "errors.errorString") (by rw [star]; kernel_rfl) (by kernel_rfl) (by decide) u (by rw [star]; exact h)
theorem of_laid {W : World} (h : laidMetH Tryz.prog [("math/bits.deBruijn32tab", Rows.laid_math_bits_deBruijn32tab), ("math/bits.deBruijn64tab", Rows.laid_math_bits_deBruijn64tab), ("internal/strconv.uint64pow10", Rows.laid_internal_strconv_uint64pow10), ("strconv.ErrRange", Rows.laid_strconv_ErrRange), ("strconv.ErrSyntax", Rows.laid_strconv_ErrSyntax)] W) : Lad W := by
 rw [MakeChecks.laidMetH_plain _ _ _ (by kernel_rfl)] at h
 have h2 := h.tail.tail
 have h3 := h2.tail
 have h4 := h3.tail
 have hc1 : Tryz.prog.cellsOf 248 = 1 := by kernel_rfl
 have hc2 : Tryz.prog.cellsOf 9 = 1 := by kernel_rfl
 obtain ⟨a0, s0, hv0, -, -, -⟩ := laid_sentinel h3 Wn t_range Tryz.underlying80 row_err Tryz.underlying246 Tryz.underlying248 rfl rfl Tryz.underlying9 hc1 hc2
 obtain ⟨a1, s1, hv1, -, -, -⟩ := laid_sentinel h4 Mb t_syn Tryz.underlying80 row_err Tryz.underlying246 Tryz.underlying248 rfl rfl Tryz.underlying9 hc1 hc2
 have e : (Rows.laid_internal_strconv_uint64pow10 : DataW Unit) = Lib.tabData .u64 Lib.pow10Tab := by kernel_rfl
 rw [e] at h2
 have hp1 : Tryz.prog.cellsOf 193 = 1 := by kernel_rfl
 have hp2 : Tryz.prog.cellsOf 216 = 20 := by kernel_rfl
 exact ⟨⟨_, _, hv0⟩, ⟨_, _, hv1⟩, Lib.tabIs_of_head Mu t_tab Tryz.underlying216 Tryz.underlying193 hp1 hp2 h2⟩
end Go.Proofs.YtldgghnjminhiaaGreatDoor
