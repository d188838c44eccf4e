/-
  THE LISTED VARIABLES: what the row's condition gives the walks. (Common to the cards of this seat; filled in from a template of this repo.)
-/
import Derived.Test.YtpcdinelpfbpfaaDoorMtk
import Derived.Test.YtpcdinelpfbpfaaDoorRows
import Derived.LaidMore
import Derived.ProofKit
import Derived.SevenTiedAt
import Derived.Stop.LaidErr
import Derived.Lib.LaidTab
namespace Go.Proofs.YtpcdinelpfbpfaaDoor
open Go.ChangeShapes Go.WideShapes Go.ChangeAt Go.WideMaps Go.WideElems Go.RowKit

theorem ownLd : ownKnob Tryd.prog.godebug = none := by kernel_rfl
theorem laidOut : laidOutB Tryd.prog = true := by kernel_rfl
theorem t_range : (Tryd.prog.globals[1]?).map (·.type) = some 87 := by kernel_rfl
theorem t_syn : (Tryd.prog.globals[0]?).map (·.type) = some 87 := by kernel_rfl
theorem t_tab : (Tryd.prog.globals[2]?).map (·.type) = some 140 := by kernel_rfl
theorem door_met (os : Os) (args : Array Value) : laidMetH Tryd.prog [("math/bits.deBruijn32tab", Rows.laid_math_bits_deBruijn32tab), ("math/bits.deBruijn64tab", Rows.laid_math_bits_deBruijn64tab), ("internal/strconv.uint64pow10", Rows.laid_internal_strconv_uint64pow10), ("strconv.ErrRange", Rows.laid_strconv_ErrRange), ("strconv.ErrSyntax", Rows.laid_strconv_ErrSyntax)] ((World.doorLaid Tryd.prog 400 os).forCall (fun _ _ => 0) ⟨#[], args, []⟩).memory :=
 laidMetH_of_parts3 (fuel := 8) (laidMet_of_run' 8 (by kernel_rfl) (by kernel_rfl)) (by kernel_rfl) (by kernel_rfl)
theorem star : "*" ++ "errors.errorString" = "*errors.errorString" := by decide
theorem row_err (u : TypeId) (h : Tryd.prog.typeName? 3 u = some "*errors.errorString") : u = 136 :=
 typeName_ptr_named (nm := "errors.errorString") (by rw [star]; kernel_rfl) (by kernel_rfl) (by decide) u (by rw [star]; exact h)
theorem of_laid {W : World} (h : laidMetH Tryd.prog [("math/bits.deBruijn32tab", Rows.laid_math_bits_deBruijn32tab), ("math/bits.deBruijn64tab", Rows.laid_math_bits_deBruijn64tab), ("internal/strconv.uint64pow10", Rows.laid_internal_strconv_uint64pow10), ("strconv.ErrRange", Rows.laid_strconv_ErrRange), ("strconv.ErrSyntax", Rows.laid_strconv_ErrSyntax)] W) : Lad W := by
 rw [MakeChecks.laidMetH_plain _ _ _ (by kernel_rfl)] at h
 have h2 := h.tail.tail
 have h3 := h2.tail
 have h4 := h3.tail
 have hc1 : Tryd.prog.cellsOf 138 = 1 := by kernel_rfl
 have hc2 : Tryd.prog.cellsOf 9 = 1 := by kernel_rfl
 obtain ⟨a0, s0, hv0, -, -, -⟩ := laid_sentinel h3 g_range t_range Tryd.underlying87 row_err Tryd.underlying136 Tryd.underlying138 rfl rfl Tryd.underlying9 hc1 hc2
 obtain ⟨a1, s1, hv1, -, -, -⟩ := laid_sentinel h4 g_syn t_syn Tryd.underlying87 row_err Tryd.underlying136 Tryd.underlying138 rfl rfl Tryd.underlying9 hc1 hc2
 have e : (Rows.laid_internal_strconv_uint64pow10 : DataW Unit) = Lib.tabData .u64 Lib.pow10Tab := by kernel_rfl
 rw [e] at h2
 have hp1 : Tryd.prog.cellsOf 121 = 1 := by kernel_rfl
 have hp2 : Tryd.prog.cellsOf 140 = 20 := by kernel_rfl
 exact ⟨⟨_, _, hv0⟩, ⟨_, _, hv1⟩, Lib.tabIs_of_head g_tab t_tab Tryd.underlying140 Tryd.underlying121 hp1 hp2 h2⟩
end Go.Proofs.YtpcdinelpfbpfaaDoor
