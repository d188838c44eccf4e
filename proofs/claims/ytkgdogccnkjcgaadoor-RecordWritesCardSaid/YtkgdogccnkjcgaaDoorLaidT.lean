/-
  THE LISTED TABLE: what the row's condition gives the walks. (Common to the cards of this seat.)
-/
import Derived.Test.YtkgdogccnkjcgaaDoorFr
import Derived.LaidMore
import Derived.ProofKit
import Derived.SevenTiedAt
namespace Go.Proofs.YtkgdogccnkjcgaaDoor
open Go.ChangeShapes Go.WideShapes Go.ChangeAt Go.WideMaps Go.WideElems Go.RowKit

theorem own : ownKnob Tryd.prog.godebug = none := by kernel_rfl
theorem laidOut : laidOutB Tryd.prog = true := by kernel_rfl
theorem gTab : Tryd.prog.globalNamed "warmpath/codec.remainders" = some 0 := by kernel_rfl
theorem tTab : (Tryd.prog.globals[0]?).map (·.type) = some 97 := by kernel_rfl
/-- The door's own heap meets the condition. -/
theorem door_met (os : Os) (args : Array Value) : laidMetH Tryd.prog [("warmpath/codec.remainders", Rows.laid_warmpath_codec_remainders)] ((World.doorLaid Tryd.prog 400 os).forCall (fun _ _ => 0) ⟨#[], args, []⟩).memory :=
  laidMetH_of_parts3 (fuel := 8) (laidMet_of_run' 8 (by kernel_rfl) (by kernel_rfl)) (by kernel_rfl) (by kernel_rfl)
theorem of_laid {W : World} (h : laidMetH Tryd.prog [("warmpath/codec.remainders", Rows.laid_warmpath_codec_remainders)] W) : Laid W := by
  rw [MakeChecks.laidMetH_plain _ _ _ (by kernel_rfl)] at h
  obtain ⟨ps, ⟨g1, t1, cs1, f1, p1, q1, hg1, ht1, hv1, hd1, _, _⟩, _, _⟩ := h
  obtain rfl := Option.some.inj (gTab.symm.trans hg1)
  obtain rfl := Option.some.inj (tTab.symm.trans ht1)
  obtain ⟨xs, m1, rfl, hx1, hlen, hn3, hel⟩ := DataW.trod_array Tryd.underlying97 hd1
  have c3 : Tryd.prog.cellsOf 84 = 1 := by kernel_rfl
  have hcell : ∀ j, W.cell? ⟨0, j, none⟩ = cs1[j]? := fun j => by
    have := World.var?_cell hg1 hv1 j
    simpa using this
  have hL : (Rows.laid_warmpath_codec_remainders : DataW Unit) = .agg (tab.map fun n => DataW.lit (.int .u32 ((n : Nat) : Int))) := by kernel_rfl
  rw [hL] at hx1
  simp only [Prod.mk.injEq, DataW.agg.injEq] at hx1
  have hmap := hx1.1
  have hc16 : cs1.toList.length = 16 := by rw [hlen]; kernel_rfl
  refine ⟨?_, fun j hj => ?_⟩
  · have h0 := hcell 0
    have : cs1[0]? ≠ none := by
      intro e
      have h1 := Array.getElem?_eq_none_iff.1 e
      simp at hc16
      omega
    rcases Nat.lt_or_ge 0 W.heap.size with h' | h'
    · exact h'
    · exfalso
      apply this
      rw [← h0]
      unfold World.cell?
      rw [Array.getElem?_eq_none h']
  · have h0 := hel j hj
    rw [c3, Nat.mul_one] at h0
    have hx : (xs.map (fun x => x.1))[j]? = some (DataW.lit (.int .u32 ((tab.getD j 0 : Nat) : Int))) := by
      rw [← hmap, List.getElem?_map, List.getD, List.getElem?_eq_getElem (show j < tab.length by simpa [tab] using hj)]; rfl
    rw [List.getElem?_map] at hx
    obtain ⟨x, hxj, hxf⟩ := Option.map_eq_some_iff.1 hx
    rw [hxj] at h0
    obtain ⟨k, e1, e2, _⟩ := DataW.trod_int Tryd.underlying84 h0
    subst e2
    simp only [DataW.lit.injEq, Lit.int.injEq, true_and] at hxf
    have e3 : (cs1.toList.drop j).take 1 = [cs1.toList[j]'(by omega)] := by
      rw [List.drop_eq_getElem_cons (show j < cs1.toList.length by omega)]; rfl
    rw [e3] at e1
    injection e1 with e1
    rw [hcell j, Array.getElem?_eq_getElem (show j < cs1.size by simpa using (show j < cs1.toList.length by omega)), ← hxf, ← e1]
    simp
end Go.Proofs.YtkgdogccnkjcgaaDoor
