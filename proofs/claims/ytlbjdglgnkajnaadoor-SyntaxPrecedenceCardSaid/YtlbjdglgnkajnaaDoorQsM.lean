/-
  WALKS of the reference's EqualExpr and SameExpr. (Filled in from a template of this repo.)
-/
import Derived.Test.YtlbjdglgnkajnaaDoorQsL
namespace Go.Proofs.YtlbjdglgnkajnaaDoor
open Go.ChangeShapes Go.WideShapes Go.ChangeAt Go.RowKit
set_option linter.unusedVariables false
set_option linter.unusedSimpArgs false

set_option maxRecDepth 100000 in
set_option maxHeartbeats 8000000 in
theorem EqualExpr_any (h1 h2 : Hd) (F G : Fo) (P Q : Nat → Prop) (a1 a2 : Option Addr) (n1 c1 n2 c2 : Nat) (w : World) (hF : ArgsAt w P F (.slice a1 n1 c1)) (hG : ArgsAt w Q G (.slice a2 n2 c2)) :
    Calls Tryd.prog 12 #[exv h1 (.slice a1 n1 c1), exv h2 (.slice a2 n2 c2)] w fun e w' => e = .returned (.bool (eqF true (one1 h1 F) (one1 h2 G))) ∧ Below w.heap.size w w' := by
  have hb := ((below_alloc w (.cells (ecs h1 (.slice a1 n1 c1)) 31)).alloc (by simp) (.cells (ecs h2 (.slice a2 n2 c2)) 31))
  have HB := Lib.hid hb
  have HF := Lib.hid (hF.keep (Q := P) (fun b hb2 hlt => ⟨hb.block b hlt, hb2⟩) hb.size)
  have HG := Lib.hid (hG.keep (Q := Q) (fun b hb2 hlt => ⟨hb.block b hlt, hb2⟩) hb.size)
  have HA := Lib.hid ((Lc.new w h1 (.slice a1 n1 c1)).al (.cells (ecs h2 (.slice a2 n2 c2)) 31))
  have HC := Lib.hid (Lc.new (w.alloc (.cells (ecs h1 (.slice a1 n1 c1)) 31)) h2 (.slice a2 n2 c2))
  have HS : Hid ((w.alloc (.cells (ecs h1 (.slice a1 n1 c1)) 31)).heap.size = w.heap.size + 1) := Lib.hid (by simp)
  clear hb hF hG
  go_enter Tryd.func12, Tryd.ntmps12
  go_upto_region 1 with fail
  obtain ⟨w3, hw3⟩ : ∃ W, (w.alloc (.cells (ecs h1 (.slice a1 n1 c1)) 31)).alloc (.cells (ecs h2 (.slice a2 n2 c2)) 31) = W := ⟨_, rfl⟩
  have hw3' := hw3
  simp only [ecs] at hw3'
  (try rw [hw3'])
  rw [hw3] at HB HF HG HA HC
  rw [HS.out] at HC
  clear hw3 hw3'
  obtain ⟨x0, x1, x2, x3, x4, x5⟩ := HA.out.cells
  obtain ⟨z0, z1, z2, z3, z4, z5⟩ := HC.out.cells
  have hlA := HA.out.lt
  have hlC := HC.out.lt
  have HW : Hid (ArgsAt ((w3.alloc (.cells #[.int .i64 h1.k, .int .i64 h1.op, .int .i64 h1.v, .int .i64 h1.ln, .string (st h1.nm), .slice a1 n1 c1] 31)).alloc (.cells #[.int .i64 h2.k, .int .i64 h2.op, .int .i64 h2.v, .int .i64 h2.ln, .string (st h2.nm), .slice a2 n2 c2] 31)) (fun _ => True) (one1 h1 F) (.slice (some ⟨w3.heap.size, 0, none⟩) 1 1) ∧
      ArgsAt ((w3.alloc (.cells #[.int .i64 h1.k, .int .i64 h1.op, .int .i64 h1.v, .int .i64 h1.ln, .string (st h1.nm), .slice a1 n1 c1] 31)).alloc (.cells #[.int .i64 h2.k, .int .i64 h2.op, .int .i64 h2.v, .int .i64 h2.ln, .string (st h2.nm), .slice a2 n2 c2] 31)) (fun _ => True) (one1 h2 G) (.slice (some ⟨w3.heap.size + 1, 0, none⟩) 1 1) ∧
      Below w.heap.size w ((w3.alloc (.cells #[.int .i64 h1.k, .int .i64 h1.op, .int .i64 h1.v, .int .i64 h1.ln, .string (st h1.nm), .slice a1 n1 c1] 31)).alloc (.cells #[.int .i64 h2.k, .int .i64 h2.op, .int .i64 h2.v, .int .i64 h2.ln, .string (st h2.nm), .slice a2 n2 c2] 31))) := Lib.hid (by
    refine ⟨args_mono (args_al _ (one_made (Q := fun _ => True) HF.out (fun _ _ _ => trivial) trivial)) (fun _ _ _ => trivial), ?_, (HB.out.alloc HB.out.size _).alloc (by simp; have := HB.out.size; omega) _⟩
    have := one_made (Q := fun _ => True) (h1 := h2) (args_al (.cells #[.int .i64 h1.k, .int .i64 h1.op, .int .i64 h1.v, .int .i64 h1.ln, .string (st h1.nm), .slice a1 n1 c1] 31) HG.out) (fun _ _ _ => trivial) trivial
    have e : (w3.alloc (.cells #[.int .i64 h1.k, .int .i64 h1.op, .int .i64 h1.v, .int .i64 h1.ln, .string (st h1.nm), .slice a1 n1 c1] 31)).heap.size = w3.heap.size + 1 := by simp
    rw [e] at this
    exact this)
  go_wp2_with fail
  refine (exprs_any (one1 h1 F) true _ _ (one1 h2 G) _ _ _ HW.out.1 HW.out.2.1).mono ?_
  rintro e w5 ⟨rfl, hb5⟩
  have HB5 := Lib.hid (HW.out.2.2.trans (hb5.mono HW.out.2.2.size))
  clear hb5
  go_wp2_with fail
  refine bodyPost_ret (v := .bool (eqF true (one1 h1 F) (one1 h2 G))) (by simp [results, Tryd.results12, go_sem]) rfl ?_
  exact ⟨rfl, HB5.out⟩
set_option maxRecDepth 100000 in
set_option maxHeartbeats 8000000 in
theorem SameExpr_any (h1 h2 : Hd) (F G : Fo) (P Q : Nat → Prop) (a1 a2 : Option Addr) (n1 c1 n2 c2 : Nat) (w : World) (hF : ArgsAt w P F (.slice a1 n1 c1)) (hG : ArgsAt w Q G (.slice a2 n2 c2)) :
    Calls Tryd.prog 13 #[exv h1 (.slice a1 n1 c1), exv h2 (.slice a2 n2 c2)] w fun e w' => e = .returned (.bool (eqF false (one1 h1 F) (one1 h2 G))) ∧ Below w.heap.size w w' := by
  have hb := ((below_alloc w (.cells (ecs h1 (.slice a1 n1 c1)) 31)).alloc (by simp) (.cells (ecs h2 (.slice a2 n2 c2)) 31))
  have HB := Lib.hid hb
  have HF := Lib.hid (hF.keep (Q := P) (fun b hb2 hlt => ⟨hb.block b hlt, hb2⟩) hb.size)
  have HG := Lib.hid (hG.keep (Q := Q) (fun b hb2 hlt => ⟨hb.block b hlt, hb2⟩) hb.size)
  have HA := Lib.hid ((Lc.new w h1 (.slice a1 n1 c1)).al (.cells (ecs h2 (.slice a2 n2 c2)) 31))
  have HC := Lib.hid (Lc.new (w.alloc (.cells (ecs h1 (.slice a1 n1 c1)) 31)) h2 (.slice a2 n2 c2))
  have HS : Hid ((w.alloc (.cells (ecs h1 (.slice a1 n1 c1)) 31)).heap.size = w.heap.size + 1) := Lib.hid (by simp)
  clear hb hF hG
  go_enter Tryd.func13, Tryd.ntmps13
  go_upto_region 1 with fail
  obtain ⟨w3, hw3⟩ : ∃ W, (w.alloc (.cells (ecs h1 (.slice a1 n1 c1)) 31)).alloc (.cells (ecs h2 (.slice a2 n2 c2)) 31) = W := ⟨_, rfl⟩
  have hw3' := hw3
  simp only [ecs] at hw3'
  (try rw [hw3'])
  rw [hw3] at HB HF HG HA HC
  rw [HS.out] at HC
  clear hw3 hw3'
  obtain ⟨x0, x1, x2, x3, x4, x5⟩ := HA.out.cells
  obtain ⟨z0, z1, z2, z3, z4, z5⟩ := HC.out.cells
  have hlA := HA.out.lt
  have hlC := HC.out.lt
  have HW : Hid (ArgsAt ((w3.alloc (.cells #[.int .i64 h1.k, .int .i64 h1.op, .int .i64 h1.v, .int .i64 h1.ln, .string (st h1.nm), .slice a1 n1 c1] 31)).alloc (.cells #[.int .i64 h2.k, .int .i64 h2.op, .int .i64 h2.v, .int .i64 h2.ln, .string (st h2.nm), .slice a2 n2 c2] 31)) (fun _ => True) (one1 h1 F) (.slice (some ⟨w3.heap.size, 0, none⟩) 1 1) ∧
      ArgsAt ((w3.alloc (.cells #[.int .i64 h1.k, .int .i64 h1.op, .int .i64 h1.v, .int .i64 h1.ln, .string (st h1.nm), .slice a1 n1 c1] 31)).alloc (.cells #[.int .i64 h2.k, .int .i64 h2.op, .int .i64 h2.v, .int .i64 h2.ln, .string (st h2.nm), .slice a2 n2 c2] 31)) (fun _ => True) (one1 h2 G) (.slice (some ⟨w3.heap.size + 1, 0, none⟩) 1 1) ∧
      Below w.heap.size w ((w3.alloc (.cells #[.int .i64 h1.k, .int .i64 h1.op, .int .i64 h1.v, .int .i64 h1.ln, .string (st h1.nm), .slice a1 n1 c1] 31)).alloc (.cells #[.int .i64 h2.k, .int .i64 h2.op, .int .i64 h2.v, .int .i64 h2.ln, .string (st h2.nm), .slice a2 n2 c2] 31))) := Lib.hid (by
    refine ⟨args_mono (args_al _ (one_made (Q := fun _ => True) HF.out (fun _ _ _ => trivial) trivial)) (fun _ _ _ => trivial), ?_, (HB.out.alloc HB.out.size _).alloc (by simp; have := HB.out.size; omega) _⟩
    have := one_made (Q := fun _ => True) (h1 := h2) (args_al (.cells #[.int .i64 h1.k, .int .i64 h1.op, .int .i64 h1.v, .int .i64 h1.ln, .string (st h1.nm), .slice a1 n1 c1] 31) HG.out) (fun _ _ _ => trivial) trivial
    have e : (w3.alloc (.cells #[.int .i64 h1.k, .int .i64 h1.op, .int .i64 h1.v, .int .i64 h1.ln, .string (st h1.nm), .slice a1 n1 c1] 31)).heap.size = w3.heap.size + 1 := by simp
    rw [e] at this
    exact this)
  go_wp2_with fail
  refine (exprs_any (one1 h1 F) false _ _ (one1 h2 G) _ _ _ HW.out.1 HW.out.2.1).mono ?_
  rintro e w5 ⟨rfl, hb5⟩
  have HB5 := Lib.hid (HW.out.2.2.trans (hb5.mono HW.out.2.2.size))
  clear hb5
  go_wp2_with fail
  refine bodyPost_ret (v := .bool (eqF false (one1 h1 F) (one1 h2 G))) (by simp [results, Tryd.results13, go_sem]) rfl ?_
  exact ⟨rfl, HB5.out⟩
end Go.Proofs.YtlbjdglgnkajnaaDoor
