/-
  WALK of the sanity check of the laws of chapter 24. (Filled in from a template of this repo.)
-/
import Derived.Test.YthoehobofdeifaaCirG
namespace Go.Proofs.Ythoehobofdeifaa
open Go.ChangeShapes Go.WideShapes Go.ChangeAt Go.RowKit
set_option linter.unusedVariables false

/-- the example of the chapter -/
def R0 : Rw := ⟨2, 3, fun i => if i = 0 then ⟨0, 1, 0, 5, 2⟩ else if i = 1 then ⟨1, 0, 3, 9, 0⟩ else ⟨0, 1, 0, 2, 1⟩⟩
theorem three {i : Nat} (h : i < 3) : i = 0 ∨ i = 1 ∨ i = 2 := by omega
theorem R0_good : R0.good := by
  refine ⟨⟨by decide, by decide, by decide⟩, fun i hi => ?_⟩
  rcases three hi with rfl | rfl | rfl <;> decide
/-- its answer -/
def g0 (i : Nat) : Int := if i = 0 then 1 else if i = 1 then 3 else 2
theorem g0_circ : R0.nw.circ g0 := by
  refine ⟨fun i hi => ?_, fun v hv => ?_⟩
  · rcases three hi with rfl | rfl | rfl <;> decide
  · have : v = 0 ∨ v = 1 := by have h2 : v < 2 := hv; omega
    rcases this with rfl | rfl <;> decide
theorem g0_best : R0.nw.best g0 := by
  have hok : R0.nw.ok := (Rw.valid R0_good).ok
  refine best_end (p := fun v => if v = 0 then 0 else 2) hok (f0 := g0) ?_ g0_circ g0_circ (fun _ _ _ => rfl) (fun h hh hz => ?_)
  · intro i hi
    rcases three hi with rfl | rfl | rfl <;> decide
  · have h1 : h 1 = 3 := hz 1 (by decide) (by decide)
    have h2 : h 2 = 2 := hz 2 (by decide) (by decide)
    have h0 : h 0 = 1 := by
      have hv := hh.2 0 (by decide)
      have e : R0.nw.exc h 0 = 0 + (0 - h 0) + (h 1 - 0) + (0 - h 2) := rfl
      rw [e] at hv
      omega
    intro i hi _
    rcases three hi with rfl | rfl | rfl
    · rw [h0]; decide
    · rw [h1]; decide
    · rw [h2]; decide
theorem R0_cost {x : Nat → Int} (h0 : x 0 = 1) (h1 : x 1 = 3) (h2 : x 2 = 2) : R0.costB 3 x = 4 := by
  have hx : ∀ i, i < 3 → x i = g0 i := fun i hi => by
    rcases three hi with rfl | rfl | rfl
    · exact h0
    · exact h1
    · exact h2
  have hc : R0.nw.circ x := by
    refine ⟨fun i hi => by rw [hx i hi]; exact g0_circ.1 i hi, fun v hv => ?_⟩
    rw [← g0_circ.2 v hv]
    exact sm_congr fun i hi => by rw [hx i hi]
  have hf : R0.feas 3 x = true := Rw.feas_true ⟨R0_good, rfl, hc⟩
  unfold Rw.costB
  rw [if_pos hf]
  have e : R0.nw.cost x = 0 + 2 * x 0 + 0 * x 1 + 1 * x 2 := rfl
  rw [e, h0, h1, h2]; decide
theorem Solve_R0 (a : Option Addr) (ca : Nat) (w : World) (h : RA w a 3 R0.A) :
    Calls Try.prog 21 #[.agg #[.int .i64 2, .slice a 3 ca]] w fun e w' => (∃ (gf : Nat) (f : Nat → Int), e = .returned (.tuple #[.slice (some ⟨gf, 0, none⟩) 3 3, .int .i64 0]) ∧ IRow w' gf 3 f ∧ f 0 = 1 ∧ f 1 = 3 ∧ f 2 = 2) ∧ Below w.heap.size w w' := by
  refine (Solve_any R0 a ca (by decide) w h).mono ?_
  rintro e w' ⟨hb, he⟩
  have hok : R0.nw.ok := (Rw.valid R0_good).ok
  rcases he with ⟨hn, _⟩ | ⟨_, _, hn⟩ | ⟨_, gf, f, rfl, hr, _, hc⟩
  · exact absurd R0_good hn
  · exact absurd g0_circ (noc_none hok hn g0)
  · have hbest := best_one (cert_best hok hc) g0_best
    exact ⟨⟨gf, f, rfl, hr, hbest 0 (by decide), hbest 1 (by decide), hbest 2 (by decide)⟩, hb⟩
set_option maxRecDepth 100000 in
set_option maxHeartbeats 4000000 in
theorem awake_any (w : World) : Calls Try.prog 9 #[] w fun e w' => e = .returned (.bool true) ∧ Below w.heap.size w w' := by
  go_enter Try.func9, Try.ntmps9
  go_wp2_with fail
  have hn0 : ((w.alloc (.cells #[.int .i64 0, .int .i64 1, .int .i64 0, .int .i64 5, .int .i64 2, .int .i64 1, .int .i64 0, .int .i64 3, .int .i64 9, .int .i64 0, .int .i64 0, .int .i64 1, .int .i64 0, .int .i64 2, .int .i64 1] 46)).alloc (.cells #[.int .i64 2, .slice (some ⟨w.heap.size, 0, none⟩) 3 3] 25)).cell? ⟨w.heap.size + 1, 0, none⟩ = some (.int .i64 2) := cell_mk _ _ _ (by simp) rfl
  have hn1 : ((w.alloc (.cells #[.int .i64 0, .int .i64 1, .int .i64 0, .int .i64 5, .int .i64 2, .int .i64 1, .int .i64 0, .int .i64 3, .int .i64 9, .int .i64 0, .int .i64 0, .int .i64 1, .int .i64 0, .int .i64 2, .int .i64 1] 46)).alloc (.cells #[.int .i64 2, .slice (some ⟨w.heap.size, 0, none⟩) 3 3] 25)).cell? ⟨w.heap.size + 1, 1, none⟩ = some (.slice (some ⟨w.heap.size, 0, none⟩) 3 3) := cell_mk _ _ _ (by simp) rfl
  have hra : RA ((w.alloc (.cells #[.int .i64 0, .int .i64 1, .int .i64 0, .int .i64 5, .int .i64 2, .int .i64 1, .int .i64 0, .int .i64 3, .int .i64 9, .int .i64 0, .int .i64 0, .int .i64 1, .int .i64 0, .int .i64 2, .int .i64 1] 46)).alloc (.cells #[.int .i64 2, .slice (some ⟨w.heap.size, 0, none⟩) 3 3] 25)) (some ⟨w.heap.size, 0, none⟩) 3 R0.A := fun i hi => by
    refine ⟨w.heap.size, 0, rfl, by simp; omega, ?_⟩
    rcases three hi with rfl | rfl | rfl
    · exact ⟨cell_ml _ (cell_mk _ _ _ rfl rfl), cell_ml _ (cell_mk _ _ _ rfl rfl), cell_ml _ (cell_mk _ _ _ rfl rfl), cell_ml _ (cell_mk _ _ _ rfl rfl), cell_ml _ (cell_mk _ _ _ rfl rfl)⟩
    · exact ⟨cell_ml _ (cell_mk _ _ _ rfl rfl), cell_ml _ (cell_mk _ _ _ rfl rfl), cell_ml _ (cell_mk _ _ _ rfl rfl), cell_ml _ (cell_mk _ _ _ rfl rfl), cell_ml _ (cell_mk _ _ _ rfl rfl)⟩
    · exact ⟨cell_ml _ (cell_mk _ _ _ rfl rfl), cell_ml _ (cell_mk _ _ _ rfl rfl), cell_ml _ (cell_mk _ _ _ rfl rfl), cell_ml _ (cell_mk _ _ _ rfl rfl), cell_ml _ (cell_mk _ _ _ rfl rfl)⟩
  have hb0 : Below w.heap.size w ((w.alloc (.cells #[.int .i64 0, .int .i64 1, .int .i64 0, .int .i64 5, .int .i64 2, .int .i64 1, .int .i64 0, .int .i64 3, .int .i64 9, .int .i64 0, .int .i64 0, .int .i64 1, .int .i64 0, .int .i64 2, .int .i64 1] 46)).alloc (.cells #[.int .i64 2, .slice (some ⟨w.heap.size, 0, none⟩) 3 3] 25)) := ((Below.refl _ _).alloc (Nat.le_refl _) _).alloc (by simp) _
  have HB0 := Lib.hid hb0
  have HRA := Lib.hid hra
  have HN0 := Lib.hid hn0
  have HN1 := Lib.hid hn1
  clear hra hb0 hn0 hn1
  generalize ((w.alloc (.cells #[.int .i64 0, .int .i64 1, .int .i64 0, .int .i64 5, .int .i64 2, .int .i64 1, .int .i64 0, .int .i64 3, .int .i64 9, .int .i64 0, .int .i64 0, .int .i64 1, .int .i64 0, .int .i64 2, .int .i64 1] 46)).alloc (.cells #[.int .i64 2, .slice (some ⟨w.heap.size, 0, none⟩) 3 3] 25)) = w1 at *
  refine (Solve_R0 _ 3 _ HRA.out).mono ?_
  rintro e w2 ⟨⟨gf, f, rfl, hr, h0, h1, h2⟩, hb2⟩
  have q0 := hr.cell 0 (by omega)
  have q1 := hr.cell 1 (by omega)
  have q2 := hr.cell 2 (by omega)
  have hgl := hr.lt
  rw [h0] at q0
  rw [h1] at q1
  rw [h2] at q2
  have c0 := (hb2.cell (p := ⟨w.heap.size + 1, 0, none⟩) (block_lt_of_cell HN0.out)).trans HN0.out
  have c1 := (hb2.cell (p := ⟨w.heap.size + 1, 1, none⟩) (block_lt_of_cell HN1.out)).trans HN1.out
  have hnl := block_lt_of_cell c0
  have HB2 := Lib.hid (HB0.out.trans (hb2.mono HB0.out.size))
  have HRA2 := Lib.hid (HRA.out.below hb2)
  have HRD := Lib.hid (Rd.of_row hr)
  have HCO := Lib.hid (R0_cost h0 h1 h2)
  clear hb2 hr h0 h1 h2
  go_wp2_with fail
  refine (Cost_any R0 _ 3 (by decide) (some ⟨gf, 0, none⟩) 3 3 f (by omega) _ HRA2.out HRD.out).mono ?_
  rintro e w3 ⟨rfl, hb3⟩
  rw [HCO.out]
  have HB3 := Lib.hid (HB2.out.trans (hb3.mono HB2.out.size))
  clear hb3
  go_wp2_with fail
  go_ret
  exact ⟨rfl, HB3.out⟩
end Go.Proofs.Ythoehobofdeifaa
