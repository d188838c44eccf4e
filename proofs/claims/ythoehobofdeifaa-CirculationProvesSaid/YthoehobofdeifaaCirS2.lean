/-
  CONTRACT of circulation.Solve, for networks of any numbers; WALKS of Feasible and Cost. (Filled in from a template of this repo.)
-/
import Derived.Test.YthoehobofdeifaaCirS
namespace Go.Proofs.Ythoehobofdeifaa
open Go.ChangeShapes Go.WideShapes Go.ChangeAt Go.RowKit
set_option linter.unusedVariables false

theorem Rw.val_eq {R : Rw} (hg : R.good) (a : Option Addr) (ca : Nat) : R.val a ca = R.nw.val a ca := by
  show Value.agg #[.int .i64 R.V, .slice a R.m ca] = Value.agg #[.int .i64 (R.nw.V : Int), .slice a R.m ca]
  rw [Rw.VI hg]
set_option maxRecDepth 100000 in
set_option maxHeartbeats 4000000 in
theorem Solve_any (R : Rw) (a : Option Addr) (ca : Nat) (hm : R.m ≤ 9223372036854775806) (w : World) (h : RA w a R.m R.A) :
    Calls Try.prog 21 #[R.val a ca] w (SolvePost R w) := by
  by_cases hg : R.good
  · rw [Rw.val_eq hg]
    refine (Solve_core R.nw (Rw.valid hg) a ca w (RA.arcs hg h) (fun w' hb => ?_)).mono ?_
    · have := Valid_any R a ca hm w' (h.below hb)
      rw [Rw.val_eq hg, Rw.okB_true hg] at this
      exact this
    · rintro e w' ⟨hb, he⟩
      refine ⟨hb, .inr ?_⟩
      rcases he with ⟨rfl, hn⟩ | ⟨gf, f, rfl, h1, h2, h3⟩
      · exact .inl ⟨hg, rfl, hn⟩
      · exact .inr ⟨hg, gf, f, rfl, h1, h2, h3⟩
  · have H := Lib.hid h
    have HG := Lib.hid hg
    have hb0 : Below w.heap.size w (w.alloc (.cells #[.int .i64 R.V, .slice a R.m ca] 25)) := (Below.refl _ _).alloc (Nat.le_refl _) _
    have HB0 := Lib.hid hb0
    clear h hb0 hg
    go_enter Try.func21, Try.ntmps21
    go_wp2_with fail
    refine (Valid_any R a ca hm _ (H.out.below HB0.out)).mono ?_
    rintro e w1 ⟨rfl, hb1⟩
    rw [Rw.okB_false HG.out]
    have HB1 := Lib.hid (HB0.out.trans (hb1.mono HB0.out.size))
    clear hb1
    go_wp2_with fail
    go_ret2
    exact ⟨HB1.out, .inl ⟨HG.out, rfl⟩⟩
end Go.Proofs.Ythoehobofdeifaa
