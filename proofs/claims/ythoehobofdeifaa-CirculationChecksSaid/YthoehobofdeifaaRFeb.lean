/-
  CONTRACTS of the reference's Feasible and Cost, for networks of any numbers. (Filled in from a template of this repo.)
-/
import Derived.Test.YthoehobofdeifaaRFea
import Derived.Test.YthoehobofdeifaaCirG
namespace Go.Proofs.Ythoehobofdeifaa
open Go.ChangeShapes Go.WideShapes Go.ChangeAt Go.RowKit
set_option linter.unusedVariables false

set_option maxRecDepth 100000 in
set_option maxHeartbeats 4000000 in
theorem RFeasible_any (R : Rw) (a : Option Addr) (ca : Nat) (hm : R.m ≤ 9223372036854775806) (la : Option Addr) (n lc : Nat) (x : Nat → Int) (hn : n ≤ 9223372036854775806) (w : World) (h : RA w a R.m R.A) (hx : Rd w la n x) :
    Calls Try.prog 18 #[R.val a ca, .slice la n lc] w fun e w' => e = .returned (.bool (R.feas n x)) ∧ Below w.heap.size w w' := by
  have hb0 : Below w.heap.size w (w.alloc (.cells #[.int .i64 R.V, .slice a R.m ca] 25)) := (Below.refl _ _).alloc (Nat.le_refl _) _
  have H := Lib.hid h
  have HB0 := Lib.hid hb0
  by_cases hg : R.good
  · by_cases hnm : n = R.m
    · rw [Rw.val_eq hg]
      exact RFeasible_good R hg a ca la n lc x hnm w h hx
    · have HE := Lib.hid (Rw.feas_false (R := R) (n := n) (x := x) (fun h => hnm h.2.1))
      have HG := Lib.hid hg
      have hne : ((n : Int) != (R.m : Int)) = true := by simp; omega
      have hc1 : (w.alloc (.cells #[.int .i64 R.V, .slice a R.m ca] 25)).cell? ⟨w.heap.size, 1, none⟩ = some (.slice a R.m ca) := cell_mk _ _ _ rfl rfl
      have HC1 := Lib.hid hc1
      clear h hb0 hg hnm hx hc1
      go_enter Try.func18, Try.ntmps18
      go_wp2_with fail
      refine (RValid_any R a ca hm _ (H.out.below HB0.out)).mono ?_
      rintro e w1 ⟨rfl, hb1⟩
      rw [Rw.okB_true HG.out]
      have c1 := (hb1.cell (p := ⟨w.heap.size, 1, none⟩) (by simp)).trans HC1.out
      have HB1 := Lib.hid (HB0.out.trans (hb1.mono HB0.out.size))
      clear hb1
      go_wp2_with fail
      go_ret
      exact ⟨by rw [HE.out]; rfl, HB1.out⟩
  · have HE := Lib.hid (Rw.feas_false (R := R) (n := n) (x := x) (fun h => hg h.1))
    have HG := Lib.hid hg
    clear h hb0 hg hx
    go_enter Try.func18, Try.ntmps18
    go_wp2_with fail
    refine (RValid_any R a ca hm _ (H.out.below HB0.out)).mono ?_
    rintro e w1 ⟨rfl, hb1⟩
    rw [Rw.okB_false HG.out]
    have HB1 := Lib.hid (HB0.out.trans (hb1.mono HB0.out.size))
    clear hb1
    go_wp2_with fail
    go_ret
    exact ⟨by rw [HE.out]; rfl, HB1.out⟩
set_option maxRecDepth 100000 in
set_option maxHeartbeats 4000000 in
theorem RCost_any (R : Rw) (a : Option Addr) (ca : Nat) (hm : R.m ≤ 9223372036854775806) (la : Option Addr) (n lc : Nat) (x : Nat → Int) (hn : n ≤ 9223372036854775806) (w : World) (h : RA w a R.m R.A) (hx : Rd w la n x) :
    Calls Try.prog 20 #[R.val a ca, .slice la n lc] w fun e w' => e = .returned (.int .i64 (R.costB n x)) ∧ Below w.heap.size w w' := by
  have hb0 : Below w.heap.size w (w.alloc (.cells #[.int .i64 R.V, .slice a R.m ca] 25)) := (Below.refl _ _).alloc (Nat.le_refl _) _
  have hc1 : (w.alloc (.cells #[.int .i64 R.V, .slice a R.m ca] 25)).cell? ⟨w.heap.size, 1, none⟩ = some (.slice a R.m ca) := cell_mk _ _ _ rfl rfl
  have HC1 := Lib.hid hc1
  have H := Lib.hid h
  have HX := Lib.hid hx
  have HB0 := Lib.hid hb0
  cases hf : R.feas n x
  · have HE : Hid (R.costB n x = 0) := Lib.hid (by unfold Rw.costB; rw [hf]; rfl)
    have HF := Lib.hid hf
    clear h hb0 hx hc1 hf
    go_enter Try.func20, Try.ntmps20
    go_wp2_with fail
    refine (RFeasible_any R a ca hm la n lc x hn _ (H.out.below HB0.out) (HX.out.below HB0.out)).mono ?_
    rintro e w1 ⟨rfl, hb1⟩
    rw [HF.out]
    have HB1 := Lib.hid (HB0.out.trans (hb1.mono HB0.out.size))
    clear hb1
    go_wp2_with fail
    go_ret
    exact ⟨by rw [HE.out]; rfl, HB1.out⟩
  · have HE : Hid (R.costB n x = ck R.nw x R.m) := Lib.hid (by unfold Rw.costB; rw [if_pos hf]; rfl)
    obtain ⟨hg, hnm, hci⟩ := (R.feas_iff n x).1 hf
    subst hnm
    have HA := Lib.hid (RA.arcs hg h)
    have HV := Lib.hid (Rw.valid hg)
    have HCI := Lib.hid hci
    have HF := Lib.hid hf
    have HVE : Hid (R.m = R.nw.m) := Lib.hid rfl
    have hm2 := (Rw.valid hg).m2
    clear h hb0 hx hc1 hf hci hg
    go_enter Try.func20, Try.ntmps20
    go_wp2_with fail
    refine (RFeasible_any R a ca hm la R.m lc x hn _ (H.out.below HB0.out) (HX.out.below HB0.out)).mono ?_
    rintro e w1 ⟨rfl, hb1⟩
    rw [HF.out]
    have HB1 := Lib.hid (HB0.out.trans (hb1.mono HB0.out.size))
    have c1 := (hb1.cell (p := ⟨w.heap.size, 1, none⟩) (by simp)).trans HC1.out
    have hlt1 := block_lt_of_cell c1
    clear hb1
    obtain ⟨N, hN⟩ : ∃ N, R.nw = N := ⟨_, rfl⟩
    have hNm : N.m = R.m := by rw [← hN]; rfl
    rw [hN] at HA HV HCI HE hm2
    rw [hNm] at hm2
    have HNM := Lib.hid hNm
    clear hN hNm HVE
    go_wp2_with fail
    go_loopw [5, 6] (fun v5 v6 wr => ∃ i : Nat, i ≤ R.m ∧ v6 = .int .i64 i ∧ v5 = .int .i64 (ck N x i) ∧ Hid (Below w1.heap.size w1 wr)) (fun _ v _ => R.m - (intOf v).toNat)
    case atStart => exact ⟨0, by omega, rfl, rfl, Lib.hid (Below.refl _ _)⟩
    case round =>
      obtain ⟨i, hi, rfl, rfl, HB⟩ := hrel
      have c1 := (HB.out.cell (p := ⟨w.heap.size, 1, none⟩) hlt1).trans c1
      have hltr := block_lt_of_cell c1
      have HBW := Lib.hid (HB1.out.trans (HB.out.mono HB1.out.size))
      by_cases hlt : i < R.m
      · have hlt2 : i < N.m := by rw [HNM.out]; exact hlt
        obtain ⟨b, off, rfl, hb, k0, k1, k2, k3, k4⟩ := HA.out.below HBW.out i hlt2
        obtain ⟨bl, offl, rfl, hbl, p0⟩ := HX.out.below HBW.out i hlt
        have hcb := ck_bd HV.out HCI.out.1 (k := i) (by omega)
        have hc := HV.out.c i hlt2
        have hxb := flow_bd HV.out HCI.out.1 hlt2
        have hpr := mul_bd hc.1 hc.2 hxb.1 hxb.2
        have HS : Hid (ck N x (i + 1) = ck N x i + N.c i * x i) := Lib.hid rfl
        clear k0 k1 k2 k3
        obtain ⟨s, hs⟩ : ∃ s, ck N x i = s := ⟨_, rfl⟩
        rw [hs] at hcb HS ⊢
        have hw1 : IntKind.i64.wrap (N.c i * x i) = N.c i * x i := by rw [IntKind.wrap_i64]; omega
        have hw2 : IntKind.i64.wrap (s + N.c i * x i) = s + N.c i * x i := by rw [IntKind.wrap_i64]; omega
        clear hs hcb hc hxb hpr
        go_upto_region 7 with fail
        go_quiet (fail)
        clear hw1 hw2
        go_wp2
        exact ⟨⟨i + 1, by omega, by go_num, by rw [HS.out], Lib.hid (below_drewN HB.out _)⟩, by simp [intOf]; omega⟩
      · obtain rfl : i = R.m := by omega
        go_wp2
        go_ret
        exact ⟨by rw [HE.out]; rfl, HBW.out⟩
end Go.Proofs.Ythoehobofdeifaa
