/-
  What is proved: for every codes, level, looks, n and k the law StatisticsLevels of chapter 43 (statistics) returns true: which levels are valid, the share of a look, what is significant, and thresholds, or the errors, are those of the reference. No conditions.
-/
import Derived.Test.YtjlalilhmadmcaaTot
namespace Go.Proofs.Ytjlalilhmadmcaa.statisticsLevels
open Go.ChangeShapes Go.WideShapes Go.ChangeAt Go.RowKit
set_option linter.unusedVariables false

theorem own : ownKnob Try.prog.godebug = none := by kernel_rfl
theorem laidOut : laidOutB Try.prog = true := by kernel_rfl

theorem eight (w : World) (x0 x1 x2 x3 x4 x5 x6 x7 : Int) (t : TypeId) (k : Nat) (hk : k < 4) :
    ∃ x y : Int, (w.alloc (.cells #[.int .i64 x0, .int .i64 x1, .int .i64 x2, .int .i64 x3, .int .i64 x4, .int .i64 x5, .int .i64 x6, .int .i64 x7] t)).cell? ⟨w.heap.size, k * 2, none⟩ = some (.int .i64 x) ∧
      (w.alloc (.cells #[.int .i64 x0, .int .i64 x1, .int .i64 x2, .int .i64 x3, .int .i64 x4, .int .i64 x5, .int .i64 x6, .int .i64 x7] t)).cell? ⟨w.heap.size, k * 2 + 1, none⟩ = some (.int .i64 y) := by
  have : k = 0 ∨ k = 1 ∨ k = 2 ∨ k = 3 := by omega
  rcases this with rfl | rfl | rfl | rfl
  · exact ⟨x0, x1, by simp [go_sem], by simp [go_sem]⟩
  · exact ⟨x2, x3, by simp [go_sem], by simp [go_sem]⟩
  · exact ⟨x4, x5, by simp [go_sem], by simp [go_sem]⟩
  · exact ⟨x6, x7, by simp [go_sem], by simp [go_sem]⟩
theorem six (w : World) (x0 x1 x2 x3 x4 x5 : Int) (t : TypeId) (h1 : -9223372036854775808 ≤ x1 ∧ x1 ≤ 9223372036854775807) (h3 : -9223372036854775808 ≤ x3 ∧ x3 ≤ 9223372036854775807) (h5 : -9223372036854775808 ≤ x5 ∧ x5 ≤ 9223372036854775807) (k : Nat) (hk : k < 3) :
    ∃ x y : Int, (w.alloc (.cells #[.int .i64 x0, .int .i64 x1, .int .i64 x2, .int .i64 x3, .int .i64 x4, .int .i64 x5] t)).cell? ⟨w.heap.size, k * 2, none⟩ = some (.int .i64 x) ∧
      (w.alloc (.cells #[.int .i64 x0, .int .i64 x1, .int .i64 x2, .int .i64 x3, .int .i64 x4, .int .i64 x5] t)).cell? ⟨w.heap.size, k * 2 + 1, none⟩ = some (.int .i64 y) ∧ -9223372036854775808 ≤ y ∧ y ≤ 9223372036854775807 := by
  have : k = 0 ∨ k = 1 ∨ k = 2 := by omega
  rcases this with rfl | rfl | rfl
  · exact ⟨x0, x1, by simp [go_sem], by simp [go_sem], h1⟩
  · exact ⟨x2, x3, by simp [go_sem], by simp [go_sem], h3⟩
  · exact ⟨x4, x5, by simp [go_sem], by simp [go_sem], h5⟩
theorem two (w : World) (x0 x1 : Int) (t : TypeId) (h0 : -9223372036854775808 ≤ x0 ∧ x0 ≤ 9223372036854775807) (h1 : -9223372036854775808 ≤ x1 ∧ x1 ≤ 9223372036854775807) (k : Nat) (hk : k < 2) :
    ∃ x : Int, (w.alloc (.cells #[.int .i64 x0, .int .i64 x1] t)).cell? ⟨w.heap.size, k, none⟩ = some (.int .i64 x) ∧ -9223372036854775808 ≤ x ∧ x ≤ 9223372036854775807 := by
  have : k = 0 ∨ k = 1 := by omega
  rcases this with rfl | rfl
  · exact ⟨x0, by simp [go_sem], h0⟩
  · exact ⟨x1, by simp [go_sem], h1⟩

set_option maxRecDepth 100000 in
set_option maxHeartbeats 8000000 in
theorem walk (a0 : Option Addr) (len0 cap0 : Nat) (z0 : List Int) (num0 den0 a2 a3 a4 : Int) (w : World) (w0 : InInts .u8 w a0 len0 cap0 z0) (v1 : (Lit.int .i64 num0).wf = true) (v2 : (Lit.int .i64 den0).wf = true) (w2 : (Lit.int .i64 a2).wf = true) (w3 : (Lit.int .i64 a3).wf = true) (w4 : (Lit.int .i64 a4).wf = true) :
    Calls Try.prog 7 #[.slice a0 len0 cap0, .agg #[.int .i64 num0, .int .i64 den0], .int .i64 a2, .int .i64 a3, .int .i64 a4] w fun e w' => e = .returned (.bool true) ∧ Below w.heap.size w w' := by
  obtain ⟨b20, b21⟩ := bounds_i64 w2
  obtain ⟨b30, b31⟩ := bounds_i64 w3
  obtain ⟨b40, b41⟩ := bounds_i64 w4
  clear v1 v2 w2 w3 w4
  have HI := Lib.hid w0
  clear w0
  go_enter Try.func7, Try.ntmps7
  go_wp2_with (go_at_call 10; refine (awake_any _).mono ?_; rintro e w1 ⟨rfl, hb1⟩)
  have f0 : w1.cell? ⟨w.heap.size, 0, none⟩ = some (.int .i64 num0) := by rw [(bcell hb1).1 _ _ (by simp)]; simp [go_sem]
  have f1 : w1.cell? ⟨w.heap.size, 1, none⟩ = some (.int .i64 den0) := by rw [(bcell hb1).1 _ _ (by simp)]; simp [go_sem]
  have hb1' : Below w.heap.size w w1 := ((Below.refl _ _).alloc (Nat.le_refl _) _).trans (hb1.mono (by simp))
  have hsz1 : w.heap.size < w1.heap.size := by have := hb1.size; simp at this; omega
  clear hb1
  refine (New_any a0 len0 cap0 z0 40 (by omega) (by omega) _ ?hi).mono ?_
  case hi => exact HI.out.below hb1'
  rintro e w2 ⟨g, rfl, hg, hcod, hb2⟩
  have hbw2 := hb1'.trans (hb2.mono hb1'.size)
  have hglt := hcod.lt
  have f0 := (hb2.cell (p := ⟨w.heap.size, 0, none⟩) hsz1).trans f0
  have f1 := (hb2.cell (p := ⟨w.heap.size, 1, none⟩) hsz1).trans f1
  go_wp2_with fail
  refine (Next_any g 62 (by omega) _ hcod).mono ?_
  rintro e w3 ⟨m, rfl, m0, m1, hcod3, hg3⟩
  go_wp2_with fail
  refine (Next_any g 64 (by omega) _ hcod3).mono ?_
  rintro e w4 ⟨j, rfl, j0, j1, hcod4, hg4⟩
  have hgg := grownBy_trans hg3 hg4
  have f0 := (hgg.cell_far ⟨w.heap.size, 0, none⟩ (by simp; omega) (by simp; omega)).trans f0
  have f1 := (hgg.cell_far ⟨w.heap.size, 1, none⟩ (by simp; omega) (by simp; omega)).trans f1
  have hbw4 : Below w.heap.size w w4 := below_grown1 hbw2 hgg hbw2.size (by omega)
  have m2 : m < 62 := by omega
  have j2 : j < 64 := by omega
  have hz4 : w.heap.size < w4.heap.size := by have := hcod4.lt; omega
  clear hcod hcod3 hg3 hg4 hb2 hbw2 HI hgg hb1'
  go_wp2_with fail
  have tokA : True := trivial
  have tokB : True := trivial
  have tokC : True := trivial
  go_region_held3 (fun w' => w'.cell? ⟨w.heap.size, 0, none⟩ = some (.int .i64 num0) ∧ w'.cell? ⟨w.heap.size, 1, none⟩ = some (.int .i64 den0) ∧ Cod w' g ∧ Below w.heap.size w w' ∧ w.heap.size < w'.heap.size)
    ((go_split_ands; (repeat' apply And.intro) <;> first | (with_reducible assumption) | (with_reducible exact hcodc) | (with_reducible refine Cod.alloc ?_ _; with_reducible assumption) | (with_reducible refine Cod.drew ?_; with_reducible assumption) | (with_reducible refine Below.alloc ?_ ?_ _ <;> first | (with_reducible assumption) | (apply Nat.le_of_lt; with_reducible assumption)) | (with_reducible refine Below.drew ?_; with_reducible assumption) | (with_reducible refine below_grown1 ?_ hgc ?_ ?_ <;> first | (with_reducible assumption) | omega) | (simp; omega) | (rw [hgc.cell_far _ (by simp; omega) (by simp; omega)]; assumption) | (have := hgc.size; omega) | (refine (World.cell?_alloc_lt _ _ _ ?_).trans ?_ <;> first | (with_reducible assumption) | (show _ < _; omega))))
    (first
      | (go_at_call 13; refine (level_any g _ ?_).mono ?_; (go_split_ands; assumption); rintro e wc ⟨num1, den1, rfl, p1, p2, p3, p4, hcodc, hgc⟩)
      | (go_at_call 19; have tk := tokA; clear tk; clear tokA; refine (Next_any g _ (by omega) _ ?_).mono ?_; (go_split_ands; assumption); rintro e wc ⟨xa, rfl, xa0, xa1, hcodc, hgc⟩)
      | (go_at_call 19; have tk := tokB; clear tk; clear tokB; refine (Next_any g _ (by omega) _ ?_).mono ?_; (go_split_ands; assumption); rintro e wc ⟨xb, rfl, xb0, xb1, hcodc, hgc⟩)
      | (go_at_call 19; have tk := tokC; clear tk; clear tokC; refine (Next_any g _ (by omega) _ ?_).mono ?_; (go_split_ands; assumption); rintro e wc ⟨xc, rfl, xc0, xc1, hcodc, hgc⟩)
      | (go_at_call 20; refine (Int_any g _ ?_).mono ?_; (go_split_ands; assumption); rintro e wc ⟨yc, rfl, yc0, yc1, hcodc, hgc⟩))
  obtain ⟨hs0, hs1, hcodR, hbR, hszR⟩ := ‹_ ∧ _ ∧ Cod _ g ∧ _ ∧ _›
  have hgB : g < wc.heap.size := hcodc.lt
  have hgw : w.heap.size ≤ g := by omega
  have hx := fun k hk => eight wc num0 den0 num1 den1 xa (IntKind.i64.wrap (1000000 + xb)) yc xc 25 k hk
  generalize IntKind.i64.wrap (1000000 + xb) = xw at *
  obtain ⟨B, hB⟩ : ∃ B, wc.heap.size = B := ⟨_, rfl⟩
  rw [hB] at hx hgB
  have hBs : B < (wc.alloc (.cells #[.int .i64 num0, .int .i64 den0, .int .i64 num1, .int .i64 den1, .int .i64 xa, .int .i64 xw, .int .i64 yc, .int .i64 xc] 25)).heap.size := by simp [hB]
  rw [hB]
  generalize (wc.alloc (.cells #[.int .i64 num0, .int .i64 den0, .int .i64 num1, .int .i64 den1, .int .i64 xa, .int .i64 xw, .int .i64 yc, .int .i64 xc] 25)) = W0 at *
  have HX := Lib.hid hx
  clear hx hB hs0 hs1 hszR hcod4 f0 f1 hbw4 hz4 hglt hsz1 hg
  go_wp2_with fail
  go_loopw [57] (fun v wr => ∃ k : Nat, k ≤ 4 ∧ v = .int .i64 k ∧ Cod wr g ∧ W0.grownBy wr (some g)) (fun v _ => 4 - (intOf v).toNat)
  case atStart => exact ⟨0, by omega, rfl, hcodR, grownBy_refl _ _⟩
  case round =>
    obtain ⟨k, hk, rfl, hcod, hgr⟩ := hrel
    obtain ⟨wo, rfl⟩ : ∃ wo : World, wo = wr := ⟨_, rfl⟩
    have hbo : Below w.heap.size w wo := below_grown1 hbR hgr hbR.size hgw
    by_cases hlt : k < 4
    · obtain ⟨num, den, c0, c1⟩ := HX.out k hlt
      have d0 := (hgr.cell_far ⟨B, k * 2, none⟩ hBs (by simp; omega)).trans c0
      have d1 := (hgr.cell_far ⟨B, k * 2 + 1, none⟩ hBs (by simp; omega)).trans c1
      have hcl := hcod.lt
      clear c0 c1
      go_wp2_with fail
      refine (Next_any g 9 (by omega) _ ?_).mono ?_
      · exact hcod.alloc _
      rintro e w5 ⟨x9, rfl, x90, x91, hcod5, hg5⟩
      have e0 : w5.cell? ⟨wo.heap.size, 0, none⟩ = some (.int .i64 num) := by rw [hg5.cell_far _ (by simp) (by simp; omega)]; simp [go_sem]
      have e1 : w5.cell? ⟨wo.heap.size, 1, none⟩ = some (.int .i64 den) := by rw [hg5.cell_far _ (by simp) (by simp; omega)]; simp [go_sem]
      have x92 : x9 < 9 := by omega
      have hz5 : wo.heap.size < w5.heap.size := by have := hg5.size; simp at this; omega
      have hgr5 : W0.grownBy w5 (some g) := grownBy_trans (grownBy_trans hgr (World.grownBy_alloc wo _ _)) hg5
      clear d0 d1 hg5 hgr hcod
      go_wp2_with fail
      have hy := fun k hk => two w5 a2 (1 + x9) 3 ⟨b20, b21⟩ ⟨by omega, by omega⟩ k hk
      have HY := Lib.hid hy
      have hcod6 := hcod5.alloc (.cells #[.int .i64 a2, .int .i64 (1 + x9)] 3)
      have hgr6 : W0.grownBy (w5.alloc (.cells #[.int .i64 a2, .int .i64 (1 + x9)] 3)) (some g) := grownBy_trans hgr5 (World.grownBy_alloc w5 _ _)
      have e2 := (World.cell?_alloc_lt w5 (.cells #[.int .i64 a2, .int .i64 (1 + x9)] 3) ⟨wo.heap.size, 0, none⟩ hz5).trans e0
      have e3 := (World.cell?_alloc_lt w5 (.cells #[.int .i64 a2, .int .i64 (1 + x9)] 3) ⟨wo.heap.size, 1, none⟩ hz5).trans e1
      have hz6 : w5.heap.size < (w5.alloc (.cells #[.int .i64 a2, .int .i64 (1 + x9)] 3)).heap.size := by simp
      generalize (w5.alloc (.cells #[.int .i64 a2, .int .i64 (1 + x9)] 3)) = W6 at *
      obtain ⟨B6, hB6⟩ : ∃ B6, w5.heap.size = B6 := ⟨_, rfl⟩
      rw [hB6] at HY hz6 hz5 ⊢
      clear hy hB6 e0 e1 hcod5 hgr5
      go_loopw [67] (fun v wr => ∃ i : Nat, i ≤ 2 ∧ v = .int .i64 i ∧ Below W6.heap.size W6 wr) (fun v _ => 2 - (intOf v).toNat)
      case atStart => exact ⟨0, by omega, rfl, Below.refl _ _⟩
      case round =>
        obtain ⟨i, hi, rfl, hbi⟩ := hrel
        have l0 := (hbi.cell (p := ⟨wo.heap.size, 0, none⟩) (block_lt_of_cell e2)).trans e2
        have l1 := (hbi.cell (p := ⟨wo.heap.size, 1, none⟩) (block_lt_of_cell e3)).trans e3
        by_cases hi2 : i < 2
        · obtain ⟨y, cy, y0, y1⟩ := HY.out i hi2
          have ly := (hbi.cell (p := ⟨B6, i, none⟩) (block_lt_of_cell cy)).trans cy
          have hzr := hbi.size
          clear cy
          have hzo : wo.heap.size < wr.heap.size := by omega
          go_wp2_with fail
          refine (Share_tot num den y y0 y1 _).mono ?_
          rintro e w7 ⟨rfl, hb7⟩
          have k7 := (bcell hb7).1
          have z7 := hb7.size
          have zo7 : wo.heap.size < w7.heap.size := by omega
          go_wp2_with fail
          refine (refShare_tot num den y y0 y1 _).mono ?_
          rintro e w8 ⟨rfl, hb8⟩
          have k8 := (bcell hb8).1
          have z8 : w7.heap.size < w8.heap.size := by have := hb8.size; simp at this; omega
          have hend : Below W6.heap.size W6 w8 := hbi.trans ((hb7.trans ((((Below.refl _ _).alloc (Nat.le_refl _) _).trans (hb8.mono (by simp))).mono hb7.size)).mono hbi.size)
          clear hb7 hb8
          go_wp2_with fail
          go_roundw
          case rel => exact ⟨i + 1, by omega, by go_num, hend.alloc hend.size _⟩
          case measure => simp [intOf]; omega
        · have hzr := hbi.size
          have hzo : wo.heap.size < wr.heap.size := by omega
          have hgr7 : W0.grownBy wr (some g) := grownBy_trans hgr6 ⟨hbi.os, hbi.tape, hbi.output, hbi.size, fun k hk _ => hbi.block k hk⟩
          have hcod7 : Cod wr g := hcod6.below hbi hcod6.lt
          clear e2 e3 hgr6 hcod6 hbi HY
          go_wp2_with fail
          have hp := fun k hk => six wr a3 a4 m (j - 1) m a4 38 ⟨b40, b41⟩ ⟨by omega, by omega⟩ ⟨b40, b41⟩ k hk
          have HP := Lib.hid hp
          have e2 := (World.cell?_alloc_lt wr (.cells #[.int .i64 a3, .int .i64 a4, .int .i64 m, .int .i64 (j - 1), .int .i64 m, .int .i64 a4] 38) ⟨wo.heap.size, 0, none⟩ hzo).trans l0
          have e3 := (World.cell?_alloc_lt wr (.cells #[.int .i64 a3, .int .i64 a4, .int .i64 m, .int .i64 (j - 1), .int .i64 m, .int .i64 a4] 38) ⟨wo.heap.size, 1, none⟩ hzo).trans l1
          have hgr8 : W0.grownBy (wr.alloc (.cells #[.int .i64 a3, .int .i64 a4, .int .i64 m, .int .i64 (j - 1), .int .i64 m, .int .i64 a4] 38)) (some g) := grownBy_trans hgr7 (World.grownBy_alloc wr _ _)
          have hcod8 := hcod7.alloc (.cells #[.int .i64 a3, .int .i64 a4, .int .i64 m, .int .i64 (j - 1), .int .i64 m, .int .i64 a4] 38)
          have hz8 : wr.heap.size < (wr.alloc (.cells #[.int .i64 a3, .int .i64 a4, .int .i64 m, .int .i64 (j - 1), .int .i64 m, .int .i64 a4] 38)).heap.size := by simp
          generalize (wr.alloc (.cells #[.int .i64 a3, .int .i64 a4, .int .i64 m, .int .i64 (j - 1), .int .i64 m, .int .i64 a4] 38)) = W8 at *
          obtain ⟨B8, hB8⟩ : ∃ B8, wr.heap.size = B8 := ⟨_, rfl⟩
          rw [hB8] at HP hz8 hzo ⊢
          clear hp hgr7 hcod7 l0 l1 hB8
          go_loopw [103] (fun v wr => ∃ i : Nat, i ≤ 3 ∧ v = .int .i64 i ∧ Below W8.heap.size W8 wr) (fun v _ => 3 - (intOf v).toNat)
          case atStart => exact ⟨0, by omega, rfl, Below.refl _ _⟩
          case round =>
            obtain ⟨q, hq, rfl, hbq⟩ := hrel
            have l0 := (hbq.cell (p := ⟨wo.heap.size, 0, none⟩) (block_lt_of_cell e2)).trans e2
            have l1 := (hbq.cell (p := ⟨wo.heap.size, 1, none⟩) (block_lt_of_cell e3)).trans e3
            have hzq := hbq.size
            have hzoq : wo.heap.size < wr.heap.size := by omega
            by_cases hq3 : q < 3
            · obtain ⟨nn, kk, cn, ck, kk0, kk1⟩ := HP.out q hq3
              have ln := (hbq.cell (p := ⟨B8, q * 2, none⟩) (block_lt_of_cell cn)).trans cn
              have lk := (hbq.cell (p := ⟨B8, q * 2 + 1, none⟩) (block_lt_of_cell ck)).trans ck
              clear cn ck
              go_wp2_with fail
              refine (Significant_tot nn kk num den kk0 kk1 _).mono ?_
              rintro e w9 ⟨rfl, hb9⟩
              have k9 := (bcell hb9).1
              have z9 : wr.heap.size < w9.heap.size := by have := hb9.size; simp at this; omega
              have zo9 : wo.heap.size < w9.heap.size := by omega
              go_wp2_with fail
              refine (refSignificant_tot nn kk num den kk0 kk1 _).mono ?_
              rintro e w10 ⟨rfl, hb10⟩
              have k10 := (bcell hb10).1
              have z10 : wr.heap.size < w10.heap.size := by have := hb10.size; omega
              have zo10 : wo.heap.size < w10.heap.size := by omega
              go_wp2_with fail
              refine (Threshold_tot nn num den _).mono ?_
              rintro e w11 ⟨rfl, hb11⟩
              have k11 := (bcell hb11).1
              have z11 : wr.heap.size < w11.heap.size := by have := hb11.size; omega
              have zo11 : wo.heap.size < w11.heap.size := by omega
              go_wp2_with fail
              refine (refThreshold_tot nn num den _).mono ?_
              rintro e w12 ⟨rfl, hb12⟩
              have hend : Below W8.heap.size W8 w12 := hbq.trans ((((Below.refl _ _).alloc (Nat.le_refl _) _).trans ((hb9.trans ((hb10.trans ((hb11.trans (hb12.mono hb11.size)).mono hb10.size)).mono hb9.size)).mono (by simp))).mono hbq.size)
              clear k9 k10 k11 hb9 hb10 hb11 hb12
              go_wp2_with fail
              go_roundw
              case rel => exact ⟨q + 1, by omega, by go_num, hend⟩
              case measure => simp [intOf]; omega
            · have hgr9 : W0.grownBy wr (some g) := grownBy_trans hgr8 ⟨hbq.os, hbq.tape, hbq.output, hbq.size, fun k hk _ => hbq.block k hk⟩
              have hcod9 : Cod wr g := hcod8.below hbq hcod8.lt
              clear e2 e3 hgr8 hcod8 hbq HP
              go_wp2_with fail
              refine wp_region_below (by kernel_rfl) (by kernel_rfl) ?_
              have g1 : ∀ x : Since wr, x.val.cell? ⟨wo.heap.size, 0, none⟩ = some (.int .i64 num) := fun x => x.cell l0
              have g2 : ∀ x : Since wr, x.val.cell? ⟨wo.heap.size, 1, none⟩ = some (.int .i64 den) := fun x => x.cell l1
              repeat (go_big_quiet_step ((first
                  | (go_at_call 25; exact calls_since _ (valid_tot num den _))
                  | (go_at_call 26; exact calls_since _ (refvalid_tot num den _)))))
              refine wpQuiet_nil ?_
              intro w10 hb10
              have hgr10 : W0.grownBy w10 (some g) := grownBy_trans hgr9 ⟨hb10.os, hb10.tape, hb10.output, hb10.size, fun k hk _ => hb10.block k hk⟩
              have hcod10 : Cod w10 g := hcod9.below hb10 hcod9.lt
              clear g1 g2 hb10
              go_wp2_with fail
              go_roundw
              case rel => exact ⟨k + 1, by omega, by go_num, hcod10, hgr10⟩
              case measure => simp [intOf]; omega
    · go_wp2_with fail
      go_ret
      exact ⟨rfl, hbo⟩

/-! ### THE ROW's STEP -/
set_option maxRecDepth 100000 in
theorem lifted (os : Os) (started : os.Started) (H : Type) (enc : TypeId × Value → H) :
    ReturnsInHanded {} Try.checked os 7 .any (Rows.statisticsLevelsSpec.pre6 enc Try.prog Try.f7 Rows.statisticsLevelsRow.domain false) (Rows.statisticsLevelsSpec.post enc Try.prog Try.f7 false true false false) := by
  refine returnsInHanded_of_change (C := Try.checked) own started (by kernel_rfl) Try.func7
    (ChangeSpec.witness6 (enc := enc) (C := Try.checked) false ⟨#[], #[.slice none 0 0, .agg #[.int .i64 0, .int .i64 0], .int .i64 0, .int .i64 0, .int .i64 0], []⟩ 8 (by kernel_rfl) (by kernel_rfl) (by kernel_rfl) (by kernel_rfl)) ?_
  intro W base args ds gs before hval0 hW hcnd _
  have hval : ∀ (j : Nat) t v, Try.f7.params[j]? = some t → args[j]? = some v → Value.okWide Try.prog W .any base t v := hval0
  have hW' := hW
  obtain ⟨p, q, hA0, hV, rfl, hfz, hnd⟩ := hW
  have hA : DataW.TrodAll enc Try.prog W 0 (fun _ => true) true Try.f7.params.toList args.toList ds p := hA0
  rw [Try.params7] at hA hval
  obtain ⟨v0, vs0, d0, ds0, p0, q0, hargs, rfl, rfl, h0, r0⟩ := trodAll_cons hA
  obtain ⟨v1, vs1, d1, ds1, p1, q1, rfl, rfl, rfl, h1, r1⟩ := trodAll_cons r0
  obtain ⟨v2, vs2, d2, ds2, p2, q2, rfl, rfl, rfl, h2, r2⟩ := trodAll_cons r1
  obtain ⟨v3, vs3, d3, ds3, p3, q3, rfl, rfl, rfl, h3, r3⟩ := trodAll_cons r2
  obtain ⟨v4, vs4, d4, ds4, p4, q4, rfl, rfl, rfl, h4, r4⟩ := trodAll_cons r3
  obtain ⟨rfl, rfl, rfl⟩ := trodAll_nil r4
  obtain rfl : args = #[v0, v1, v2, v3, v4] := by cases args; simp_all
  obtain ⟨rfl, rfl⟩ := trodVars_none hV
  have k0 := h0
  have lt0 : ∀ x ∈ p0, x.block < W.heap.size := by obtain ⟨m, hm⟩ := k0; exact DataW.trod_lt m _ _ _ hm
  obtain ⟨a0, len0, cap0, zs0, rfl, w0⟩ := in_ints (k := .u8) Try.underlying31 Try.underlying5 (by kernel_rfl) (hval 0 31 v0 rfl rfl) h0
  have k1 := h1
  have lt1 : ∀ x ∈ p1, x.block < W.heap.size := by obtain ⟨m, hm⟩ := k1; exact DataW.trod_lt m _ _ _ hm
  obtain ⟨a1, b1, rfl, w1, x1⟩ := in_pair (k0 := .i64) (k1 := .i64) Try.underlying25 (by kernel_rfl) (by kernel_rfl) Try.underlying3 Try.underlying3 (hval 1 25 v1 rfl rfl) h1
  obtain ⟨a2, rfl, rfl, rfl, w2⟩ := open_int Try.underlying3 (hval 2 3 v2 rfl rfl) h2
  obtain ⟨a3, rfl, rfl, rfl, w3⟩ := open_int Try.underlying3 (hval 3 3 v3 rfl rfl) h3
  obtain ⟨a4, rfl, rfl, rfl, w4⟩ := open_int Try.underlying3 (hval 4 3 v4 rfl rfl) h4
  clear hA0 hval0
  refine (walk a0 len0 cap0 zs0 a1 b1 a2 a3 a4 W w0 w1 x1 w2 w3 w4).mono fun e W' ⟨he, bel⟩ => ?_
  subst he
  exact ⟨_, rfl, _, _, _, [], _, [], hW', trodAll_mk1 (shut_bool Try.underlying4 _), (trodAll_cons_mk (Below.trod laidOut (by kernel_rfl) (of_decide_eq_true (by kernel_rfl)) k0 bel lt0) (trodAll_cons_mk (Below.trod laidOut (by kernel_rfl) (of_decide_eq_true (by kernel_rfl)) k1 bel lt1) (trodAll_cons_mk (shut_int Try.underlying3 w2) (trodAll_cons_mk (shut_int Try.underlying3 w3) (trodAll_cons_mk (shut_int Try.underlying3 w4) trodAll_mk0))))), rfl, bel.frame _, fun h => by cases h⟩

theorem over : Rows.statisticsLevelsRow.holds Try.pinned (OpenSpec.ofChange Rows.statisticsLevelsSpec) :=
  OpenClaim.holds_of_wide 7 Try.f7 rfl rfl rfl rfl rfl rfl rfl ⟨rfl, rfl, rfl, rfl, rfl⟩ rfl rfl rfl rfl rfl (by kernel_rfl) Try.func7 (by kernel_rfl)
    (of_decide_eq_true (by kernel_rfl)) (by unfold Func.isWrapper; first | (rw [if_pos (by decide +kernel)]; kernel_rfl) | (rw [if_neg (by decide +kernel)]; exact ⟨rfl, rfl⟩))
    (fun os started H enc _ => lifted os started H enc)

/-- the statement -/
theorem proved : Rows.StatisticsLevelsSaid := over
#print axioms proved
end Go.Proofs.Ytjlalilhmadmcaa.statisticsLevels
