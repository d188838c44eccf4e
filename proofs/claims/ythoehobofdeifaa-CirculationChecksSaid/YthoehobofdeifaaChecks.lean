/-
  It is proved that CirculationChecks returns true for every input: both sides agree on which networks are valid, which lists are circulations, and what they cost, under no further condition.
-/
import Derived.Test.YthoehobofdeifaaGrw
import Derived.Test.YthoehobofdeifaaNetI
import Derived.Test.YthoehobofdeifaaFlW
import Derived.Test.YthoehobofdeifaaRFeb
import Derived.Test.YthoehobofdeifaaRVal
import Derived.Test.YthoehobofdeifaaCirG
import Derived.Test.YthoehobofdeifaaSoW
namespace Go.Proofs.Ythoehobofdeifaa.circulationChecks
open Go.ChangeShapes Go.WideShapes Go.ChangeAt Go.RowKit
set_option linter.unusedVariables false

theorem own : ownKnob Try.prog.godebug = none := by kernel_rfl
theorem laidOut : laidOutB Try.prog = true := by kernel_rfl
set_option linter.unusedVariables false
set_option linter.unusedSimpArgs false

set_option maxRecDepth 100000 in
set_option maxHeartbeats 8000000 in
theorem walk (a0 : Option Addr) (len0 cap0 : Nat) (z0 : List Int) (R : Rw) (a1 : Option Addr) (c1 : Nat) (a2 : Option Addr) (len2 cap2 : Nat) (z2 : List Int) (w : World) (w0 : InInts .u8 w a0 len0 cap0 z0) (w1 : RA w a1 R.m R.A) (w2 : InInts .i64 w a2 len2 cap2 z2) :
    Calls Try.prog 3 #[.slice a0 len0 cap0, R.val a1 c1, .slice a2 len2 cap2] w fun e w' => e = .returned (.bool true) ∧ Below w.heap.size w w' := by
  have HX : Hid (∀ W, W = (w.alloc (.cells #[.int .i64 R.V, .slice a1 R.m c1] 25)) → W.heap[w.heap.size]? = some (.cells #[.int .i64 R.V, .slice a1 R.m c1] 25 (0, 0)) ∧ Below w.heap.size w W ∧ InInts .u8 W a0 len0 cap0 z0 ∧ RA W a1 R.m R.A ∧ Rd W a2 len2 (fun j => z2.getD j 0) ∧ w.heap.size < W.heap.size) := Lib.hid (fun W hW => by
    subst hW
    have hb : Below w.heap.size w (w.alloc (.cells #[.int .i64 R.V, .slice a1 R.m c1] 25)) := (Below.refl _ _).alloc (Nat.le_refl _) _
    exact ⟨heap_alloc_new w _, hb, w0.below hb, w1.below hb, (Rd.of_ints w2).below hb, by simp⟩)
  clear w0 w1 w2
  by_cases hsb : smB R.V R.m = false
  · have HSB := Lib.hid hsb
    go_enter Try.func3, Try.ntmps3
    go_upto_region 1 with fail
    obtain ⟨wb, hwb⟩ : ∃ wb, wb = (w.alloc (.cells #[.int .i64 R.V, .slice a1 R.m c1] 25)) := ⟨_, rfl⟩
    rw [← hwb]
    obtain ⟨hn, hb1, hi, hra, hrd, hsz⟩ := HX.out wb hwb
    have HB1 := Lib.hid hb1
    have n0 := cell_of_row _ _ 0 _ _ _ hn
    have n1 := cell_of_row _ _ 1 _ _ _ hn
    have nl := heap_lt hn
    obtain ⟨gn, hgn⟩ : ∃ gn, w.heap.size = gn := ⟨_, rfl⟩
    have HGN := Lib.hid hgn
    rw [hgn] at n0 n1 nl ⊢
    clear hwb hn hb1 hgn HX hi hra hrd hsz
    go_wp2_with fail
    refine (awake_any _).mono ?_
    rintro e w1 ⟨rfl, hb1⟩
    replace n0 := (hb1.cell (p := ⟨gn, 0, none⟩) nl).trans n0
    replace n1 := (hb1.cell (p := ⟨gn, 1, none⟩) nl).trans n1
    replace nl := block_lt_of_cell n0
    have HB2 := Lib.hid (HB1.out.trans (hb1.mono HB1.out.size))
    clear hb1 HB1
    go_wp2_with fail
    refine (small_any R.V a1 R.m c1 _).mono ?_
    rintro e w2 ⟨rfl, hb1⟩
    rw [HSB.out]
    replace n0 := (hb1.cell (p := ⟨gn, 0, none⟩) nl).trans n0
    replace n1 := (hb1.cell (p := ⟨gn, 1, none⟩) nl).trans n1
    replace nl := block_lt_of_cell n0
    have HB3 := Lib.hid (HB2.out.trans (hb1.mono HB2.out.size))
    clear hb1 HB2
    go_wp2_with fail
    refine (small_any R.V a1 R.m c1 _).mono ?_
    rintro e w3 ⟨rfl, hb1⟩
    rw [HSB.out]
    have HB4 := Lib.hid (HB3.out.trans (hb1.mono HB3.out.size))
    clear hb1 HB3
    go_wp2_with fail
    go_ret
    exact ⟨rfl, HB4.out⟩
  have hsb' : smB R.V R.m = true := by cases h : smB R.V R.m <;> simp_all
  have HSB := Lib.hid hsb'
  have hRm : R.m ≤ 12 := by unfold smB at hsb'; simp at hsb'; omega
  have HRM := Lib.hid hRm
  clear hsb hsb' hRm
  by_cases hl : 40 < len2
  · have dl : decide (40 < (len2 : Int)) = true := by rw [decide_eq_true_iff]; omega
    clear hl
    go_enter Try.func3, Try.ntmps3
    go_upto_region 1 with fail
    obtain ⟨wb, hwb⟩ : ∃ wb, wb = (w.alloc (.cells #[.int .i64 R.V, .slice a1 R.m c1] 25)) := ⟨_, rfl⟩
    rw [← hwb]
    obtain ⟨hn, hb1, hi, hra, hrd, hsz⟩ := HX.out wb hwb
    have HB1 := Lib.hid hb1
    have n0 := cell_of_row _ _ 0 _ _ _ hn
    have n1 := cell_of_row _ _ 1 _ _ _ hn
    have nl := heap_lt hn
    obtain ⟨gn, hgn⟩ : ∃ gn, w.heap.size = gn := ⟨_, rfl⟩
    have HGN := Lib.hid hgn
    rw [hgn] at n0 n1 nl ⊢
    clear hwb hn hb1 hgn HX hi hra hrd hsz
    go_wp2_with fail
    refine (awake_any _).mono ?_
    rintro e w1 ⟨rfl, hb1⟩
    replace n0 := (hb1.cell (p := ⟨gn, 0, none⟩) nl).trans n0
    replace n1 := (hb1.cell (p := ⟨gn, 1, none⟩) nl).trans n1
    replace nl := block_lt_of_cell n0
    have HB2 := Lib.hid (HB1.out.trans (hb1.mono HB1.out.size))
    clear hb1 HB1
    go_wp2_with fail
    refine (small_any R.V a1 R.m c1 _).mono ?_
    rintro e w2 ⟨rfl, hb1⟩
    rw [HSB.out]
    replace n0 := (hb1.cell (p := ⟨gn, 0, none⟩) nl).trans n0
    replace n1 := (hb1.cell (p := ⟨gn, 1, none⟩) nl).trans n1
    replace nl := block_lt_of_cell n0
    have HB3 := Lib.hid (HB2.out.trans (hb1.mono HB2.out.size))
    clear hb1 HB2
    go_wp2_with fail
    refine (small_any R.V a1 R.m c1 _).mono ?_
    rintro e w3 ⟨rfl, hb1⟩
    rw [HSB.out]
    have HB4 := Lib.hid (HB3.out.trans (hb1.mono HB3.out.size))
    clear hb1 HB3
    go_wp2_with fail
    go_ret
    exact ⟨rfl, HB4.out⟩
  have dl : decide (40 < (len2 : Int)) = false := by rw [decide_eq_false_iff_not]; omega
  have hl40 : len2 ≤ 40 := by omega
  have HL40 := Lib.hid hl40
  clear hl hl40
  go_enter Try.func3, Try.ntmps3
  go_upto_region 1 with fail
  obtain ⟨wb, hwb⟩ : ∃ wb, wb = (w.alloc (.cells #[.int .i64 R.V, .slice a1 R.m c1] 25)) := ⟨_, rfl⟩
  rw [← hwb]
  obtain ⟨hn, hb0, hi, hra, hrd, hsz⟩ := HX.out wb hwb
  have HB0 := Lib.hid hb0
  have HN0 := Lib.hid hn
  have HI0 := Lib.hid hi
  have HRA0 := Lib.hid hra
  have HRD0 := Lib.hid hrd
  have HSZ := Lib.hid hsz
  have n0 := cell_of_row _ _ 0 _ _ _ hn
  have n1 := cell_of_row _ _ 1 _ _ _ hn
  have nl := heap_lt hn
  obtain ⟨gn, hgn⟩ : ∃ gn, w.heap.size = gn := ⟨_, rfl⟩
  have HGN := Lib.hid hgn
  rw [hgn] at n0 n1 nl HN0 HSZ ⊢
  clear hwb hn hb0 hgn HX hi hra hrd hsz
  go_wp2_with fail
  refine (awake_any _).mono ?_
  rintro e w1 ⟨rfl, hb1⟩
  replace n0 := (hb1.cell (p := ⟨gn, 0, none⟩) nl).trans n0
  replace n1 := (hb1.cell (p := ⟨gn, 1, none⟩) nl).trans n1
  replace nl := block_lt_of_cell n0
  have HB1 := Lib.hid hb1
  clear hb1
  go_wp2_with fail
  refine (small_any R.V a1 R.m c1 _).mono ?_
  rintro e w2 ⟨rfl, hb1⟩
  rw [HSB.out]
  have HB2 := Lib.hid (HB1.out.trans (hb1.mono HB1.out.size))
  have HI2 := Lib.hid (HI0.out.below HB2.out)
  clear hb1 HB1 HI0 n0 n1 nl
  go_wp2_with fail
  refine (New_any a0 len0 cap0 z0 120 (by omega) (by omega) _ HI2.out).mono ?_
  rintro e w3 ⟨g, rfl, hg, hcod, hb3⟩
  have hgw : wb.heap.size ≤ g := by have := HB2.out.size; omega
  have HG3 := Lib.hid (grownBy_of_below (HB2.out.trans (hb3.mono HB2.out.size)) (some g))
  have HC3 := Lib.hid hcod
  have HGW := Lib.hid hgw
  clear hb3 hcod HI2 hg HB2 hgw
  go_wp2_with fail
  refine (Network_any g _ HC3.out).mono ?_
  rintro e w4 ⟨V, l, v, rfl, hsm, hown, hcod4, hg4⟩
  have HG4 := Lib.hid (grownBy_trans HG3.out hg4)
  obtain ⟨av, cv, rfl, hlc, hcm, hArc, hblk⟩ := Arcs.of_own (V := V) hown
  have hnil := own_nil hown
  obtain ⟨av', cv', e1, _, _, _, hcells, _⟩ := Cells.of_own hown
  injection e1 with e1 e2 e3
  subst e1 e3
  have HNIL := Lib.hid hnil
  have hgl3 := HC3.out.lt
  have HBLK : Hid (∀ x, av = some x → x.block ≠ g) := Lib.hid (fun x hx => by have := hblk x hx; omega)
  have HCL := Lib.hid hcells
  have HC4 := Lib.hid hcod4
  have HRA4 := Lib.hid (rwA_nets hArc)
  have HARC4 := Lib.hid hArc
  have HVAL := Lib.hid (hsm.valid (by omega) (by omega) (by omega))
  have hl9 := hsm.m
  clear hown hsm hArc hblk hnil hcells hcod4 hg4 e2 HC3 HG3 hgl3
  have hbA : Below w4.heap.size w4 (w4.alloc (.cells #[.int .i64 (V : Int), .slice av l.length cv] 25)) := (Below.refl _ _).alloc (Nat.le_refl _) _
  have HBA := Lib.hid hbA
  clear hbA
  have hgl4 := HC4.out.lt
  go_wp2_with fail
  refine (OddNetwork_any g V l hl9 av cv hlc HNIL.out _ (HC4.out.alloc _) (HCL.out.below HBA.out)).mono ?_
  rintro e w5 ⟨Q, a3, c3, rfl, hQ9, hra, hfar, hcod5, hg5⟩
  have hX0 : w5.heap[w4.heap.size]? = some (.cells #[.int .i64 (V : Int), .slice av l.length cv] 25 (0, 0)) := (hg5.block w4.heap.size (by simp) (fun e => by injection e with e; omega)).trans (heap_alloc_new w4 _)
  have HG5 := Lib.hid (grownBy_trans HG4.out (grownBy_trans (grownBy_of_below HBA.out (some g)) hg5))
  have HRQ5 := Lib.hid hra
  have HC5 := Lib.hid hcod5
  have HRX5 : Hid (RA w5 av l.length (rwA V l.length (fun j => l.getD j default)).A) := Lib.hid ((HRA4.out.below HBA.out).grown hg5 (fun _ x hx => HBLK.out x hx))
  have HARC5 : Hid (Arcs w5 av (nwOf V l)) := Lib.hid ((HARC4.out.below HBA.out).grown hg5 (fun _ x hx => HBLK.out x hx))
  have HFAR : Hid (∀ x, a3 = some x → x.block ≠ g) := Lib.hid (fun x hx => by
    have h1 := hfar x hx
    have hs : (w4.alloc (.cells #[.int .i64 (V : Int), .slice av l.length cv] 25)).heap.size = w4.heap.size + 1 := by simp
    omega)
  have HNG : Hid (w4.heap.size ≠ g) := Lib.hid (by omega)
  have hX1 : w5.heap[gn]? = some (.cells #[.int .i64 R.V, .slice a1 R.m c1] 25 (0, 0)) := (HG5.out.block gn HSZ.out (fun e => by injection e with e; have := HGW.out; have := HSZ.out; omega)).trans HN0.out
  have y0 := cell_of_row _ _ 0 _ _ _ hX0
  have y1 := cell_of_row _ _ 1 _ _ _ hX0
  have yl := heap_lt hX0
  have n0 := cell_of_row _ _ 0 _ _ _ hX1
  have n1 := cell_of_row _ _ 1 _ _ _ hX1
  have nl := heap_lt hX1
  obtain ⟨gx, hgx⟩ : ∃ gx, w4.heap.size = gx := ⟨_, rfl⟩
  rw [hgx] at y0 y1 yl HNG ⊢
  clear hra hfar hcod5 hg5 HRA4 HARC4 HC4 HG4 HCL HBA hX0 hX1 hgx hgl4 HNIL
  clear w4
  go_upto_region 6 with fail
  obtain ⟨w6, hw6⟩ : ∃ w6, w6 = (w5.alloc (.cells #[.int .i64 Q.V, .slice a3 Q.m c3] 25)) := ⟨_, rfl⟩
  rw [← hw6]
  have hb6 : Below w5.heap.size w5 w6 := by rw [hw6]; exact (Below.refl _ _).alloc (Nat.le_refl _) _
  have z0 : w6.cell? ⟨w5.heap.size, 0, none⟩ = some (.int .i64 Q.V) := by rw [hw6]; exact cell_mk _ _ _ rfl rfl
  have z1 : w6.cell? ⟨w5.heap.size, 1, none⟩ = some (.slice a3 Q.m c3) := by rw [hw6]; exact cell_mk _ _ _ rfl rfl
  have zl := block_lt_of_cell z0
  replace y0 := (hb6.cell (p := ⟨gx, 0, none⟩) yl).trans y0
  replace y1 := (hb6.cell (p := ⟨gx, 1, none⟩) yl).trans y1
  replace yl := block_lt_of_cell y0
  replace n0 := (hb6.cell (p := ⟨gn, 0, none⟩) nl).trans n0
  replace n1 := (hb6.cell (p := ⟨gn, 1, none⟩) nl).trans n1
  replace nl := block_lt_of_cell n0
  have HG6 := Lib.hid (grownBy_trans HG5.out (grownBy_of_below hb6 (some g)))
  have HRQ6 := Lib.hid (HRQ5.out.below hb6)
  have HRX6 := Lib.hid (HRX5.out.below hb6)
  have HARC6 := Lib.hid (HARC5.out.below hb6)
  have HC6 := Lib.hid (HC5.out.under hb6)
  obtain ⟨gy, hgy⟩ : ∃ gy, w5.heap.size = gy := ⟨_, rfl⟩
  rw [hgy] at z0 z1 zl ⊢
  clear hw6 hgy hb6 HG5 HRQ5 HRX5 HARC5 HC5
  clear w5
  go_upto_region 7 with fail
  have HST : Hid (∀ W, W = (w6.alloc (.cells #[.int .i64 R.V, .slice a1 R.m c1, .int .i64 (V : Int), .slice av l.length cv, .int .i64 Q.V, .slice a3 Q.m c3] 25)) → Below w6.heap.size w6 W ∧ (∀ k, k < 3 → ∃ (Z : Rw) (a : Option Addr) (c : Nat), W.cell? ⟨w6.heap.size, k * 2, none⟩ = some (.int .i64 Z.V) ∧ W.cell? ⟨w6.heap.size, k * 2 + 1, none⟩ = some (.slice a Z.m c) ∧ Z.m ≤ 12 ∧ RA W a Z.m Z.A ∧ (0 < Z.m → ∀ x, a = some x → x.block ≠ g))) := Lib.hid (fun W hW => by
    subst hW
    have hb : Below w6.heap.size w6 (w6.alloc (.cells #[.int .i64 R.V, .slice a1 R.m c1, .int .i64 (V : Int), .slice av l.length cv, .int .i64 Q.V, .slice a3 Q.m c3] 25)) := (Below.refl _ _).alloc (Nat.le_refl _) _
    refine ⟨hb, fun k hk => ?_⟩
    have hk3 : k = 0 ∨ k = 1 ∨ k = 2 := by omega
    rcases hk3 with rfl | rfl | rfl
    · have hng : 0 < R.m → ∀ x, a1 = some x → x.block ≠ g := fun hm x hx => by have := HRA0.out.lts hm x hx; have := HGW.out; omega
      exact ⟨R, a1, c1, cell_mk _ _ _ rfl rfl, cell_mk _ _ _ rfl rfl, HRM.out, (HRA0.out.grown HG6.out hng).below hb, hng⟩
    · exact ⟨rwA V l.length (fun j => l.getD j default), av, cv, cell_mk _ _ _ rfl rfl, cell_mk _ _ _ rfl rfl, (show l.length ≤ 12 by omega), HRX6.out.below hb, fun _ x hx => HBLK.out x hx⟩
    · exact ⟨Q, a3, c3, cell_mk _ _ _ rfl rfl, cell_mk _ _ _ rfl rfl, by omega, HRQ6.out.below hb, fun _ x hx => HFAR.out x hx⟩)
  obtain ⟨w7, hw7⟩ : ∃ w7, w7 = (w6.alloc (.cells #[.int .i64 R.V, .slice a1 R.m c1, .int .i64 (V : Int), .slice av l.length cv, .int .i64 Q.V, .slice a3 Q.m c3] 25)) := ⟨_, rfl⟩
  rw [← hw7]
  obtain ⟨hb7, hst⟩ := HST.out w7 hw7
  have hgl6 := HC6.out.lt
  obtain ⟨gb, hgb⟩ : ∃ gb, w6.heap.size = gb := ⟨_, rfl⟩
  have hgbl : gb < w7.heap.size := by rw [hw7, ← hgb]; simp
  rw [hgb] at hst hgl6 ⊢
  have HNETS : Hid (∀ W, w7.grownBy W (some g) → ∀ k, k < 3 → ∃ (Z : Rw) (a : Option Addr) (c : Nat), W.cell? ⟨gb, k * 2, none⟩ = some (.int .i64 Z.V) ∧ W.cell? ⟨gb, k * 2 + 1, none⟩ = some (.slice a Z.m c) ∧ Z.m ≤ 12 ∧ RA W a Z.m Z.A ∧ (0 < Z.m → ∀ x, a = some x → x.block ≠ g)) := Lib.hid (fun W hW k hk => by
    obtain ⟨Z, a, c, q0, q1, q2, q3, q4⟩ := hst k hk
    exact ⟨Z, a, c, cell_grown hW (by omega) q0, cell_grown hW (by omega) q1, q2, q3.grown hW q4, q4⟩)
  have HFLW : Hid (∀ W, w7.grownBy W (some g) → W.cell? ⟨gx, 0, none⟩ = some (.int .i64 (V : Int)) ∧ W.cell? ⟨gx, 1, none⟩ = some (.slice av l.length cv) ∧ Arcs W av (nwOf V l)) := Lib.hid (fun W hW =>
    ⟨cell_grown hW HNG.out ((hb7.cell (p := ⟨gx, 0, none⟩) yl).trans y0), cell_grown hW HNG.out ((hb7.cell (p := ⟨gx, 1, none⟩) yl).trans y1), (HARC6.out.below hb7).grown hW (fun _ x hx => HBLK.out x hx)⟩)
  have HRDL : Hid (∀ W, w7.grownBy W (some g) → Rd W a2 len2 (fun j => z2.getD j 0)) := Lib.hid (fun W hW => by
    have hng : 0 < len2 → ∀ x, a2 = some x → x.block ≠ g := fun hm x hx => by have := HRD0.out.lts hm x hx; have := HGW.out; omega
    exact ((HRD0.out.grown HG6.out hng).below hb7).grown hW hng)
  have HC7 := Lib.hid (HC6.out.under hb7)
  have HFIN : Hid (∀ W, w7.grownBy W (some g) → Below w.heap.size w W) := Lib.hid (fun W hW => below_grown1 HB0.out (grownBy_trans HG6.out (grownBy_trans (grownBy_of_below hb7 (some g)) hW)) HB0.out.size (by have := HB0.out.size; have := HGW.out; omega))
  have HGL7 := Lib.hid (show gb < w7.heap.size from hgbl)
  have HGB : Hid (gb ≠ g) := Lib.hid (by omega)
  clear hw7 hb7 hst hgb hgl6 hgbl HST y0 y1 yl z0 z1 zl n0 n1 nl HRA0 HRD0 HG6 HRQ6 HRX6 HARC6 HC6 HNG HFAR HN0 HB0 HGW HSZ HGN
  clear w6
  go_loopw [46] (fun v46 wr => ∃ k : Nat, k ≤ 3 ∧ v46 = .int .i64 k ∧ Hid (w7.grownBy wr (some g) ∧ Cod wr g)) (fun v _ => 3 - (intOf v).toNat)
  case atStart => exact ⟨0, by omega, rfl, Lib.hid ⟨grownBy_of_below (Below.refl _ _) _, HC7.out⟩⟩
  case round =>
    obtain ⟨k, hk, rfl, HR⟩ := hrel
    by_cases hlt : k < 3
    · obtain ⟨Z, a, c, c0, c1, hZ12, hra, hza⟩ := HNETS.out wr HR.out.1 k hlt
      obtain ⟨x0, x1, harc⟩ := HFLW.out wr HR.out.1
      have HRA := Lib.hid hra
      have HARC := Lib.hid harc
      have HZA := Lib.hid hza
      have hlr := HR.out.2.lt
      have hgbl := block_lt_of_cell c0
      clear hra harc hza
      go_upto_region 9 with fail
      obtain ⟨wA, hwA⟩ : ∃ wA, wA = (wr.alloc (.cells #[.int .i64 Z.V, .slice a Z.m c] 25)) := ⟨_, rfl⟩
      rw [← hwA]
      have hbA : Below wr.heap.size wr wA := by rw [hwA]; exact (Below.refl _ _).alloc (Nat.le_refl _) _
      have e0 : wA.cell? ⟨wr.heap.size, 0, none⟩ = some (.int .i64 Z.V) := by rw [hwA]; exact cell_mk _ _ _ rfl rfl
      have e1 : wA.cell? ⟨wr.heap.size, 1, none⟩ = some (.slice a Z.m c) := by rw [hwA]; exact cell_mk _ _ _ rfl rfl
      have xl := block_lt_of_cell x0
      replace x0 := (hbA.cell (p := ⟨gx, 0, none⟩) xl).trans x0
      replace x1 := (hbA.cell (p := ⟨gx, 1, none⟩) xl).trans x1
      have HGA : Hid (w7.grownBy wA (some g) ∧ Cod wA g) := Lib.hid ⟨grownBy_trans HR.out.1 (grownBy_of_below hbA _), HR.out.2.under hbA⟩
      have HRAA := Lib.hid (HRA.out.below hbA)
      have HARCA := Lib.hid (HARC.out.below hbA)
      obtain ⟨gz, hgz⟩ : ∃ gz, wr.heap.size = gz := ⟨_, rfl⟩
      rw [hgz] at e0 e1 hlr ⊢
      have ez := block_lt_of_cell e0
      have HGZ : Hid (gz ≠ g) := Lib.hid (by omega)
      clear hwA hgz c0 c1 hbA hlr HRA HARC hgbl xl
      go_wp2_with fail
      refine (flow_any g (nwOf V l) HVAL.out (show l.length ≤ 12 by omega) av cv _ HARCA.out HGA.out.2).mono ?_
      rintro e wB ⟨s, n, c2, f, rfl, hnm, hrs, hsb, hcB, hgB⟩
      have HGB2 : Hid (w7.grownBy wB (some g) ∧ Cod wB g) := Lib.hid ⟨grownBy_trans HGA.out.1 hgB, hcB⟩
      have HRAB := Lib.hid (HRAA.out.grown hgB HZA.out)
      replace e0 := cell_grown hgB HGZ.out e0
      replace e1 := cell_grown hgB HGZ.out e1
      replace ez := block_lt_of_cell e0
      have HRS := Lib.hid hrs
      have hn10 : n ≤ 13 := by have : (nwOf V l).m = l.length := rfl; omega
      clear hrs hsb hcB hgB HGA HRAA HARCA x0 x1 hnm
      go_upto_region 10 with fail
      have HST : Hid (∀ W, W = (wB.alloc (.cells #[.slice a2 len2 cap2, .slice s n c2] 26)) → Below wB.heap.size wB W ∧ (∀ j, j < 2 → ∃ (s : Option Addr) (n c : Nat) (f : Nat → Int), W.cell? ⟨wB.heap.size, j, none⟩ = some (.slice s n c) ∧ n ≤ 40 ∧ Rd W s n f)) := Lib.hid (fun W hW => by
        subst hW
        have hb : Below wB.heap.size wB (wB.alloc (.cells #[.slice a2 len2 cap2, .slice s n c2] 26)) := (Below.refl _ _).alloc (Nat.le_refl _) _
        refine ⟨hb, fun j hj => ?_⟩
        have hj2 : j = 0 ∨ j = 1 := by omega
        rcases hj2 with rfl | rfl
        · exact ⟨a2, len2, cap2, _, cell_mk _ _ _ rfl rfl, HL40.out, (HRDL.out wB HGB2.out.1).below hb⟩
        · exact ⟨s, n, c2, f, cell_mk _ _ _ rfl rfl, by omega, HRS.out.below hb⟩)
      obtain ⟨wC, hwC⟩ : ∃ wC, wC = (wB.alloc (.cells #[.slice a2 len2 cap2, .slice s n c2] 26)) := ⟨_, rfl⟩
      rw [← hwC]
      obtain ⟨hbC, hst⟩ := HST.out wC hwC
      replace e0 := (hbC.cell (p := ⟨gz, 0, none⟩) ez).trans e0
      replace e1 := (hbC.cell (p := ⟨gz, 1, none⟩) ez).trans e1
      replace ez := block_lt_of_cell e0
      obtain ⟨gl, hgl⟩ : ∃ gl, wB.heap.size = gl := ⟨_, rfl⟩
      have hgll : gl < wC.heap.size := by rw [hwC, ← hgl]; simp
      rw [hgl] at hst ⊢
      have HROW : Hid (∀ W, Below wC.heap.size wC W → ∀ j, j < 2 → ∃ (s : Option Addr) (n c : Nat) (f : Nat → Int), W.cell? ⟨gl, j, none⟩ = some (.slice s n c) ∧ n ≤ 40 ∧ Rd W s n f) := Lib.hid (fun W hW j hj => by
        obtain ⟨s, n, c, f, h1, h2, h3⟩ := hst j hj
        exact ⟨s, n, c, f, (hW.cell (p := ⟨gl, j, none⟩) hgll).trans h1, h2, h3.below hW⟩)
      have HNET : Hid (∀ W, Below wC.heap.size wC W → W.cell? ⟨gz, 0, none⟩ = some (.int .i64 Z.V) ∧ W.cell? ⟨gz, 1, none⟩ = some (.slice a Z.m c) ∧ RA W a Z.m Z.A ∧ w7.grownBy W (some g) ∧ Cod W g) := Lib.hid (fun W hW =>
        ⟨(hW.cell (p := ⟨gz, 0, none⟩) ez).trans e0, (hW.cell (p := ⟨gz, 1, none⟩) ez).trans e1, (HRAB.out.below hbC).below hW, grownBy_trans HGB2.out.1 (grownBy_trans (grownBy_of_below hbC _) (grownBy_of_below hW _)), (HGB2.out.2.under hbC).under hW⟩)
      have HGLL := Lib.hid hgll
      clear hwC hgl hgll hst hbC e0 e1 ez HGB2 HRAB HRS HST HGZ
      clear wB
      go_loopw [56] (fun v56 wr => ∃ j : Nat, j ≤ 2 ∧ v56 = .int .i64 j ∧ Hid (Below wC.heap.size wC wr)) (fun v _ => 2 - (intOf v).toNat)
      case atStart => exact ⟨0, by omega, rfl, Lib.hid (Below.refl _ _)⟩
      case round =>
        obtain ⟨j, hj, rfl, HRJ⟩ := hrel
        by_cases hjt : j < 2
        · obtain ⟨s, n, c3, f, r0, hn40, hrd⟩ := HROW.out wr HRJ.out j hjt
          obtain ⟨e0, e1, hra, hgr, hcr⟩ := HNET.out wr HRJ.out
          have gll := block_lt_of_cell r0
          have HV1 : Hid (∀ W, Below wr.heap.size wr W → Calls Try.prog 15 #[.agg #[.int .i64 Z.V, .slice a Z.m c]] W fun e w' => e = .returned (.bool Z.okB) ∧ Below W.heap.size W w') := Lib.hid (fun W hW => Valid_any Z a c (by omega) W (hra.below hW))
          have HV2 : Hid (∀ W, Below wr.heap.size wr W → Calls Try.prog 16 #[.agg #[.int .i64 Z.V, .slice a Z.m c]] W fun e w' => e = .returned (.bool Z.okB) ∧ Below W.heap.size W w') := Lib.hid (fun W hW => RValid_any Z a c (by omega) W (hra.below hW))
          have HF1 : Hid (∀ W, Below wr.heap.size wr W → Calls Try.prog 17 #[.agg #[.int .i64 Z.V, .slice a Z.m c], .slice s n c3] W fun e w' => e = .returned (.bool (Z.feas n f)) ∧ Below W.heap.size W w') := Lib.hid (fun W hW => Feasible_any Z a c (by omega) s n c3 f (by omega) W (hra.below hW) (hrd.below hW))
          have HF2 : Hid (∀ W, Below wr.heap.size wr W → Calls Try.prog 18 #[.agg #[.int .i64 Z.V, .slice a Z.m c], .slice s n c3] W fun e w' => e = .returned (.bool (Z.feas n f)) ∧ Below W.heap.size W w') := Lib.hid (fun W hW => RFeasible_any Z a c (by omega) s n c3 f (by omega) W (hra.below hW) (hrd.below hW))
          have HK1 : Hid (∀ W, Below wr.heap.size wr W → Calls Try.prog 19 #[.agg #[.int .i64 Z.V, .slice a Z.m c], .slice s n c3] W fun e w' => e = .returned (.int .i64 (Z.costB n f)) ∧ Below W.heap.size W w') := Lib.hid (fun W hW => Cost_any Z a c (by omega) s n c3 f (by omega) W (hra.below hW) (hrd.below hW))
          have HK2 : Hid (∀ W, Below wr.heap.size wr W → Calls Try.prog 20 #[.agg #[.int .i64 Z.V, .slice a Z.m c], .slice s n c3] W fun e w' => e = .returned (.int .i64 (Z.costB n f)) ∧ Below W.heap.size W w') := Lib.hid (fun W hW => RCost_any Z a c (by omega) s n c3 f (by omega) W (hra.below hW) (hrd.below hW))
          generalize Z.okB = bv at HV1 HV2
          generalize Z.feas n f = bf at HF1 HF2
          generalize Z.costB n f = kc at HK1 HK2
          have d1 : (bv != bv) = false := by simp
          have d2 : (bf != bf) = false := by simp
          have d3 : (kc != kc) = false := by simp
          clear hra hrd hgr hcr
          go_upto_region 12 with fail
          refine wp_region_below (by kernel_rfl) (by kernel_rfl) ?_
          have g1 := fun x : Since wr => x.cell e0
          have g2 := fun x : Since wr => x.cell e1
          repeat (go_big_quiet_step (first
            | (go_at_call 15; exact calls_since _ (HV1.out _ (Since.property _)))
            | (go_at_call 16; exact calls_since _ (HV2.out _ (Since.property _)))
            | (go_at_call 17; exact calls_since _ (HF1.out _ (Since.property _)))
            | (go_at_call 18; exact calls_since _ (HF2.out _ (Since.property _)))
            | (go_at_call 19; exact calls_since _ (HK1.out _ (Since.property _)))
            | (go_at_call 20; exact calls_since _ (HK2.out _ (Since.property _)))))
          refine wpQuiet_nil ?_
          intro W1 hb1
          clear g1 g2 e0 e1 r0 gll
          have HRJ2 := Lib.hid (HRJ.out.trans (hb1.mono HRJ.out.size))
          clear hb1
          go_wp2_with fail
          go_roundw
          case rel => exact ⟨j + 1, by omega, by go_num, HRJ2⟩
          case measure => simp [intOf]; omega
        · obtain rfl : j = 2 := by omega
          have HN2 := Lib.hid (HNET.out wr HRJ.out)
          go_wp2_with fail
          go_roundw
          case rel => exact ⟨k + 1, by omega, by go_num, Lib.hid ⟨HN2.out.2.2.2.1, HN2.out.2.2.2.2⟩⟩
          case measure => simp [intOf]; omega
    · obtain rfl : k = 3 := by omega
      go_wp2_with fail
      go_ret
      exact ⟨rfl, HFIN.out _ HR.out.1⟩

/-! ### THE ROW's STEP -/
set_option maxRecDepth 100000 in
theorem lifted (os : Os) (started : os.Started) (H : Type) (enc : TypeId × Value → H) :
    ReturnsInHanded {} Try.checked os 3 .any (Rows.circulationChecksSpec.pre6 enc Try.prog Try.f3 Rows.circulationChecksRow.domain false) (Rows.circulationChecksSpec.post enc Try.prog Try.f3 false true false false) := by
  refine returnsInHanded_of_change (C := Try.checked) own started (by kernel_rfl) Try.func3
    (ChangeSpec.witness6 (enc := enc) (C := Try.checked) false ⟨#[], #[.slice none 0 0, .agg #[.int .i64 0, .slice none 0 0], .slice none 0 0], []⟩ 8 (by kernel_rfl) (by kernel_rfl) (by kernel_rfl) (by kernel_rfl)) ?_
  intro W base args ds gs before hval0 hW hcnd _
  have hval : ∀ (j : Nat) t v, Try.f3.params[j]? = some t → args[j]? = some v → Value.okWide Try.prog W .any base t v := hval0
  have hW' := hW
  obtain ⟨p, q, hA0, hV, rfl, hfz, hnd⟩ := hW
  have hA : DataW.TrodAll enc Try.prog W 0 (fun _ => true) true Try.f3.params.toList args.toList ds p := hA0
  rw [Try.params3] at hA hval
  obtain ⟨v0, vs0, d0, ds0, p0, q0, hargs, rfl, rfl, h0, r0⟩ := trodAll_cons hA
  obtain ⟨v1, vs1, d1, ds1, p1, q1, rfl, rfl, rfl, h1, r1⟩ := trodAll_cons r0
  obtain ⟨v2, vs2, d2, ds2, p2, q2, rfl, rfl, rfl, h2, r2⟩ := trodAll_cons r1
  obtain ⟨rfl, rfl, rfl⟩ := trodAll_nil r2
  obtain rfl : args = #[v0, v1, v2] := by cases args; simp_all
  obtain ⟨rfl, rfl⟩ := trodVars_none hV
  have k0 := h0
  have lt0 : ∀ x ∈ p0, x.block < W.heap.size := by obtain ⟨m, hm⟩ := k0; exact DataW.trod_lt m _ _ _ hm
  obtain ⟨a0, len0, cap0, zs0, rfl, w0⟩ := in_ints (k := .u8) Try.underlying22 Try.underlying5 (by kernel_rfl) (hval 0 22 v0 rfl rfl) h0
  have k1 := h1
  have lt1 : ∀ x ∈ p1, x.block < W.heap.size := by obtain ⟨m, hm⟩ := k1; exact DataW.trod_lt m _ _ _ hm
  obtain ⟨R1, a1, c1, rfl, w1⟩ := in_net (hval 1 25 v1 rfl rfl) h1
  have k2 := h2
  have lt2 : ∀ x ∈ p2, x.block < W.heap.size := by obtain ⟨m, hm⟩ := k2; exact DataW.trod_lt m _ _ _ hm
  obtain ⟨a2, len2, cap2, zs2, rfl, w2⟩ := in_ints (k := .i64) Try.underlying26 Try.underlying3 (by kernel_rfl) (hval 2 26 v2 rfl rfl) h2
  clear hA0 hval0
  refine (walk a0 len0 cap0 zs0 R1 a1 c1 a2 len2 cap2 zs2 W w0 w1 w2).mono fun e W' ⟨he, bel⟩ => ?_
  subst he
  exact ⟨_, rfl, _, _, _, [], _, [], hW', trodAll_mk1 (shut_bool Try.underlying4 _), (trodAll_cons_mk (Below.trod laidOut (by kernel_rfl) (of_decide_eq_true (by kernel_rfl)) k0 bel lt0) (trodAll_cons_mk (Below.trod laidOut (by kernel_rfl) (of_decide_eq_true (by kernel_rfl)) k1 bel lt1) (trodAll_cons_mk (Below.trod laidOut (by kernel_rfl) (of_decide_eq_true (by kernel_rfl)) k2 bel lt2) trodAll_mk0))), rfl, bel.frame _, fun h => by cases h⟩

theorem over : Rows.circulationChecksRow.holds Try.pinned (OpenSpec.ofChange Rows.circulationChecksSpec) :=
  OpenClaim.holds_of_wide 3 Try.f3 rfl rfl rfl rfl rfl rfl rfl ⟨rfl, rfl, rfl, rfl, rfl⟩ rfl rfl rfl rfl rfl (by kernel_rfl) Try.func3 (by kernel_rfl)
    (of_decide_eq_true (by kernel_rfl)) (by unfold Func.isWrapper; first | (rw [if_pos (by decide +kernel)]; kernel_rfl) | (rw [if_neg (by decide +kernel)]; exact ⟨rfl, rfl⟩))
    (fun os started H enc _ => lifted os started H enc)

/-- the statement -/
theorem proved : Rows.CirculationChecksSaid := over
#print axioms proved
end Go.Proofs.Ythoehobofdeifaa.circulationChecks
