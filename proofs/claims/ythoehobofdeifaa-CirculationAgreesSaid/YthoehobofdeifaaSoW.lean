/-
  WALK of the law CirculationSolves. (Filled in from a template of this repo.)
-/
import Derived.Test.YthoehobofdeifaaRSo
import Derived.Test.YthoehobofdeifaaOdd
import Derived.Test.YthoehobofdeifaaSml
import Derived.Test.YthoehobofdeifaaRInt
import Derived.Test.YthoehobofdeifaaAwk
namespace Go.Proofs.Ythoehobofdeifaa
open Go.ChangeShapes Go.WideShapes Go.ChangeAt Go.RowKit
set_option linter.unusedVariables false
set_option linter.unusedSimpArgs false

theorem rwA_nets {w : World} {av : Option Addr} {V : Nat} {l : List Ar} (h : Arcs w av (nwOf V l)) : RA w av l.length (rwA V l.length (fun j => l.getD j default)).A := fun i hi => h i hi
set_option maxRecDepth 100000 in
set_option maxHeartbeats 8000000 in
theorem walk (a0 : Option Addr) (len0 cap0 : Nat) (z0 : List Int) (w : World) (w0 : InInts .u8 w a0 len0 cap0 z0) :
    Calls Try.prog 4 #[.slice a0 len0 cap0] w fun e w' => e = .returned (.bool true) ∧ Below w.heap.size w w' := by
  have HI := Lib.hid w0
  clear w0
  go_enter Try.func4, Try.ntmps4
  go_wp2_with fail
  refine (awake_any _).mono ?_
  rintro e w1 ⟨rfl, hb1⟩
  have HI1 := Lib.hid (HI.out.below hb1)
  have HB1 := Lib.hid hb1
  clear hb1
  go_wp2_with fail
  refine (New_any a0 len0 cap0 z0 120 (by omega) (by omega) _ HI1.out).mono ?_
  rintro e w2 ⟨g, rfl, hg, hcod, hb2⟩
  have HB2 := Lib.hid (HB1.out.trans (hb2.mono HB1.out.size))
  have hgw : w.heap.size ≤ g := by have := HB1.out.size; omega
  have HC2 := Lib.hid hcod
  clear hb2 hcod HI1 HI
  go_wp2_with fail
  refine (Network_any g _ HC2.out).mono ?_
  rintro e w3 ⟨V, l, v, rfl, hsm, hown, hcod3, hg3⟩
  have HB3 := Lib.hid (below_grown1 HB2.out hg3 HB2.out.size hgw)
  obtain ⟨av, cv, rfl, hlc, hcm, hArc, hblk⟩ := Arcs.of_own (V := V) hown
  have hnil := own_nil hown
  obtain ⟨av', cv', e1, _, _, _, hcells, _⟩ := Cells.of_own hown
  injection e1 with e1 e2 e3
  subst e1 e3
  have HNIL := Lib.hid hnil
  have hblk2 : ∀ x, av = some x → w2.heap.size ≤ x.block := hblk
  have HBLK := Lib.hid hblk2
  have HCL := Lib.hid hcells
  have HC3 := Lib.hid hcod3
  have HRA3 := Lib.hid (rwA_nets hArc)
  have hl9 := hsm.m
  have hgl3 := hcod3.lt
  clear hown hsm hArc hblk hblk2 hnil hcells hcod3 hg3 e2
  have hs3 : w.heap.size ≤ w3.heap.size := HB3.out.size
  have hbA : Below w3.heap.size w3 (w3.alloc (.cells #[.int .i64 (V : Int), .slice av l.length cv] 25)) := (Below.refl _ _).alloc (Nat.le_refl _) _
  have HBA := Lib.hid hbA
  clear hbA
  go_wp2_with fail
  refine (OddNetwork_any g V l hl9 av cv hlc HNIL.out _ (HC3.out.alloc _) (HCL.out.below HBA.out)).mono ?_
  rintro e w4 ⟨R, a2, ca2, rfl, hR9, hra, hfar, hcod4, hg4⟩
  have HX : Hid (w4.heap[w3.heap.size]? = some (.cells #[.int .i64 (V : Int), .slice av l.length cv] 25 (0, 0))) := Lib.hid ((hg4.block w3.heap.size (by simp) (fun e => by injection e with e; omega)).trans (heap_alloc_new w3 _))
  have HB4 := Lib.hid (below_grown1 (HB3.out.trans (HBA.out.mono hs3)) hg4 (by simp; omega) hgw)
  have HRA4 := Lib.hid hra
  have HRX4 : Hid (RA w4 av l.length (rwA V l.length (fun j => l.getD j default)).A) := Lib.hid ((HRA3.out.below HBA.out).kp (Kp.of_grown (X := [g]) hg4 (.inl (by simp))) (fun _ x hx => by
    have h1 := HBLK.out x hx
    have h2 := HC2.out.lt
    simp; omega))
  have x0 := cell_of_row _ _ 0 _ _ _ HX.out
  have x1 := cell_of_row _ _ 1 _ _ _ HX.out
  have xl := heap_lt HX.out
  have hs4 := HB4.out.size
  clear hra hfar hcod4 hg4 HRA3 HC3 HCL HBA
  go_upto_region 6 with fail
  have HC5 : Hid (∀ W, W = (w4.alloc (.cells #[.int .i64 R.V, .slice a2 R.m ca2] 25)) → W.cell? ⟨w4.heap.size, 0, none⟩ = some (.int .i64 R.V) ∧ W.cell? ⟨w4.heap.size, 1, none⟩ = some (.slice a2 R.m ca2) ∧ W.cell? ⟨w3.heap.size, 0, none⟩ = some (.int .i64 (V : Int)) ∧ W.cell? ⟨w3.heap.size, 1, none⟩ = some (.slice av l.length cv) ∧ w3.heap.size < W.heap.size ∧ w4.heap.size < W.heap.size ∧ Below w4.heap.size w4 W) := Lib.hid (fun W hW => by
    subst hW
    have hb : Below w4.heap.size w4 (w4.alloc (.cells #[.int .i64 R.V, .slice a2 R.m ca2] 25)) := (Below.refl _ _).alloc (Nat.le_refl _) _
    exact ⟨cell_mk _ _ _ rfl rfl, cell_mk _ _ _ rfl rfl, (hb.cell (p := ⟨w3.heap.size, 0, none⟩) xl).trans x0, (hb.cell (p := ⟨w3.heap.size, 1, none⟩) xl).trans x1, by simp; omega, by simp, hb⟩)
  obtain ⟨w5, hw5⟩ : ∃ w5, w5 = (w4.alloc (.cells #[.int .i64 R.V, .slice a2 R.m ca2] 25)) := ⟨_, rfl⟩
  rw [← hw5]
  obtain ⟨y0, y1, y2, y3, y4, y5, hb5⟩ := HC5.out w5 hw5
  have HB5 := Lib.hid (HB4.out.trans (hb5.mono hs4))
  have HRA5 := Lib.hid (HRA4.out.below hb5)
  have HRX5 := Lib.hid (HRX4.out.below hb5)
  obtain ⟨g3, hg3⟩ : ∃ g3, w3.heap.size = g3 := ⟨_, rfl⟩
  obtain ⟨g4, hg4⟩ : ∃ g4, w4.heap.size = g4 := ⟨_, rfl⟩
  rw [hg3] at y2 y3 y4 ⊢
  rw [hg4] at y0 y1 y5 ⊢
  clear hw5 HC5 x0 x1 xl hb5 HRA4 HRX4 HX HB4 HB3 hs4 hs3 hg3 hg4 HBLK HC2 HB2
  clear w4
  go_wp2_with fail
  have HBLK : Hid (∀ W, Below (w5.alloc (.cells #[.int .i64 (V : Int), .slice av l.length cv, .int .i64 R.V, .slice a2 R.m ca2] 25)).heap.size (w5.alloc (.cells #[.int .i64 (V : Int), .slice av l.length cv, .int .i64 R.V, .slice a2 R.m ca2] 25)) W → ∀ k, k < 2 → ∃ (Q : Rw) (a : Option Addr) (c : Nat), W.cell? ⟨w5.heap.size, k * 2, none⟩ = some (.int .i64 Q.V) ∧ W.cell? ⟨w5.heap.size, k * 2 + 1, none⟩ = some (.slice a Q.m c) ∧ Q.m ≤ 9 ∧ RA W a Q.m Q.A ∧ Below w.heap.size w W) := Lib.hid (fun W hW k hk => by
    have hb : Below w5.heap.size w5 (w5.alloc (.cells #[.int .i64 (V : Int), .slice av l.length cv, .int .i64 R.V, .slice a2 R.m ca2] 25)) := (Below.refl _ _).alloc (Nat.le_refl _) _
    have hB := hb.trans (hW.mono hb.size)
    have hwW := HB5.out.trans (hB.mono HB5.out.size)
    have hk2 : k = 0 ∨ k = 1 := by omega
    rcases hk2 with rfl | rfl
    · exact ⟨rwA V l.length (fun j => l.getD j default), av, cv, (hW.cell (p := ⟨w5.heap.size, 0, none⟩) (by simp)).trans (cell_mk _ _ _ rfl rfl), (hW.cell (p := ⟨w5.heap.size, 1, none⟩) (by simp)).trans (cell_mk _ _ _ rfl rfl), hl9, HRX5.out.below hB, hwW⟩
    · exact ⟨R, a2, ca2, (hW.cell (p := ⟨w5.heap.size, 2, none⟩) (by simp)).trans (cell_mk _ _ _ rfl rfl), (hW.cell (p := ⟨w5.heap.size, 3, none⟩) (by simp)).trans (cell_mk _ _ _ rfl rfl), hR9, HRA5.out.below hB, hwW⟩)
  obtain ⟨w6, hw6⟩ : ∃ w6, (w5.alloc (.cells #[.int .i64 (V : Int), .slice av l.length cv, .int .i64 R.V, .slice a2 R.m ca2] 25)) = w6 := ⟨_, rfl⟩
  have hgl6 : w5.heap.size < w6.heap.size := by rw [← hw6]; simp
  rw [hw6] at HBLK ⊢
  have HB6 : Hid (Below w.heap.size w w6) := Lib.hid (by rw [← hw6]; exact HB5.out.alloc HB5.out.size _)
  obtain ⟨gb, hgb⟩ : ∃ gb, w5.heap.size = gb := ⟨_, rfl⟩
  rw [hgb] at HBLK hgl6 ⊢
  clear hw6 hgb y0 y1 y2 y3 y4 y5 HB5 HRA5 HRX5
  clear w5
  go_loopw [25] (fun v25 wr => ∃ k : Nat, k ≤ 2 ∧ v25 = .int .i64 k ∧ Hid (Below w6.heap.size w6 wr)) (fun v _ => 2 - (intOf v).toNat)
  case atStart => exact ⟨0, by omega, rfl, Lib.hid (Below.refl _ _)⟩
  case round =>
    obtain ⟨k, hk, rfl, HBR⟩ := hrel
    have hgr : gb < wr.heap.size := by have := HBR.out.size; omega
    by_cases hlt : k < 2
    · obtain ⟨Q, a, c, c0, c1, hQ9, hra, hbw⟩ := HBLK.out wr HBR.out k hlt
      have HRA := Lib.hid hra
      have HBW := Lib.hid hbw
      clear hra hbw
      go_upto_region 9 with fail
      have HBA : Hid (Below wr.heap.size wr (wr.alloc (.cells #[.int .i64 Q.V, .slice a Q.m c] 25))) := Lib.hid ((Below.refl _ _).alloc (Nat.le_refl _) _)
      have e0 : (wr.alloc (.cells #[.int .i64 Q.V, .slice a Q.m c] 25)).cell? ⟨wr.heap.size, 0, none⟩ = some (.int .i64 Q.V) := cell_mk _ _ _ rfl rfl
      have e1 : (wr.alloc (.cells #[.int .i64 Q.V, .slice a Q.m c] 25)).cell? ⟨wr.heap.size, 1, none⟩ = some (.slice a Q.m c) := cell_mk _ _ _ rfl rfl
      obtain ⟨wA, hwA⟩ : ∃ wA, (wr.alloc (.cells #[.int .i64 Q.V, .slice a Q.m c] 25)) = wA := ⟨_, rfl⟩
      rw [hwA] at HBA e0 e1 ⊢
      obtain ⟨gz, hgz⟩ : ∃ gz, wr.heap.size = gz := ⟨_, rfl⟩
      rw [hgz] at e0 e1 ⊢
      have ez := block_lt_of_cell e0
      clear hwA hgz c0 c1 hgr
      go_wp2_with fail
      refine (small_any Q.V a Q.m c _).mono ?_
      rintro e wB ⟨rfl, hbB⟩
      replace e0 := (hbB.cell (p := ⟨gz, 0, none⟩) ez).trans e0
      replace e1 := (hbB.cell (p := ⟨gz, 1, none⟩) ez).trans e1
      replace ez := block_lt_of_cell e0
      have HBB := Lib.hid (HBA.out.trans (hbB.mono HBA.out.size))
      clear hbB HBA
      cases hsm : smB Q.V Q.m
      · go_wp2_with fail
        go_roundw
        case rel => exact ⟨k + 1, by omega, by go_num, Lib.hid (HBR.out.trans (HBB.out.mono HBR.out.size))⟩
        case measure => simp [intOf]; omega
      · clear hsm
        go_wp2_with fail
        refine (Solve_any Q a c (by omega) _ (HRA.out.below HBB.out)).mono ?_
        rintro e wC hpost
        obtain ⟨s1, n1, k1, f1, code1, rfl, hr1, hans1, hbC, hnm1⟩ := sol_of hpost
        replace e0 := (hbC.cell (p := ⟨gz, 0, none⟩) ez).trans e0
        replace e1 := (hbC.cell (p := ⟨gz, 1, none⟩) ez).trans e1
        replace ez := block_lt_of_cell e0
        have HBC := Lib.hid (HBB.out.trans (hbC.mono HBB.out.size))
        have HR1 := Lib.hid hr1
        have HANS1 := Lib.hid hans1
        clear hbC HBB hr1 hans1 hpost
        go_wp2_with fail
        refine (RSolve_any Q a c (by omega) _ (HRA.out.below HBC.out)).mono ?_
        rintro e wD hpost
        obtain ⟨s2, n2, k2, f2, code2, rfl, hr2, hans2, hbD, hnm2⟩ := sol_of hpost
        obtain ⟨hc12, hn12, hff⟩ := ansR_one HANS1.out hans2
        subst hc12
        subst hn12
        have HBD := Lib.hid (HBC.out.trans (hbD.mono HBC.out.size))
        have HR1D := Lib.hid (HR1.out.below hbD)
        have HR2 := Lib.hid hr2
        have HFF := Lib.hid hff
        have d0 : (code1 != code1) = false := by simp
        clear hbD HBC hr2 hans2 hpost HR1 HANS1 e0 e1 ez hff hnm2
        go_wp2_with fail
        refine (Ints_any s1 s2 n1 n1 k1 k2 f1 f2 (by omega) (by omega) true (by simp; exact HFF.out) _ HR1D.out HR2.out).mono ?_
        rintro e wE ⟨rfl, hbE⟩
        have HBE := Lib.hid (HBD.out.trans (hbE.mono HBD.out.size))
        clear hbE HBD d0
        go_wp2_with fail
        go_roundw
        case rel => exact ⟨k + 1, by omega, by go_num, Lib.hid (HBR.out.trans (HBE.out.mono HBR.out.size))⟩
        case measure => simp [intOf]; omega
    · obtain rfl : k = 2 := by omega
      go_wp2_with fail
      go_ret
      exact ⟨rfl, HB6.out.trans (HBR.out.mono HB6.out.size)⟩
end Go.Proofs.Ythoehobofdeifaa
