/-
  CIRCULATIONSCALES: all bounds times k lead to all flows times k, and costs that are shifted by potentials lead to the same answer.
-/
import Derived.Test.YthoehobofdeifaaScQ
import Derived.Test.YthoehobofdeifaaRInt
import Derived.Test.YthoehobofdeifaaCirH
namespace Go.Proofs.Ythoehobofdeifaa.circulationScales
open Go.ChangeShapes Go.WideShapes Go.ChangeAt Go.RowKit
set_option linter.unusedVariables false

theorem own : ownKnob Try.prog.godebug = none := by kernel_rfl
theorem laidOut : laidOutB Try.prog = true := by kernel_rfl
set_option linter.unusedVariables false
set_option linter.unusedSimpArgs false

theorem blk_new1 (w : World) (o : Obj) {b : Nat} (hb : b = w.heap.size) : ((w.alloc o).drew).heap[b]? = some o := by subst hb; exact heap_alloc_new w o
theorem blk_new2 (w : World) (o o' : Obj) {b : Nat} (hb : b = w.heap.size) : (((w.alloc o).alloc o').drew).heap[b]? = some o := by
  subst hb
  exact (Below.heap_alloc (w.alloc o) o' w.heap.size (by simp)).trans (heap_alloc_new w o)
theorem arvs_one (l : List Ar) : ∀ u ∈ arvs l, u.oneCell' = true := by
  intro u hu
  unfold arvs at hu
  rw [List.mem_flatMap] at hu
  obtain ⟨s, _, hs⟩ := hu
  simp at hs
  rcases hs with rfl | rfl | rfl | rfl | rfl <;> rfl
set_option maxRecDepth 100000 in
set_option maxHeartbeats 8000000 in
theorem walk (a0 : Option Addr) (len0 cap0 : Nat) (z0 : List Int) (k : Int) (a2 : Option Addr) (len2 cap2 : Nat) (z2 : List Int) (w : World) (w0 : InInts .u8 w a0 len0 cap0 z0) (w1 : (Lit.int .u16 k).wf = true) (w2 : InInts .u8 w a2 len2 cap2 z2) :
    Calls Try.prog 6 #[.slice a0 len0 cap0, .int .u16 k, .slice a2 len2 cap2] w fun e w' => e = .returned (.bool true) ∧ Below w.heap.size w w' := by
  have HI := Lib.hid w0
  have HP := Lib.hid w2
  have HK := Lib.hid (bounds_u16 w1)
  clear w0 w1 w2
  go_enter Try.func6, Try.ntmps6
  go_wp2_with fail
  refine (awake_any _).mono ?_
  rintro e w1 ⟨rfl, hb1⟩
  have HI1 := Lib.hid (HI.out.below hb1)
  have HB1 := Lib.hid hb1
  clear hb1
  go_wp2_with fail
  refine (New_any a0 len0 cap0 z0 120 (by omega) (by omega) _ HI1.out).mono ?_
  rintro e w2 ⟨g, rfl, hg, hcod, hb2⟩
  have HB2 := Lib.hid (HB1.out.trans (hb2.mono HB1.out.size))
  have hgw : w.heap.size ≤ g := by have := HB1.out.size; omega
  have HC2 := Lib.hid hcod
  clear hb2 hcod HI1 HI
  go_wp2_with fail
  refine (Network_any g _ HC2.out).mono ?_
  rintro e w3 ⟨V, l, v, rfl, hsm, hown, hcod3, hg3⟩
  have HB3 := Lib.hid (below_grown1 HB2.out hg3 HB2.out.size hgw)
  have hgl := HC2.out.lt
  obtain ⟨av, cv, rfl, hlc, hcm, hArc, hblk⟩ := Arcs.of_own (V := V) hown
  have HOWN := Lib.hid hown
  have HSM := Lib.hid hsm
  have hval := hsm.valid (by omega) (by omega) (by omega)
  have HVAL : Hid (nwA V l.length (fun j => l.getD j default)).valid := Lib.hid hval
  have HRA : Hid (RA w3 av l.length (rwA V l.length (fun j => l.getD j default)).A) := Lib.hid (fun i hi => hArc i hi)
  have hl9 := hsm.m
  have hblk2 : ∀ x, av = some x → w2.heap.size ≤ x.block := hblk
  have HBLK := Lib.hid hblk2
  clear hown hsm hval hArc hblk hblk2 hcod3 hg3
  have hs3 : w.heap.size ≤ w3.heap.size := HB3.out.size
  go_wp2_with fail
  refine (Solve_ans V l.length (fun j => l.getD j default) HVAL.out av cv _ (HRA.out.below ((Below.refl _ _).alloc (Nat.le_refl _) _))).mono ?_
  rintro e w4 ⟨s1, n1, c1, f1, code1, rfl, hr1, hans1, hb4⟩
  have hg8 : w3.heap.size < (w3.alloc (.cells #[.int .i64 (V : Int), .slice av l.length cv] 25)).heap.size := by simp
  have q0 : w4.cell? ⟨w3.heap.size, 0, none⟩ = some (.int .i64 (V : Int)) := (hb4.cell (p := ⟨w3.heap.size, 0, none⟩) hg8).trans (cell_mk _ _ _ rfl rfl)
  have q1 : w4.cell? ⟨w3.heap.size, 1, none⟩ = some (.slice av l.length cv) := (hb4.cell (p := ⟨w3.heap.size, 1, none⟩) hg8).trans (cell_mk _ _ _ rfl rfl)
  have h34 : Below w3.heap.size w3 (w3.alloc (.cells #[.int .i64 (V : Int), .slice av l.length cv] 25)) := (Below.refl _ _).alloc (Nat.le_refl _) _
  have HB34 := Lib.hid (h34.trans (hb4.mono h34.size))
  have HB4 := Lib.hid (HB3.out.trans (HB34.out.mono hs3))
  have HOWN4 := Lib.hid (own_below2 HOWN.out HB34.out)
  have HR1 := Lib.hid hr1
  have HANS1 := Lib.hid hans1
  have hg8l := block_lt_of_cell q0
  have HRA4 := Lib.hid (HRA.out.below HB34.out)
  clear hr1 hans1 hb4 h34 hg8 HRA
  obtain ⟨g8, hg8e⟩ : ∃ g8, w3.heap.size = g8 := ⟨_, rfl⟩
  rw [hg8e] at q0 q1 hg8l hs3 ⊢
  have HG8 := Lib.hid hg8e
  clear hg8e
  go_wp2_with fail
  go_cut [11, 12] from 31 to 32 (fun v11 v12 wx => ∃ g1 g2 : Nat, v11 = .pointer (some ⟨g1, 0, none⟩) ∧ v12 = .pointer (some ⟨g2, 0, none⟩) ∧ Hid (wx.heap[g1]? = some (.cells #[.int .i64 (V : Int), .slice av l.length cv] 25 (0, 0)) ∧ wx.heap[g2]? = some (.cells #[.int .i64 (V : Int), .slice av l.length cv] 25 (0, 0)) ∧ w4.heap.size ≤ g1 ∧ w4.heap.size ≤ g2 ∧ g1 ≠ g2 ∧ Below w4.heap.size w4 wx))
  case first =>
    go_region
    all_goals
      go_wp2
      go_meet
      refine ⟨_, _, rfl, rfl, Lib.hid ⟨?_, ?_, by omega, by omega, by omega, (((Below.refl _ _).alloc (Nat.le_refl _) _).alloc (by simp) _).drew⟩⟩
      all_goals first
        | exact blk_new2 _ _ _ rfl
        | exact blk_new1 _ _ (by simp)
  case rest =>
    obtain ⟨g1, g2, rfl, rfl, HM⟩ := hcut
    obtain ⟨i0, hi0, hz0, hz1, hz2⟩ := info_parts Try.infoArc
    have HI0 := Lib.hid hi0
    have HZ0 := Lib.hid hz0
    have HZ1 := Lib.hid hz1
    have HZ2 := Lib.hid hz2
    have HNIL : Hid (av = none → cv = 0) := Lib.hid (own_nil HOWN4.out)
    have HLEN : Hid ((arvs l).length = l.length * 5) := Lib.hid (arvs_len l)
    have HONE : Hid (∀ u ∈ arvs l, u.oneCell' = true) := Lib.hid (arvs_one l)
    have HCE : Hid (∀ W, Below w4.heap.size w4 W → Cells W av (arvs l)) := Lib.hid (fun W hW => by
      obtain ⟨a', c', e1, _, _, _, hc, _⟩ := Cells.of_own HOWN4.out
      injection e1 with e1 e2 e3
      subst e1
      exact hc.below hW)
    clear hi0 hz0 hz1 hz2
    go_wp2
    have hb0 : Below w4.heap.size w4 wc.drew := (HM.out.2.2.2.2.2).drew
    refine wp_region_held_drew (S := (fun w' => w'.cell? ⟨g8, 1, none⟩ = some (.slice av l.length cv))) (by kernel_rfl) ((hb0.cell (p := ⟨g8, 1, none⟩) hg8l).trans q1) (fun hHeld => ?_)
    refine wpAnyH_take (i := 0) (v := ?_) rfl (by kernel_rfl) (by kernel_rfl) (by kernel_rfl) (fun _ _ _ h => h) (Or.inl ⟨by rfl, ?_⟩) (by assumption) ?_
    rotate_left
    · (intro w hSw; (try dsimp only at hSw); go_simp; try with_reducible rfl)
    (try simp only [Act.put, List.setIfInBounds_toArray, List.set_cons_zero, List.set_cons_succ])
    refine wpAnyH_take (i := 1) (v := ?_) rfl (by kernel_rfl) (by kernel_rfl) (by kernel_rfl) (fun _ _ _ h => h) (Or.inl ⟨by rfl, ?_⟩) (by assumption) ?_
    rotate_left
    · (intro w hSw; (try dsimp only at hSw); go_simp; try with_reducible rfl)
    (try simp only [Act.put, List.setIfInBounds_toArray, List.set_cons_zero, List.set_cons_succ])
    refine wpAnyH_take (i := 3) (v := ?_) rfl (by kernel_rfl) (by kernel_rfl) (by kernel_rfl) (fun _ _ _ h => h) (Or.inl ⟨by rfl, ?_⟩) (by assumption) ?_
    rotate_left
    · (intro w hSw; (try dsimp only at hSw); go_simp; try with_reducible rfl)
    (try simp only [Act.put, List.setIfInBounds_toArray, List.set_cons_zero, List.set_cons_succ])
    refine wpAnyH_take (i := 4) (v := ?_) rfl (by kernel_rfl) (by kernel_rfl) (by kernel_rfl) (fun _ _ _ h => h) (Or.inl ⟨by rfl, ?_⟩) (by assumption) ?_
    rotate_left
    · (intro w hSw; (try dsimp only at hSw); go_simp; try with_reducible rfl)
    (try simp only [Act.put, List.setIfInBounds_toArray, List.set_cons_zero, List.set_cons_succ])
    refine wpAnyH_ready (rs := [2]) (by kernel_rfl) (by simp) ?_
    refine AllReadyH.cons rfl (fun K hK => ?_) AllReadyH.nil
    (refine step_append_src (by rfl) _ _ _ (by rfl) wc.heap.size 46 i0 _ 5 40 Try.underlying23 HI0.out HZ0.out HZ1.out HZ2.out rfl (by omega) (by rfl) av l.length cv (arvs l) (by rfl) hlc HNIL.out HLEN.out (HCE.out _ hb0) HONE.out (by unfold maxLen; omega) (by omega) (Nat.le_refl _) ?_; intro v1 w5 hown1 hgr1)
    have hb1 : Below w4.heap.size w4 w5 := hb0.grown hgr1 hb0.size (fun k hk => by cases hk)
    refine hK.out _ _ ((hb1.cell (p := ⟨g8, 1, none⟩) hg8l).trans q1) (fun hHeld => ?_)
    clear hK K
    (try simp only [Act.put, List.setIfInBounds_toArray, List.set_cons_zero, List.set_cons_succ])
    refine wpAnyH_take (i := 6) (v := ?_) rfl (by kernel_rfl) (by kernel_rfl) (by kernel_rfl) (fun _ _ _ h => h) (Or.inl ⟨by rfl, ?_⟩) (by assumption) ?_
    rotate_left
    · (intro w hSw; (try dsimp only at hSw); go_simp; try with_reducible rfl)
    (try simp only [Act.put, List.setIfInBounds_toArray, List.set_cons_zero, List.set_cons_succ])
    refine wpAnyH_ready (rs := [5]) (by kernel_rfl) (by simp) ?_
    refine AllReadyH.cons rfl (fun K hK => ?_) AllReadyH.nil
    (refine step_append_src (by rfl) _ _ _ (by rfl) w5.heap.size 46 i0 _ 5 40 Try.underlying23 HI0.out HZ0.out HZ1.out HZ2.out rfl (by omega) (by rfl) av l.length cv (arvs l) (by rfl) hlc HNIL.out HLEN.out (HCE.out _ hb1) HONE.out (by unfold maxLen; omega) (by omega) (Nat.le_refl _) ?_; intro v2 w6 hown2 hgr2)
    have hb2 : Below w4.heap.size w4 w6 := hb1.grown hgr2 hb1.size (fun k hk => by cases hk)
    refine hK.out _ _ ((hb2.cell (p := ⟨g8, 1, none⟩) hg8l).trans q1) (fun hHeld => ?_)
    clear hK K
    (try simp only [Act.put, List.setIfInBounds_toArray, List.set_cons_zero, List.set_cons_succ])
    have hO1 := hown1.kept hgr2 (by cases hq : v1.ownBlock with | none => exact .inl rfl | some k => exact .inr (by simp))
    obtain ⟨x1, y1, rfl, _⟩ := Cells.of_own hown1
    obtain ⟨x2, y2, rfl, _⟩ := Cells.of_own hown2
    have hB1 : w6.heap[g1]? = some (.cells #[.int .i64 (V : Int), .slice av l.length cv] 25 (0, 0)) := (hgr2.block g1 (Nat.lt_of_lt_of_le (heap_lt HM.out.1) hgr1.size) (by simp)).trans ((hgr1.block g1 (heap_lt HM.out.1) (by simp)).trans HM.out.1)
    have hB2 : w6.heap[g2]? = some (.cells #[.int .i64 (V : Int), .slice av l.length cv] 25 (0, 0)) := (hgr2.block g2 (Nat.lt_of_lt_of_le (heap_lt HM.out.2.1) hgr1.size) (by simp)).trans ((hgr1.block g2 (heap_lt HM.out.2.1) (by simp)).trans HM.out.2.1)
    have e1 := cell_of_row _ _ 1 _ _ _ hB1
    have e2 := cell_of_row _ _ 1 _ _ _ hB2
    have fz1 := frozen_of_row _ _ 1 _ _ hB1
    have fz2 := frozen_of_row _ _ 1 _ _ hB2
    have l1 := heap_lt hB1
    have l2 := heap_lt hB2
    have n12 := HM.out.2.2.2.2.1
    have n21 := n12.symm
    have n1 : g1 ≠ g8 := by have := HM.out.2.2.1; omega
    have n2 : g2 ≠ g8 := by have := HM.out.2.2.2.1; omega
    refine wpAnyH_ready (rs := [7]) (by kernel_rfl) (by simp) ?_
    refine AllReadyH.cons rfl (fun K hK => ?_) AllReadyH.nil
    go_simp
    refine hK.out _ _ ((World.cell?_of_block (a := ⟨g8, 1, none⟩) (heap_setCell_other _ _ _ _ n1.symm)).trans ((hb2.cell (p := ⟨g8, 1, none⟩) hg8l).trans q1)) (fun hHeld => ?_)
    clear hK K
    (try simp only [Act.put, List.setIfInBounds_toArray, List.set_cons_zero, List.set_cons_succ])
    refine wpAnyH_take (i := 8) (v := ?_) rfl (by kernel_rfl) (by kernel_rfl) (by kernel_rfl) (fun _ _ _ h => h) (Or.inl ⟨by rfl, ?_⟩) (by assumption) ?_
    rotate_left
    · (intro w hSw; (try dsimp only at hSw); go_simp; try with_reducible rfl)
    (try simp only [Act.put, List.setIfInBounds_toArray, List.set_cons_zero, List.set_cons_succ])
    refine wpAnyH_ready (rs := [9]) (by kernel_rfl) (by simp) ?_
    refine AllReadyH.cons rfl (fun K hK => ?_) AllReadyH.nil
    go_simp
    refine hK.out _ _ ((World.cell?_of_block (a := ⟨g8, 1, none⟩) (heap_setCell_other _ _ _ _ n2.symm)).trans ((World.cell?_of_block (a := ⟨g8, 1, none⟩) (heap_setCell_other _ _ _ _ n1.symm)).trans ((hb2.cell (p := ⟨g8, 1, none⟩) hg8l).trans q1))) (fun hHeld => ?_)
    clear hK K
    (try simp only [Act.put, List.setIfInBounds_toArray, List.set_cons_zero, List.set_cons_succ])
    refine wpAnyH_done (by kernel_rfl) ?_ _
    obtain ⟨n, hn⟩ : ∃ n, l.length = n := ⟨_, rfl⟩
    obtain ⟨A, hA⟩ : ∃ A : Nat → Ar, A = (fun j => l.getD j default) := ⟨_, rfl⟩
    have HROWS : Hid (∃ h1 h2 : Nat, (wc.heap.size ≤ h1 ∧ wc.heap.size ≤ h2 ∧ h1 ≠ h2) ∧ (0 < l.length → (x1 = some ⟨h1, 0, none⟩ ∧ x2 = some ⟨h2, 0, none⟩) ∧ ARow w6 h1 l.length (fun j => l.getD j default) ∧ ARow w6 h2 l.length (fun j => l.getD j default))) := Lib.hid (by
      by_cases h0 : 0 < l.length
      · obtain ⟨h1, c1, e1, hb1', _, ha1⟩ := ARow.of_own hO1 h0
        obtain ⟨h1', c1', e1', hb1'', _, ha1'⟩ := ARow.of_own hown1 h0
        obtain ⟨h2, c2, e2, hb2', _, ha2⟩ := ARow.of_own hown2 h0
        injection e1 with e1 _ _
        injection e1' with e1' _ _
        injection e2 with e2 _ _
        have e3 : h1 = h1' := by rw [e1] at e1'; injection e1' with e1'; injection e1'
        have := ha1'.lt
        exact ⟨h1, h2, ⟨hb1', by have := hgr1.size; exact Nat.le_trans this hb2', by omega⟩, fun _ => ⟨⟨e1, e2⟩, ha1, ha2⟩⟩
      · exact ⟨wc.heap.size, wc.heap.size + 1, ⟨Nat.le_refl _, by omega, by omega⟩, fun h => absurd h h0⟩)
    obtain ⟨h1, h2, ⟨hw1, hw2, h12⟩, HARW⟩ := HROWS.out
    have m1 := heap_lt HM.out.1
    have m2 := heap_lt HM.out.2.1
    have HNE : Hid (g1 ≠ h1 ∧ g1 ≠ h2 ∧ g2 ≠ h1 ∧ g2 ≠ h2 ∧ h1 ≠ h2 ∧ g1 ≠ g2 ∧ w4.heap.size ≤ h1 ∧ w4.heap.size ≤ h2) := Lib.hid (by
      have := HM.out.2.2.2.2.2.size
      refine ⟨?_, ?_, ?_, ?_, ?_, ?_, ?_, ?_⟩ <;> omega)
    have HBE : Hid (Below w4.heap.size w4 ((w6.setCell ⟨g1, 1, none⟩ (.slice x1 l.length y1)).setCell ⟨g2, 1, none⟩ (.slice x2 l.length y2))) := Lib.hid (((Kp.of_below (X := [g1, g2]) hb2).setCell _ _ (.inl (by simp))).setCell _ _ (.inl (by simp)) |>.to_below (Nat.le_refl _) (by have := HM.out; simp; omega))
    have k1 := heap_setCell_same w6 g1 1 _ _ (.slice x1 l.length y1) hB1
    have k1' := (heap_setCell_other (w6.setCell ⟨g1, 1, none⟩ (.slice x1 l.length y1)) ⟨g2, 1, none⟩ g1 (.slice x2 l.length y2) n12).trans k1
    have k2 := heap_setCell_same (w6.setCell ⟨g1, 1, none⟩ (.slice x1 l.length y1)) g2 1 _ _ (.slice x2 l.length y2) ((heap_setCell_other w6 ⟨g1, 1, none⟩ g2 (.slice x1 l.length y1) n21).trans hB2)
    have HG : Hid (∀ W, W = ((w6.setCell ⟨g1, 1, none⟩ (.slice x1 l.length y1)).setCell ⟨g2, 1, none⟩ (.slice x2 l.length y2)) → W.cell? ⟨g1, 0, none⟩ = some (.int .i64 (V : Int)) ∧ W.cell? ⟨g1, 1, none⟩ = some (.slice x1 l.length y1) ∧ W.cell? ⟨g2, 0, none⟩ = some (.int .i64 (V : Int)) ∧ W.cell? ⟨g2, 1, none⟩ = some (.slice x2 l.length y2)) := Lib.hid (fun W hW => by
      subst hW
      exact ⟨cell_of_row _ _ 0 _ _ _ k1', cell_of_row _ _ 1 _ _ _ k1', cell_of_row _ _ 0 _ _ _ k2, cell_of_row _ _ 1 _ _ _ k2⟩)
    have HAR : Hid (0 < l.length → (x1 = some ⟨h1, 0, none⟩ ∧ x2 = some ⟨h2, 0, none⟩) ∧ ∀ W, W = ((w6.setCell ⟨g1, 1, none⟩ (.slice x1 l.length y1)).setCell ⟨g2, 1, none⟩ (.slice x2 l.length y2)) → ARow W h1 l.length (fun j => l.getD j default) ∧ ARow W h2 l.length (fun j => l.getD j default)) := Lib.hid (fun h0 => by
      obtain ⟨e, r1, r2⟩ := HARW h0
      refine ⟨e, fun W hW => ?_⟩
      subst hW
      obtain ⟨d1, d2, d3, d4, _⟩ := HNE.out
      exact ⟨r1.keep ((heap_setCell_other _ ⟨g2, 1, none⟩ h1 _ d3.symm).trans (heap_setCell_other _ ⟨g1, 1, none⟩ h1 _ d1.symm)), r2.keep ((heap_setCell_other _ ⟨g2, 1, none⟩ h2 _ d4.symm).trans (heap_setCell_other _ ⟨g1, 1, none⟩ h2 _ d2.symm))⟩)
    obtain ⟨wE, hwE⟩ : ∃ W, W = ((w6.setCell ⟨g1, 1, none⟩ (.slice x1 l.length y1)).setCell ⟨g2, 1, none⟩ (.slice x2 l.length y2)) := ⟨_, rfl⟩
    have HG' := Lib.hid (HG.out wE hwE)
    have HAR' : Hid (0 < l.length → (x1 = some ⟨h1, 0, none⟩ ∧ x2 = some ⟨h2, 0, none⟩) ∧ ARow wE h1 l.length (fun j => l.getD j default) ∧ ARow wE h2 l.length (fun j => l.getD j default)) := Lib.hid (fun h0 => ⟨(HAR.out h0).1, (HAR.out h0).2 wE hwE⟩)
    rw [← hwE] at HBE ⊢
    rw [← hA] at HAR' HRA4 HANS1 HVAL
    rw [hn] at HAR' HRA4 HANS1 HG' HVAL q1 ⊢
    have HSCL : Hid (∀ B : Int, 1 ≤ B → B ≤ 65536 → (nwA V n (fun j => sclA B (A j))).valid) := Lib.hid (fun B b1 b2 => by subst hA; subst hn; exact scl_valid HSM.out b1 b2)
    have HSHF : Hid (nwA V n (fun j => shfA (shq z2) (A j))).valid := Lib.hid (by subst hA; subst hn; exact shf_valid HSM.out (shq_bd HP.out))
    have hn9 : n ≤ 9 := by rw [← hn]; exact hl9
    have HSM9 : Hid (∀ i, i < n → (A i).f < V ∧ (A i).t < V ∧ 0 ≤ (A i).l ∧ (A i).l ≤ (A i).u ∧ (A i).u ≤ 5 ∧ -4 ≤ (A i).c ∧ (A i).c ≤ 4) := Lib.hid (fun i hi => by
      subst hA
      exact HSM.out.ok _ (by rw [← hn] at hi; simp [List.getD, hi]))
    have hV5 : V ≤ 5 := HSM.out.V2
    clear hwE HG HAR k1 k1' k2 HARW hw1 hw2 h12 m1 m2 HROWS hb0 hb1 hb2 hO1 hown1 hown2 hB1 hB2 e1 e2 fz1 fz2 l1 l2 n12 n21 n1 n2 hgr1 hgr2 HCE HONE HLEN HNIL HI0 HZ0 HZ1 HZ2 HM HOWN4 HOWN HSM hA hn hHeld
    obtain ⟨hk0, hk1⟩ := HK.out
    have HWA := Lib.hid q0
    have HWB := Lib.hid q1
    clear q0 q1
    go_wp2_with fail
    obtain ⟨B, hB⟩ : ∃ B, 1 + k = B := ⟨_, rfl⟩
    rw [hB]
    have hB1 : 1 ≤ B := by omega
    have hB2 : B ≤ 65536 := by omega
    clear hB hk0 hk1
    go_loopw [14] (fun v14 wr => ∃ i : Nat, i ≤ n ∧ v14 = .int .i64 i ∧ Hid (Kp [h1, h2] wE wr ∧ (0 < n → ARow wr h1 n (chg (sclA B) A i) ∧ ARow wr h2 n (chg (shfA (shq z2)) A i)))) (fun v _ => n - (intOf v).toNat)
    case atStart => exact ⟨0, by omega, rfl, Lib.hid ⟨Kp.refl _ _, fun h => by rw [chg_zero, chg_zero]; exact (HAR'.out h).2⟩⟩
    case round =>
      obtain ⟨i, hi, rfl, HR⟩ := hrel
      have hg8w : Below w4.heap.size w4 wr := HBE.out.trans (HR.out.1.to_below (HBE.out.size) (by have := HNE.out; simp; omega))
      have g80 := (hg8w.cell (p := ⟨g8, 0, none⟩) hg8l).trans HWA.out
      have g81 := (hg8w.cell (p := ⟨g8, 1, none⟩) hg8l).trans HWB.out
      have HG8W := Lib.hid hg8w
      have hg8r := block_lt_of_cell g81
      clear hg8w
      obtain ⟨p10, p11, p20, p21⟩ := HG'.out
      obtain ⟨ne1, ne2, ne3, ne4, ne5, ne6, ne7, ne8⟩ := HNE.out
      have p10 := HR.out.1.cell p10 (by simp; omega)
      have p11 := HR.out.1.cell p11 (by simp; omega)
      have p20 := HR.out.1.cell p20 (by simp; omega)
      have p21 := HR.out.1.cell p21 (by simp; omega)
      have pl1 := block_lt_of_cell p11
      have pl2 := block_lt_of_cell p21
      by_cases hlt : i < n
      · obtain ⟨⟨rfl, rfl⟩, _⟩ := HAR'.out (by omega)
        obtain ⟨r1, r2⟩ := HR.out.2 (by omega)
        obtain ⟨⟨af, at', al, au, ac⟩, ha⟩ : ∃ a, A i = a := ⟨_, rfl⟩
        have r1' : ARow wr h1 n (upd (chg (sclA B) A i) i ⟨af, at', al, au, ac⟩) := by rw [upd_id _ _ (by rw [chg_at, ha])]; exact r1
        have r2' : ARow wr h2 n (upd (chg (shfA (shq z2)) A i) i ⟨af, at', al, au, ac⟩) := by rw [upd_id _ _ (by rw [chg_at, ha])]; exact r2
        have hsm := HSM9.out i hlt
        rw [ha] at hsm
        simp only at hsm
        obtain ⟨s1', s2', s3', s4', s5', s6', s7'⟩ := hsm
        have HNX1 : Hid (upd (chg (sclA B) A i) i ⟨af, at', al * B, au * B, ac⟩ = chg (sclA B) A (i + 1)) := Lib.hid (by rw [chg_next, ha]; rfl)
        have HNX2 : Hid (upd (chg (shfA (shq z2)) A i) i ⟨af, at', al, au, ac + shq z2 af - shq z2 at'⟩ = chg (shfA (shq z2)) A (i + 1)) := Lib.hid (by rw [chg_next, ha]; rfl)
        obtain ⟨_, _, c2, c3, _⟩ := r1'.cell hlt
        rw [upd_same] at c2 c3
        have f2 := r1'.frozen (i * 5 + 2)
        have f3 := r1'.frozen (i * 5 + 3)
        have hh1 := r1'.lt
        have hw1 : IntKind.i64.wrap (al * B) = al * B := by
          have e1 := Int.mul_nonneg s3' (show 0 ≤ B by omega)
          have e2 := Int.mul_le_mul_of_nonneg_right (show al ≤ 5 by omega) (show 0 ≤ B by omega)
          rw [IntKind.wrap_i64]; omega
        have hw2 : IntKind.i64.wrap (au * B) = au * B := by
          have e1 := Int.mul_nonneg (show 0 ≤ au by omega) (show 0 ≤ B by omega)
          have e2 := Int.mul_le_mul_of_nonneg_right (show au ≤ 5 by omega) (show 0 ≤ B by omega)
          rw [IntKind.wrap_i64]; omega
        have HR2 : Hid (ARow ((wr.setCell ⟨h1, i * 5 + 2, none⟩ (.int .i64 (al * B))).setCell ⟨h1, i * 5 + 3, none⟩ (.int .i64 (au * B))) h1 n (chg (sclA B) A (i + 1)) ∧ ARow ((wr.setCell ⟨h1, i * 5 + 2, none⟩ (.int .i64 (al * B))).setCell ⟨h1, i * 5 + 3, none⟩ (.int .i64 (au * B))) h2 n (upd (chg (shfA (shq z2)) A i) i ⟨af, at', al, au, ac⟩)) := Lib.hid ⟨by rw [← HNX1.out]; exact (r1'.lo hlt).up hlt, r2'.keep ((heap_setCell_other _ ⟨h1, _, none⟩ h2 _ ne5.symm).trans (heap_setCell_other _ ⟨h1, _, none⟩ h2 _ ne5.symm))⟩
        have p11' : (wr.setCell ⟨h1, i * 5 + 2, none⟩ (.int .i64 (al * B))).cell? ⟨g1, 1, none⟩ = some (.slice (some ⟨h1, 0, none⟩) n y1) := (World.cell?_of_block (a := ⟨g1, 1, none⟩) (heap_setCell_other _ ⟨h1, _, none⟩ g1 _ ne1)).trans p11
        have HA := Lib.hid ha
        clear r1 r2 r1' r2' ha g80 p10 p20 p21
        go_upto_region 14 with fail
        have HKM : Hid (Kp [h1, h2] wE ((wr.setCell ⟨h1, i * 5 + 2, none⟩ (.int .i64 (al * B))).setCell ⟨h1, i * 5 + 3, none⟩ (.int .i64 (au * B)))) := Lib.hid ((HR.out.1.setCell _ _ (.inl (by simp))).setCell _ _ (.inl (by simp)))
        generalize ((wr.setCell ⟨h1, i * 5 + 2, none⟩ (.int .i64 (al * B))).setCell ⟨h1, i * 5 + 3, none⟩ (.int .i64 (au * B))) = wm at *
        clear p11' c2 c3 f2 f3 hw1 hw2 hh1 g81 p11 p21 pl1 pl2 hg8r HR
        have hbm : Below w4.heap.size w4 wm := HBE.out.trans (HKM.out.to_below (HBE.out.size) (by simp; omega))
        have HPM : Hid (InInts .u8 wm a2 len2 cap2 z2) := Lib.hid (HP.out.below (HB4.out.trans (hbm.mono HB4.out.size)))
        have g81 := (hbm.cell (p := ⟨g8, 1, none⟩) hg8l).trans HWB.out
        have p21 := HKM.out.cell HG'.out.2.2.2 (by simp; omega)
        obtain ⟨ba, oa, rfl, hba, k0, k1, _, _, _⟩ := HRA4.out i hlt
        have e0 : ((rwA V n A).A i).f = (af : Int) := by show ((A i).f : Int) = _; rw [HA.out]
        have e1 : ((rwA V n A).A i).t = (at' : Int) := by show ((A i).t : Int) = _; rw [HA.out]
        rw [e0] at k0
        rw [e1] at k1
        clear e0 e1
        have K0 : Hid (∀ W, Below w4.heap.size w4 W → W.cell? ⟨ba, oa + i * 5, none⟩ = some (.int .i64 (af : Int)) ∧ W.cell? ⟨ba, oa + i * 5 + 1, none⟩ = some (.int .i64 (at' : Int)) ∧ W.cell? ⟨g8, 1, none⟩ = some (.slice (some ⟨ba, oa, none⟩) n cv) ∧ ba < W.heap.size ∧ g8 < W.heap.size) := Lib.hid (fun W hW => ⟨(hW.cell (p := ⟨ba, oa + i * 5, none⟩) hba).trans k0, (hW.cell (p := ⟨ba, oa + i * 5 + 1, none⟩) hba).trans k1, (hW.cell (p := ⟨g8, 1, none⟩) hg8l).trans HWB.out, Nat.lt_of_lt_of_le hba hW.size, Nat.lt_of_lt_of_le hg8l hW.size⟩)
        have hlen2 : len2 ≤ 9223372036854775807 := by have h1 := HP.out.2.1; have h2 := HP.out.2.2.1.1; unfold maxLen at h2; omega
        clear k0 k1 g81 p21 hba
        obtain ⟨k0, _, g81, hba, hg8r⟩ := K0.out wm hbm
        obtain ⟨bf, hbf⟩ : ∃ b, decide (af < len2) = b := ⟨_, rfl⟩
        go_upto_if 79 with fail
        (try rw [hbf])
        go_cut [] from 80 to 98 (fun wx => Hid (Kp [h1, h2] wE wx ∧ ARow wx h1 n (chg (sclA B) A (i + 1)) ∧ ARow wx h2 n (upd (chg (shfA (shq z2)) A i) i ⟨af, at', al, au, ac + shq z2 af⟩)))
        case first =>
          by_cases hf : af < len2
          · obtain ⟨b2, o2, rfl, hb2', pc, _⟩ := HPM.out.2.2.2 af hf
            have hq := shq_bd HP.out af
            have HQ : Hid (z2.getD af 0 = shq z2 af) := Lib.hid rfl
            rw [HQ.out] at pc
            have p21 := HKM.out.cell HG'.out.2.2.2 (by simp; omega)
            have hh2 := HR2.out.2.lt
            obtain ⟨_, _, _, _, c4⟩ := HR2.out.2.cell hlt
            rw [upd_same] at c4
            have f4 := HR2.out.2.frozen (i * 5 + 4)
            have pl2 := block_lt_of_cell p21
            have HNEW : Hid (Kp [h1, h2] wE (wm.drew.setCell ⟨h2, i * 5 + 4, none⟩ (.int .i64 (ac + shq z2 af))) ∧ ARow (wm.drew.setCell ⟨h2, i * 5 + 4, none⟩ (.int .i64 (ac + shq z2 af))) h1 n (chg (sclA B) A (i + 1)) ∧ ARow (wm.drew.setCell ⟨h2, i * 5 + 4, none⟩ (.int .i64 (ac + shq z2 af))) h2 n (upd (chg (shfA (shq z2)) A i) i ⟨af, at', al, au, ac + shq z2 af⟩)) := Lib.hid ⟨HKM.out.drew.setCell _ _ (.inl (by simp)), HR2.out.1.keep (heap_setCell_other wm.drew ⟨h2, _, none⟩ h1 _ ne5), (HR2.out.2.keep (w' := wm.drew) rfl).cost hlt⟩
            generalize shq z2 af = qf at *
            obtain ⟨hq0, hq1⟩ := hq
            obtain rfl : bf = true := by rw [← hbf]; simp; omega
            have i0 : (0 : Int) ≤ (i : Int) := by omega
            have i1 : (i : Int) < (n : Int) := by omega
            have j0 : (0 : Int) ≤ (af : Int) := by omega
            have j1 : (af : Int) < (len2 : Int) := by omega
            clear hbm hbf
            go_wp2_with fail
            go_still_tail 19, (by kernel_rfl)
            change wpList _ _ _ _ _ wm.drew
            go_wp2
            go_meet
            exact HNEW
          · have hq := shq_far HP.out (show len2 ≤ af by omega)
            obtain rfl : bf = false := by rw [← hbf]; simp; omega
            clear hbf
            have HNEW : Hid (ARow wm h2 n (upd (chg (shfA (shq z2)) A i) i ⟨af, at', al, au, ac + shq z2 af⟩)) := Lib.hid (by rw [hq, Int.add_zero]; exact HR2.out.2)
            clear hbm hf hq
            go_wp2
            go_meet
            exact Lib.hid ⟨HKM.out, HR2.out.1, HNEW.out⟩
        case rest =>
          have HCT := Lib.hid hcut.out
          clear hcut
          have hbx : Below w4.heap.size w4 wc := HBE.out.trans (HCT.out.1.to_below (HBE.out.size) (by simp; omega))
          obtain ⟨_, k1, g81, hba, hg8r⟩ := K0.out wc hbx
          have p21 := HCT.out.1.cell HG'.out.2.2.2 (by simp; omega)
          have hh2 := HCT.out.2.2.lt
          obtain ⟨_, _, _, _, c4⟩ := HCT.out.2.2.cell hlt
          rw [upd_same] at c4
          simp only at c4
          have f4 := HCT.out.2.2.frozen (i * 5 + 4)
          have pl2 := block_lt_of_cell p21
          have hq0 := shq_bd HP.out af
          have i0 : (0 : Int) ≤ (i : Int) := by omega
          have i1 : (i : Int) < (n : Int) := by omega
          have HPM2 : Hid (InInts .u8 wc a2 len2 cap2 z2) := Lib.hid (HP.out.below (HB4.out.trans (hbx.mono HB4.out.size)))
          obtain ⟨bf2, hbf2⟩ : ∃ b, decide (at' < len2) = b := ⟨_, rfl⟩
          by_cases hf : at' < len2
          · obtain rfl : bf2 = true := by rw [← hbf2]; simp; omega
            obtain ⟨b2, o2, rfl, hb2', pc, _⟩ := HPM2.out.2.2.2 at' hf
            have hq := shq_bd HP.out at'
            have HQ : Hid (z2.getD at' 0 = shq z2 at') := Lib.hid rfl
            rw [HQ.out] at pc
            have HNEW : Hid (Kp [h1, h2] wE (wc.drew.setCell ⟨h2, i * 5 + 4, none⟩ (.int .i64 (ac + shq z2 af - shq z2 at'))) ∧ ARow (wc.drew.setCell ⟨h2, i * 5 + 4, none⟩ (.int .i64 (ac + shq z2 af - shq z2 at'))) h1 n (chg (sclA B) A (i + 1)) ∧ ARow (wc.drew.setCell ⟨h2, i * 5 + 4, none⟩ (.int .i64 (ac + shq z2 af - shq z2 at'))) h2 n (chg (shfA (shq z2)) A (i + 1))) := Lib.hid ⟨HCT.out.1.drew.setCell _ _ (.inl (by simp)), HCT.out.2.1.keep (heap_setCell_other wc.drew ⟨h2, _, none⟩ h1 _ ne5), by rw [← HNX2.out]; exact (HCT.out.2.2.keep (w' := wc.drew) rfl).cost hlt⟩
            have j0 : (0 : Int) ≤ (at' : Int) := by omega
            have j1 : (at' : Int) < (len2 : Int) := by omega
            clear HCT HNX2
            obtain ⟨qa, hqa⟩ : ∃ x, ac + shq z2 af = x := ⟨_, rfl⟩
            rw [hqa] at HNEW c4
            have hqb : -4 ≤ qa ∧ qa ≤ 259 := by omega
            obtain ⟨hqb0, hqb1⟩ := hqb
            generalize shq z2 at' = qf at *
            obtain ⟨hq1, hq2⟩ := hq
            clear hbx hqa hq0
            go_wp2_with fail
            go_still_tail 19, (by kernel_rfl)
            change wpList _ _ _ _ _ wc.drew
            go_wp2
            go_roundw
            case rel => exact ⟨i + 1, by omega, by go_num, Lib.hid ⟨HNEW.out.1, fun _ => HNEW.out.2⟩⟩
            case measure => simp [intOf]; omega
          · obtain rfl : bf2 = false := by rw [← hbf2]; simp; omega
            have hq := shq_far HP.out (show len2 ≤ at' by omega)
            rw [hq, Int.sub_zero] at HNX2
            clear hbx hq hq0 c4 f4
            go_wp2
            go_roundw
            case rel => exact ⟨i + 1, by omega, by go_num, Lib.hid ⟨HCT.out.1, fun _ => ⟨HCT.out.2.1, by rw [← HNX2.out]; exact HCT.out.2.2⟩⟩⟩
            case measure => simp [intOf]; omega
      · obtain rfl : i = n := by omega
        have HRA1 : Hid (RA wr x1 i (rwA V i (fun j => sclA B (A j))).A) := Lib.hid (by
          by_cases h0 : 0 < i
          · obtain ⟨⟨hx1, hx2⟩, _⟩ := HAR'.out h0
            rw [hx1]
            exact ARow.ra (V := V) ((HR.out.2 h0).1.congr (fun j hj => chg_all _ _ hj))
          · exact fun j hj => absurd hj (by omega))
        have HRA2 : Hid (RA wr x2 i (rwA V i (fun j => shfA (shq z2) (A j))).A) := Lib.hid (by
          by_cases h0 : 0 < i
          · obtain ⟨⟨hx1, hx2⟩, _⟩ := HAR'.out h0
            rw [hx2]
            exact ARow.ra (V := V) ((HR.out.2 h0).2.congr (fun j hj => chg_all _ _ hj))
          · exact fun j hj => absurd hj (by omega))
        have HV1 := Lib.hid (HSCL.out B hB1 hB2)
        have HBW := Lib.hid (HB4.out.trans (HG8W.out.mono HB4.out.size))
        have HR1w := Lib.hid (HR1.out.below HG8W.out)
        clear HRA4 HSM9 HSCL HR HAR' g80
        go_wp2_with fail
        refine (Solve_ans V i (fun j => sclA B (A j)) HV1.out x1 y1 _ HRA1.out).mono ?_
        rintro e w7 ⟨s2, n2, c2, f2, code2, rfl, hr2, hans2, hb7⟩
        have p20 := (hb7.cell (p := ⟨g2, 0, none⟩) pl2).trans p20
        have p21 := (hb7.cell (p := ⟨g2, 1, none⟩) pl2).trans p21
        have pl2 := block_lt_of_cell p21
        have HRA2' := Lib.hid (HRA2.out.below hb7)
        have HB7 := Lib.hid (HBW.out.trans (hb7.mono HBW.out.size))
        have HR1w7 := Lib.hid (HR1w.out.below hb7)
        have HR2 := Lib.hid hr2
        obtain ⟨hc12, hn12, hsc⟩ := ans_scale (N := nwA V i A) HVAL.out.ok (k := B) (by omega) HANS1.out hans2
        subst hc12
        subst hn12
        have HSC := Lib.hid hsc
        clear hsc hans2 hr2 hb7 HRA1 HRA2 HR1w p10 p11 g81 pl1
        go_wp2_with fail
        refine (Solve_ans V i (fun j => shfA (shq z2) (A j)) HSHF.out x2 y2 _ HRA2'.out).mono ?_
        rintro e w8 ⟨s3, n3, c3, f3, code3, rfl, hr3, hans3, hb8⟩
        obtain ⟨hc13, hn13, hsh⟩ := ans_shift (N := nwA V i A) HVAL.out.ok (shq z2) HANS1.out hans3
        subst hc13
        subst hn13
        have HSH := Lib.hid hsh
        have HB8 := Lib.hid (HB7.out.trans (hb8.mono HB7.out.size))
        have HR18 := Lib.hid (HR1w7.out.below hb8)
        have HR28 := Lib.hid (HR2.out.below hb8)
        have HR38 := Lib.hid hr3
        have hnb := (ans_bd HVAL.out HANS1.out).1
        have HFB := Lib.hid (ans_bd HVAL.out HANS1.out).2
        have d0 : (code1 != code1) = false := by simp
        have d1 : ((n1 : Int) != n1) = false := by simp
        clear hsh hans3 hb8 hr3 HR2 HR1w7 HRA2' HB7 p20 p21 pl2
        go_wp2_with fail
        refine (Ints_any s1 s3 n1 n1 c1 c3 f1 f3 (by omega) (by omega) true (by simp; exact HSH.out) _ HR18.out HR38.out).mono ?_
        rintro e w9 ⟨rfl, hb9⟩
        have HB9 := Lib.hid (HB8.out.trans (hb9.mono HB8.out.size))
        have HR19 := Lib.hid (HR18.out.below hb9)
        have HR29 := Lib.hid (HR28.out.below hb9)
        clear hb9 HR18 HR28 HR38
        go_wp2_with fail
        go_loopw [19] (fun v19 wq => ∃ j : Nat, j ≤ n1 ∧ v19 = .int .i64 j ∧ Hid (Below w9.heap.size w9 wq)) (fun v _ => n1 - (intOf v).toNat)
        case atStart => exact ⟨0, by omega, rfl, Lib.hid (Below.refl _ _)⟩
        case round =>
          obtain ⟨j, hj, rfl, HBQ⟩ := hrel
          by_cases hlt : j < n1
          · obtain ⟨ba, oa, rfl, hba, k0⟩ := HR19.out.below HBQ.out j hlt
            obtain ⟨bb, ob, rfl, hbb, k1⟩ := HR29.out.below HBQ.out j hlt
            rw [HSC.out j hlt] at k1
            have hfb := HFB.out j hlt
            have hw1 : IntKind.i64.wrap (B * f1 j) = B * f1 j := by
              have e1 := Int.mul_nonneg (show 0 ≤ B by omega) hfb.1
              have e2 := Int.mul_le_mul_of_nonneg_right hB2 hfb.1
              have e3 := hfb.2
              rw [IntKind.wrap_i64]; omega
            have d2 : ((B * f1 j : Int) != B * f1 j) = false := by simp
            generalize f1 j = fj at *
            clear hfb
            go_wp2_with fail
            go_quiet (fail)
            go_wp2_with fail
            go_roundw
            case rel => exact ⟨j + 1, by omega, by go_num, Lib.hid (below_drewN HBQ.out _)⟩
            case measure => simp [intOf]; omega
          · obtain rfl : j = n1 := by omega
            go_wp2_with fail
            go_ret
            exact ⟨rfl, HB9.out.trans (HBQ.out.mono HB9.out.size)⟩

/-! ### THE ROW's STEP -/
set_option maxRecDepth 100000 in
theorem lifted (os : Os) (started : os.Started) (H : Type) (enc : TypeId × Value → H) :
    ReturnsInHanded {} Try.checked os 6 .any (Rows.circulationScalesSpec.pre6 enc Try.prog Try.f6 Rows.circulationScalesRow.domain false) (Rows.circulationScalesSpec.post enc Try.prog Try.f6 false true false false) := by
  refine returnsInHanded_of_change (C := Try.checked) own started (by kernel_rfl) Try.func6
    (ChangeSpec.witness6 (enc := enc) (C := Try.checked) false ⟨#[], #[.slice none 0 0, .int .u16 0, .slice none 0 0], []⟩ 8 (by kernel_rfl) (by kernel_rfl) (by kernel_rfl) (by kernel_rfl)) ?_
  intro W base args ds gs before hval0 hW hcnd _
  have hval : ∀ (j : Nat) t v, Try.f6.params[j]? = some t → args[j]? = some v → Value.okWide Try.prog W .any base t v := hval0
  have hW' := hW
  obtain ⟨p, q, hA0, hV, rfl, hfz, hnd⟩ := hW
  have hA : DataW.TrodAll enc Try.prog W 0 (fun _ => true) true Try.f6.params.toList args.toList ds p := hA0
  rw [Try.params6] at hA hval
  obtain ⟨v0, vs0, d0, ds0, p0, q0, hargs, rfl, rfl, h0, r0⟩ := trodAll_cons hA
  obtain ⟨v1, vs1, d1, ds1, p1, q1, rfl, rfl, rfl, h1, r1⟩ := trodAll_cons r0
  obtain ⟨v2, vs2, d2, ds2, p2, q2, rfl, rfl, rfl, h2, r2⟩ := trodAll_cons r1
  obtain ⟨rfl, rfl, rfl⟩ := trodAll_nil r2
  obtain rfl : args = #[v0, v1, v2] := by cases args; simp_all
  obtain ⟨rfl, rfl⟩ := trodVars_none hV
  have k0 := h0
  have lt0 : ∀ x ∈ p0, x.block < W.heap.size := by obtain ⟨m, hm⟩ := k0; exact DataW.trod_lt m _ _ _ hm
  obtain ⟨a0, len0, cap0, zs0, rfl, w0⟩ := in_ints (k := .u8) Try.underlying22 Try.underlying5 (by kernel_rfl) (hval 0 22 v0 rfl rfl) h0
  obtain ⟨a1, rfl, rfl, rfl, w1⟩ := open_int Try.underlying50 (hval 1 50 v1 rfl rfl) h1
  have k2 := h2
  have lt2 : ∀ x ∈ p2, x.block < W.heap.size := by obtain ⟨m, hm⟩ := k2; exact DataW.trod_lt m _ _ _ hm
  obtain ⟨a2, len2, cap2, zs2, rfl, w2⟩ := in_ints (k := .u8) Try.underlying22 Try.underlying5 (by kernel_rfl) (hval 2 22 v2 rfl rfl) h2
  clear hA0 hval0
  refine (walk a0 len0 cap0 zs0 a1 a2 len2 cap2 zs2 W w0 w1 w2).mono fun e W' ⟨he, bel⟩ => ?_
  subst he
  exact ⟨_, rfl, _, _, _, [], _, [], hW', trodAll_mk1 (shut_bool Try.underlying4 _), (trodAll_cons_mk (Below.trod laidOut (by kernel_rfl) (of_decide_eq_true (by kernel_rfl)) k0 bel lt0) (trodAll_cons_mk (shut_int Try.underlying50 w1) (trodAll_cons_mk (Below.trod laidOut (by kernel_rfl) (of_decide_eq_true (by kernel_rfl)) k2 bel lt2) trodAll_mk0))), rfl, bel.frame _, fun h => by cases h⟩

theorem over : Rows.circulationScalesRow.holds Try.pinned (OpenSpec.ofChange Rows.circulationScalesSpec) :=
  OpenClaim.holds_of_wide 6 Try.f6 rfl rfl rfl rfl rfl rfl rfl ⟨rfl, rfl, rfl, rfl, rfl⟩ rfl rfl rfl rfl rfl (by kernel_rfl) Try.func6 (by kernel_rfl)
    (of_decide_eq_true (by kernel_rfl)) (by unfold Func.isWrapper; first | (rw [if_pos (by decide +kernel)]; kernel_rfl) | (rw [if_neg (by decide +kernel)]; exact ⟨rfl, rfl⟩))
    (fun os started H enc _ => lifted os started H enc)

/-- the statement -/
theorem proved : Rows.CirculationScalesSaid := over
#print axioms proved
end Go.Proofs.Ythoehobofdeifaa.circulationScales
