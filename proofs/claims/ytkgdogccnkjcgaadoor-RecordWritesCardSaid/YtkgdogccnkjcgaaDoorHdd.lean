/-
  WALK of the draw of a header.
-/
import Derived.Test.YtkgdogccnkjcgaaDoorEncE
namespace Go.Proofs.YtkgdogccnkjcgaaDoor
open Go.ChangeShapes Go.WideShapes Go.ChangeAt Go.RowKit
/-- what is drawn as a header -/
def HdDraw (g : Nat) (w : World) (e : Ending) (w' : World) : Prop := ∃ h : Hd, e = .returned h.val ∧ h.print < 18446744073709551616 ∧ Cod w' g ∧ w.grownBy w' (some g)
set_option maxRecDepth 100000 in
set_option maxHeartbeats 8000000 in
theorem Header_any (g : Nat) (w : World) (h : Cod w g) : Calls Tryd.prog 15 #[.pointer (some ⟨g, 0, none⟩)] w (HdDraw g w) := by
  have hlt := h.lt
  have H := Lib.hid h
  clear h
  go_enter Tryd.func15, Tryd.ntmps15
  go_wp2_with fail
  refine (Next_any g 5 (by omega) _ ?h1).mono ?_
  case h1 => exact H.out.alloc _
  rintro e w1 ⟨a1, rfl, a10, a11, hc1, hg1⟩
  have hb1 := (hg1.block w.heap.size (by simp) (by intro e; injection e with e; omega)).trans (heap_alloc_new w _)
  have hw1 := grownBy_trans (World.grownBy_alloc w (.cells #[.int .i64 0, .int .i64 0, .int .i64 0, .int .i64 0, .int .u64 0] 29) (some g)) hg1
  have hz1' := hg1.size
  simp only [World.size_alloc] at hz1'
  clear hg1
  go_wp2_with fail
  refine (Next_any g 5 (by omega) _ hc1).mono ?_
  rintro e w2 ⟨a2, rfl, a20, a21, hc2, hg2⟩
  have hb2 := (hg2.block w.heap.size (by omega) (by intro e; injection e with e; omega)).trans hb1
  have hw2 := grownBy_trans hw1 hg2
  have hz2' := Nat.le_trans hz1' hg2.size
  clear hg2 hb1 hw1 hz1' hc1
  go_wp2_with fail
  refine (Next_any g 9 (by omega) _ hc2).mono ?_
  rintro e w3 ⟨a3, rfl, a30, a31, hc3, hg3⟩
  have hb3 := (hg3.block w.heap.size (by omega) (by intro e; injection e with e; omega)).trans hb2
  have hw3 := grownBy_trans hw2 hg3
  have hz3' := Nat.le_trans hz2' hg3.size
  clear hg3 hb2 hw2 hz2' hc2
  go_wp2_with fail
  refine (Next_any g 100 (by omega) _ hc3).mono ?_
  rintro e w4 ⟨a4, rfl, a40, a41, hc4, hg4⟩
  have hb4 := (hg4.block w.heap.size (by omega) (by intro e; injection e with e; omega)).trans hb3
  have hw4 := grownBy_trans hw3 hg4
  have hz4' := Nat.le_trans hz3' hg4.size
  clear hg4 hb3 hw3 hz3' hc3
  go_wp2_with fail
  refine (Next_any g 60000 (by omega) _ hc4).mono ?_
  rintro e w5 ⟨a5, rfl, a50, a51, hc5, hg5⟩
  have hb5 := (hg5.block w.heap.size (by omega) (by intro e; injection e with e; omega)).trans hb4
  have hw5 := grownBy_trans hw4 hg5
  have hz5' := Nat.le_trans hz4' hg5.size
  clear hg5 hb4 hw4 hz4' hc4
  obtain ⟨a5, rfl⟩ : ∃ q : Nat, a5 = q := ⟨a5.toNat, by omega⟩
  have hT : (w5.alloc (.cells #[.int .i64 a1, .int .i64 a2, .int .i64 a3, .int .i64 a4, .int .u64 (a5 : Int)] 29)).heap[w5.heap.size]? = some (.cells #[.int .i64 a1, .int .i64 a2, .int .i64 a3, .int .i64 a4, .int .u64 (a5 : Int)] 29 (0, 0)) := heap_alloc_new _ _
  have hB : (w5.alloc (.cells #[.int .i64 a1, .int .i64 a2, .int .i64 a3, .int .i64 a4, .int .u64 (a5 : Int)] 29)).heap[w.heap.size]? = some (.cells #[.int .i64 0, .int .i64 0, .int .i64 0, .int .i64 0, .int .u64 0] 29) := (Below.heap_alloc _ _ _ (by omega)).trans hb5
  have hgr := grownBy_alloc_same hw5 (.cells #[.int .i64 a1, .int .i64 a2, .int .i64 a3, .int .i64 a4, .int .u64 (a5 : Int)] 29)
  have hcd := hc5.alloc (.cells #[.int .i64 a1, .int .i64 a2, .int .i64 a3, .int .i64 a4, .int .u64 (a5 : Int)] 29)
  have hBT : w.heap.size < w5.heap.size := by omega
  have g6 : (a5 : Int) < 60000 := by omega
  clear hb5 hw5 hc5 hz5'
  go_upto_region 2 with fail
  generalize (w5.alloc (.cells #[.int .i64 a1, .int .i64 a2, .int .i64 a3, .int .i64 a4, .int .u64 (a5 : Int)] 29)) = w6 at *
  generalize w5.heap.size = T at *
  go_wp2_with fail
  refine (Next_any g 12 (by omega) _ hcd).mono ?_
  rintro e w7 ⟨z, rfl, z0, z1, hc7, hg7⟩
  have hT6 := (Array.getElem?_eq_some_iff.1 hT).1
  have hT7 := (hg7.block T hT6 (by intro e; injection e with e; omega)).trans hT
  have hB7 := (hg7.block w.heap.size (by omega) (by intro e; injection e with e; omega)).trans hB
  have hgr7 := grownBy_trans hgr hg7
  have hs7 := hg7.size
  clear hg7 hT hB hgr hcd
  by_cases h11 : z = 11
  · subst h11
    go_wp2_with fail
    refine (DInt_any g _ hc7).mono ?_
    rintro e w8 ⟨p, rfl, p0, p1, hc8, hg8⟩
    have hT8 := (hg8.block T (by omega) (by intro e; injection e with e; omega)).trans hT7
    have hB8 := (hg8.block w.heap.size (by omega) (by intro e; injection e with e; omega)).trans hB7
    have hgr8 := grownBy_trans hgr7 hg8
    have hs8 := hg8.size
    clear hg8 hT7 hB7 hgr7 hc7
    go_wp2_with fail
    refine (DInt_any g _ hc8).mono ?_
    rintro e w9 ⟨q, rfl, q0, q1, hc9, hg9⟩
    have hT9 := (hg9.block T (by omega) (by intro e; injection e with e; omega)).trans hT8
    have hB9 := (hg9.block w.heap.size (by omega) (by intro e; injection e with e; omega)).trans hB8
    have hgr9 := grownBy_trans hgr8 hg9
    have hs9 := hg9.size
    clear hg9 hT8 hB8 hgr8 hc8
    have c1 : w9.cell? ⟨T, 1, none⟩ = some (.int .i64 a2) := cell_of_row _ _ 1 _ _ _ hT9
    have f1 : w9.frozen? ⟨T, 1, none⟩ = false := unfrozen_of_row hT9
    have c3 : w9.cell? ⟨T, 3, none⟩ = some (.int .i64 a4) := cell_of_row _ _ 3 _ _ _ hT9
    have f3 : w9.frozen? ⟨T, 3, none⟩ = false := unfrozen_of_row hT9
    have hTa := heap_setCell_same w9 T 1 _ _ (.int .i64 p) hT9
    have hTb := heap_setCell_same _ T 3 _ _ (.int .i64 q) hTa
    have hgs := grown_set (grownBy_set w9 T 1 (.int .i64 p)) 3 (.int .i64 q)
    have hBb := (hgs.block w.heap.size (by omega) (by intro e; injection e with e; omega)).trans hB9
    have hcb := hc9.grown hgs (fun k hk => by injection hk with hk; omega)
    have hgrb := grownBy_own hgr9 hgs (fun k hk => by injection hk with hk; omega)
    have hTb' : ((w9.setCell ⟨T, 1, none⟩ (.int .i64 p)).setCell ⟨T, 3, none⟩ (.int .i64 q)).heap[T]? = some (.cells #[.int .i64 a1, .int .i64 p, .int .i64 a3, .int .i64 q, .int .u64 (a5 : Int)] 29 (0, 0)) := hTb
    clear hTa hTb hgs hB9 hc9 hgr9 hT9
    go_upto_region 4 with fail
    generalize ((w9.setCell ⟨T, 1, none⟩ (.int .i64 p)).setCell ⟨T, 3, none⟩ (.int .i64 q)) = wd at *
    go_wp2_with (first | (refine wpList_load_row (o := ⟨some 25, .load 29 (.tmp 3), _, _, _, _⟩) rfl 29 _ rfl T rfl 29 _ (0, 0) _ hTb' Tryd.underlying29 rfl (by kernel_rfl) ?_) | (refine wpList_store_row (o := ⟨none, .store 29 (.tmp 2) (.tmp 25), _, _, _, _⟩) rfl 29 _ _ rfl w.heap.size #[.int .i64 a1, .int .i64 p, .int .i64 a3, .int .i64 q, .int .u64 (a5 : Int)] rfl rfl 29 _ hBb (by kernel_rfl) rfl (by kernel_rfl) ?_))
    refine bodyPost_ret (results_cell_row Tryd.results15 _ _ w.heap.size 29 _ _ _ rfl (setRow_heap _ _ _ _ _ _ hBb) Tryd.underlying29 rfl (by kernel_rfl)) rfl ?_
    have hgz := grownBy_setRow wd w.heap.size #[.int .i64 a1, .int .i64 p, .int .i64 a3, .int .i64 q, .int .u64 (a5 : Int)]
    exact ⟨⟨a1, p, a3, q, a5⟩, rfl, by show a5 < _; omega, hcb.grown hgz (fun k hk => by injection hk with hk; omega), grownBy_own hgrb hgz (fun k hk => by injection hk with hk; omega)⟩
  · have d11 : (z == 11) = false := by simp [h11]
    clear h11
    go_upto_region 4 with fail
    generalize w7 = wd at *
    go_wp2_with (first | (refine wpList_load_row (o := ⟨some 25, .load 29 (.tmp 3), _, _, _, _⟩) rfl 29 _ rfl T rfl 29 _ (0, 0) _ hT7 Tryd.underlying29 rfl (by kernel_rfl) ?_) | (refine wpList_store_row (o := ⟨none, .store 29 (.tmp 2) (.tmp 25), _, _, _, _⟩) rfl 29 _ _ rfl w.heap.size #[.int .i64 a1, .int .i64 a2, .int .i64 a3, .int .i64 a4, .int .u64 (a5 : Int)] rfl rfl 29 _ hB7 (by kernel_rfl) rfl (by kernel_rfl) ?_))
    refine bodyPost_ret (results_cell_row Tryd.results15 _ _ w.heap.size 29 _ _ _ rfl (setRow_heap _ _ _ _ _ _ hB7) Tryd.underlying29 rfl (by kernel_rfl)) rfl ?_
    have hgz := grownBy_setRow wd w.heap.size #[.int .i64 a1, .int .i64 a2, .int .i64 a3, .int .i64 a4, .int .u64 (a5 : Int)]
    exact ⟨⟨a1, a2, a3, a4, a5⟩, rfl, by show a5 < _; omega, hc7.grown hgz (fun k hk => by injection hk with hk; omega), grownBy_own hgr7 hgz (fun k hk => by injection hk with hk; omega)⟩
end Go.Proofs.YtkgdogccnkjcgaaDoor
