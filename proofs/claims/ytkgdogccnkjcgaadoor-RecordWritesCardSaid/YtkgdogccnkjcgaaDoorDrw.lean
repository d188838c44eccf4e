/-
  WALKS of the draws of chapter 22: Record, Header, Shard.
-/
import Derived.Test.YtkgdogccnkjcgaaDoorSame2
import Derived.Test.YtkgdogccnkjcgaaDoorRChk
import Derived.Test.YtkgdogccnkjcgaaDoorDrawInt
import Derived.Deep.CutBlock
namespace Go.Proofs.YtkgdogccnkjcgaaDoor
open Go.ChangeShapes Go.WideShapes Go.ChangeAt Go.RowKit
/-- what is drawn as a record -/
def RecDraw (g : Nat) (w : World) (e : Ending) (w' : World) : Prop := ∃ (r : Rc) (v : Value), e = .returned (r.val v) ∧ IsSl v ∧ w'.ownsRow w.heap.size 3 1 v r.chain.length (ints r.chain) ∧ r.chain.length ≤ 5 ∧ Cod w' g ∧ w.grownBy w' (some g)
/-- the record under way -/
structure RDr (B T g : Nat) (r : Rc) (v : Value) (w0 w : World) : Prop where
  t : w.heap[T]? = some (.cells #[.int .i64 r.kind, .int .i64 r.clock, .int .i64 r.addr, v, .int .i64 r.lost, .int .i64 r.index, .int .i64 r.value] 45 (0, 0))
  b : w.heap[B]? = some (.cells #[.int .i64 0, .int .i64 0, .int .i64 0, .slice none 0 0, .int .i64 0, .int .i64 0, .int .i64 0] 45)
  own : w.ownsRow (T + 1) 3 1 v r.chain.length (ints r.chain)
  cod : Cod w g
  gr : w0.grownBy w (some g)
theorem RDr.draw {B T g : Nat} {r : Rc} {v : Value} {w0 w w' : World} (h : RDr B T g r v w0 w) (hg : w.grownBy w' (some g)) (hc : Cod w' g) (hgB : g < B) (hBT : B < T) : RDr B T g r v w0 w' :=
  ⟨(hg.block T (Array.getElem?_eq_some_iff.1 h.t).1 (fun e => by injection e with e; omega)).trans h.t, (hg.block B (Array.getElem?_eq_some_iff.1 h.b).1 (fun e => by injection e with e; omega)).trans h.b,
   h.own.kept hg (.inr (fun e => by have := h.own.lt _ e; omega)), hc, grownBy_trans h.gr hg⟩
theorem RDr.upd {B T g : Nat} {r r' : Rc} {v : Value} {w0 w w' : World} (h : RDr B T g r v w0 w) (hg : w.grownBy w' (some T)) (ht : w'.heap[T]? = some (.cells #[.int .i64 r'.kind, .int .i64 r'.clock, .int .i64 r'.addr, v, .int .i64 r'.lost, .int .i64 r'.index, .int .i64 r'.value] 45 (0, 0))) (hch : r'.chain = r.chain) (hgB : g < B) (hBT : B < T) (hw0 : w0.heap.size ≤ T) : RDr B T g r' v w0 w' :=
  ⟨ht, (hg.block B (Array.getElem?_eq_some_iff.1 h.b).1 (fun e => by injection e with e; omega)).trans h.b, by rw [hch]; exact h.own.kept hg (.inr (fun e => by have := h.own.lt _ e; omega)),
   h.cod.grown hg (fun k hk => by injection hk with hk; omega), grownBy_own h.gr hg (fun k hk => by injection hk with hk; omega)⟩
theorem RDr.lt {B T g : Nat} {r : Rc} {v : Value} {w0 w : World} (h : RDr B T g r v w0 w) : T < w.heap.size ∧ B < w.heap.size := ⟨(Array.getElem?_eq_some_iff.1 h.t).1, (Array.getElem?_eq_some_iff.1 h.b).1⟩
theorem enters25 (args : Array Value) (w : World) : (callFunc 25 args).run Tryd.prog w = .ok (.enter 25 args) w := by
  have := Tryd.func25
  go_simp
theorem RDr.push {B T g gg cap : Nat} {r : Rc} {v : Value} {x : Int} {w0 w w1 w2 w4 : World} (h : RDr B T g r v w0 w) (hw1 : w1 = w.drew) (hg2 : w1.grownBy w2 (some g)) (hc2 : Cod w2 g) (hgrow : (w2.alloc (.cells #[.int .i64 x] 3)).grownBy w4 v.ownBlock)
    (hown1 : w4.ownsRow (T + 1) 3 1 (.slice (some ⟨gg, 0, none⟩) (r.chain.length + 1) cap) (r.chain.length + 1) (ints r.chain ++ [.int .i64 x])) (hgB : g < B) (hBT : B < T) (hw0 : w0.heap.size ≤ T) :
    RDr B T g { r with chain := r.chain ++ [x] } (.slice (some ⟨gg, 0, none⟩) (r.chain.length + 1) cap) w0 (w4.setCell ⟨T, 3, none⟩ (.slice (some ⟨gg, 0, none⟩) (r.chain.length + 1) cap)) := by
  subst hw1
  have ho : ∀ k, v.ownBlock = some k → T + 1 ≤ k := fun k hk => (h.own.lt k hk).1
  have hl := h.lt
  have hs2 : w.heap.size ≤ w2.heap.size := hg2.size
  have hs3 : (w2.alloc (.cells #[.int .i64 x] 3)).heap.size = w2.heap.size + 1 := by simp
  have hs4 := hgrow.size
  have blk : ∀ k, k ≤ T → k ≠ g → w4.heap[k]? = w.heap[k]? := fun k hk hn =>
    (hgrow.block k (by omega) (fun e => by have := ho k e.symm; omega)).trans ((Below.heap_alloc w2 _ k (by omega)).trans (hg2.block k (show k < w.heap.size by omega) (fun e => by injection e with e; exact hn e)))
  have hgS := grownBy_set w4 T 3 (.slice (some ⟨gg, 0, none⟩) (r.chain.length + 1) cap)
  refine ⟨heap_setCell_same w4 T 3 _ _ _ ((blk T (Nat.le_refl _) (by omega)).trans h.t), ?_, ?_, ?_, ?_⟩
  · exact (hgS.block B (by omega) (fun e => by injection e with e; omega)).trans ((blk B (by omega) (by omega)).trans h.b)
  · simp only [List.length_append, List.length_singleton, List.map_append, List.map_cons, List.map_nil]
    exact hown1.kept hgS (.inr (fun e => by have := hown1.lt _ e; omega))
  · exact ((hc2.alloc _).grown hgrow (fun k hk => by have := ho k hk; omega)).grown hgS (fun k hk => by injection hk with hk; omega)
  · exact grownBy_own (grownBy_own (grownBy_alloc_same (grownBy_trans h.gr (show w.grownBy w2 (some g) from ⟨hg2.os, hg2.tape, hg2.output, hg2.size, hg2.block⟩)) _) hgrow (fun k hk => by have := ho k hk; omega)) hgS (fun k hk => by injection hk with hk; omega)
theorem RDr.swap {B T g n b6 : Nat} {r : Rc} {v u u' : Value} {x : Int} {w0 w w4 : World} (h : RDr B T g r v w0 w) (hu : w.ownsRow b6 3 1 u n (ints r.chain)) (hgrow : w.grownBy w4 u.ownBlock)
    (hown1 : w4.ownsRow b6 3 1 u' (n + 1) (ints r.chain ++ [.int .i64 x])) (hn : n = r.chain.length) (hb6 : T < b6) (hgB : g < B) (hBT : B < T) (hw0 : w0.heap.size ≤ T) :
    w4.heap[T]? = some (.cells #[.int .i64 r.kind, .int .i64 r.clock, .int .i64 r.addr, v, .int .i64 r.lost, .int .i64 r.index, .int .i64 r.value] 45 (0, 0)) ∧ RDr B T g { r with chain := r.chain ++ [x] } u' w0 (w4.setCell ⟨T, 3, none⟩ u') := by
  have ho : ∀ k, u.ownBlock = some k → b6 ≤ k := fun k hk => (hu.lt k hk).1
  have hl := h.lt
  have hs4 := hgrow.size
  have hT4 := (hgrow.block T hl.1 (fun e => by have := ho T e.symm; omega)).trans h.t
  have hgS := grownBy_set w4 T 3 u'
  refine ⟨hT4, heap_setCell_same w4 T 3 _ _ _ hT4, ?_, ?_, ?_, ?_⟩
  · exact (hgS.block B (by omega) (fun e => by injection e with e; omega)).trans ((hgrow.block B hl.2 (fun e => by have := ho B e.symm; omega)).trans h.b)
  · simp only [List.length_append, List.length_singleton, List.map_append, List.map_cons, List.map_nil]
    rw [← hn]
    exact ownsRow_mono2 (hown1.kept hgS (.inr (fun e => by have := hown1.lt _ e; omega))) (by omega)
  · exact (h.cod.grown hgrow (fun k hk => by have := ho k hk; omega)).grown hgS (fun k hk => by injection hk with hk; omega)
  · exact grownBy_own (grownBy_own h.gr hgrow (fun k hk => by have := ho k hk; omega)) hgS (fun k hk => by injection hk with hk; omega)
set_option maxRecDepth 100000 in
set_option maxHeartbeats 16000000 in
theorem Record_any (g : Nat) (w : World) (h : Cod w g) : Calls Tryd.prog 20 #[.pointer (some ⟨g, 0, none⟩)] w (RecDraw g w) := by
  obtain ⟨i3, hi3, hy0, hy1', hy2'⟩ := info_parts Tryd.info3
  have hlt := h.lt
  have H := Lib.hid h
  clear h
  go_enter Tryd.func20, Tryd.ntmps20
  go_wp2_with fail
  refine (Next_any g 50 (by omega) _ ?h1).mono ?_
  case h1 => exact H.out.alloc _
  rintro e w1 ⟨i, rfl, i0, i1, hc1, hg1⟩
  have hb1 := (hg1.block w.heap.size (by simp) (by intro e; injection e with e; omega)).trans (heap_alloc_new w _)
  have hw1 := grownBy_trans (World.grownBy_alloc w (.cells #[.int .i64 0, .int .i64 0, .int .i64 0, .slice none 0 0, .int .i64 0, .int .i64 0, .int .i64 0] 45) (some g)) hg1
  have hz1 := hg1.size
  simp only [World.size_alloc] at hz1
  clear hg1
  go_wp2_with fail
  refine (Next_any g 3000 (by omega) _ hc1).mono ?_
  rintro e w2 ⟨x, rfl, x0, x1, hc2, hg2⟩
  have hb2 := (hg2.block w.heap.size (by omega) (by intro e; injection e with e; omega)).trans hb1
  have hw2 := grownBy_trans hw1 hg2
  have hz2 := hg2.size
  clear hg2 hb1 hw1
  have hR : RDr w.heap.size w2.heap.size g ⟨2, 0, 0, 0, i, x, []⟩ (.slice none 0 0) w (w2.alloc (.cells #[.int .i64 2, .int .i64 0, .int .i64 0, .slice none 0 0, .int .i64 0, .int .i64 i, .int .i64 x] 45)) :=
    ⟨heap_alloc_new _ _, (Below.heap_alloc _ _ _ (by omega)).trans hb2, World.ownsRow_nil _ _ _ _, hc2.alloc _, grownBy_alloc_same hw2 _⟩
  have hTw : w.heap.size < w2.heap.size := by omega
  clear hb2 hw2 hz1 hz2 hc1 hc2 i0 i1 x0 x1
  go_upto_region 2 with fail
  generalize (w2.alloc (.cells #[.int .i64 2, .int .i64 0, .int .i64 0, .slice none 0 0, .int .i64 0, .int .i64 i, .int .i64 x] 45)) = w3 at *
  have hw0T : w.heap.size ≤ w2.heap.size := by omega
  generalize w2.heap.size = T at *
  go_wp2_with fail
  refine (Next_any g 2 (by omega) _ hR.cod).mono ?_
  rintro e w4 ⟨y, rfl, y0, y1, hc4, hg4⟩
  have hR4 := hR.draw hg4 hc4 hlt hTw
  clear hg4 hc4 hR
  go_upto_if 12 with fail
  go_cut [4] from 13 to 36 (fun v4 wx => ∃ r v, RDr w.heap.size T g r v w wx ∧ r.chain.length ≤ 4)
  case first =>
    by_cases hy : y = 1
    case neg =>
      have ey : (y == 1) = false := by simp [hy]
      clear hy
      go_wp2_with fail
      go_meet
      exact ⟨_, _, hR4, by simp⟩
    subst hy
    go_wp2_with fail
    refine (Next_any g 500 (by omega) _ hR4.cod).mono ?_
    rintro e w5 ⟨cl, rfl, cl0, cl1, hc5, hg5⟩
    have hR5 := hR4.draw hg5 hc5 hlt hTw
    clear hg5 hc5 hR4
    go_wp2_with fail
    refine (Next_any g 300 (by omega) _ hR5.cod).mono ?_
    rintro e w6 ⟨ad, rfl, ad0, ad1, hc6, hg6⟩
    have hR6 := hR5.draw hg6 hc6 hlt hTw
    clear hg6 hc6 hR5
    go_wp2_with fail
    refine (Next_any g 3 (by omega) _ hR6.cod).mono ?_
    rintro e w7 ⟨lo, rfl, lo0, lo1, hc7, hg7⟩
    have hR7 := hR6.draw hg7 hc7 hlt hTw
    clear hg7 hc7 hR6
    have hT := hR7.t
    go_wp2_with (refine wpList_store_row (o := ⟨none, .store 45 (.tmp 3) (.tmp 21), _, _, _, _⟩) rfl 45 _ _ rfl T #[.int .i64 1, .int .i64 (cl - 100), .int .i64 ad, .slice none 0 0, .int .i64 lo, .int .i64 0, .int .i64 0] rfl rfl 45 _ hT (by kernel_rfl) rfl (by kernel_rfl) ?_)
    have hR8 := hR7.upd (r' := ⟨1, cl - 100, ad, lo, 0, 0, []⟩) (grownBy_setRow w7 T _) (setRow_heap _ _ _ _ _ _ hT) rfl hlt hTw hw0T
    generalize w7.setRow T _ = w8 at *
    clear hR7 hT
    refine (Next_any g 4 (by omega) _ hR8.cod).mono ?_
    rintro e w9 ⟨k0, rfl, k00, k01, hc9, hg9⟩
    have hR9 := hR8.draw hg9 hc9 hlt hTw
    obtain ⟨m, rfl⟩ : ∃ m : Nat, k0 = m := ⟨k0.toNat, by omega⟩
    have hm3 : m ≤ 3 := by omega
    clear hg9 hc9 hR8 k00 k01
    go_wp2_with fail
    go_loopw [4] (fun v4 wr => ∃ (k : Nat) (r : Rc) (v : Value), v4 = .int .i64 (k : Int) ∧ RDr w.heap.size T g r v w wr ∧ r.chain.length + k ≤ 3) (fun v4 _ => (intOf v4).toNat)
    case atStart => exact ⟨m, _, _, rfl, hR9, by simp; omega⟩
    case round =>
      clear hR9 hm3
      obtain ⟨k, r, v, rfl, hA, hkl⟩ := hrel
      by_cases hk : 0 < k
      case neg =>
        obtain rfl : k = 0 := by omega
        go_wp2_with fail
        go_meet
        exact ⟨_, _, hA, by omega⟩
      have hlA := hA.lt
      have HOWN : Hid (wr.drew.ownsRow (T + 1) 3 1 v r.chain.length (ints r.chain)) := Lib.hid hA.own
      have HC : Hid (Cod wr.drew g) := Lib.hid hA.cod
      have HA := Lib.hid hA
      have c2 : wr.cell? ⟨T, 3, none⟩ = some v := cell_of_row _ _ 3 _ _ _ hA.t
      have z2 : wr.frozen? ⟨T, 3, none⟩ = false := unfrozen_of_row hA.t
      have hownS : v.ownBlock ≠ some T := fun e => by have := HOWN.out.lt T e; omega
      have hTw2 : T < wr.drew.heap.size := hlA.1
      have hlen3 : r.chain.length ≤ 3 := by omega
      clear hA
      go_wp2_with fail
      go_region_law ((first | (refine step_gives (fun u w2 => ∃ x : Int, u = .int .i64 x ∧ Cod w2 g ∧ wr.drew.grownBy w2 (some g)) (by rfl) (ogives_call 25 _ _ (by rfl) #[.pointer (some ⟨g, 0, none⟩), .int .i64 300] (by rfl) (enters25 _ _) ((Next_any g 300 (by omega) wr.drew HC.out).mono (fun e w2 h => by obtain ⟨x, e1, _, _, e4, e5⟩ := h; exact ⟨_, e1, x, rfl, e4, e5⟩))) ?_; rintro _ w2 ⟨x, rfl, hcd2, hg2⟩; have c2w : w2.cell? ⟨T, 3, none⟩ = some v := hg2.cell c2 (fun e => by injection e with e; have e' : T = g := e; omega); have c2a := cell_alloc' (.cells #[.int .i64 x] 3) c2w; have z2w : w2.frozen? ⟨T, 3, none⟩ = false := (World.frozen?_of_block (a := ⟨T, 3, none⟩) (hg2.block T hTw2 (by intro e; injection e with e; omega))).trans z2; have z2a := frozen_alloc' (.cells #[.int .i64 x] 3) c2w z2w; have hown2 := HOWN.out.kept hg2 (.inr (fun e => by have := HOWN.out.lt _ e; omega)); have hs2 := hg2.size) | (refine step_append_lies _ (by rfl) _ _ _ (by rfl) (T + 1) 3 i3 _ 1 8 Tryd.und41 hi3 hy0 hy1' hy2' rfl (by omega) v r.chain.length (ints r.chain) (by rfl) (hown2.alloc _) ⟨w2.heap.size, 0, none⟩ 1 1 [.int .i64 x] (by rfl) (by rfl) (World.news_of_block (cs := #[.int .i64 x]) (t := 3) (fr := (0, 0)) (heap_alloc_new w2 _)) (by simp [Value.oneCell']) (by omega) (by simp [maxLen]; omega) (by omega) (by simp; omega) (w2.heap.size + 1) (by simp) ?_; intro gg cap w4 hown1 hgrow hat hlt2; have c2x : w4.cell? ⟨T, 3, none⟩ = some v := (by rw [hgrow.cell_far _ (by simp; omega) (Ne.symm hownS)]; exact c2a); have z2x : w4.frozen? ⟨T, 3, none⟩ = false := (by rw [hgrow.frozen_far _ (by simp; omega) (Ne.symm hownS)]; exact z2a))))
      all_goals
        have hR10 := (HA.out.push (w1 := wr.drew) rfl hg2 hcd2 hgrow hown1 hlt hTw hw0T)
        have HR10 := Lib.hid hR10
        clear hR10 hgrow hown1 hg2 hcd2 hown2 c2 z2 c2w c2a z2w z2a c2x z2x hat
        go_wp2_with fail
        go_roundw
        case rel => exact ⟨k - 1, _, _, by go_num, HR10.out, by simp; omega⟩
        case measure => simp [intOf]; omega
  case rest =>
    obtain ⟨r, v, hR5, hcl⟩ := hcut
    clear hR4
    go_wp2_with fail
    refine (Next_any g 16 (by omega) _ hR5.cod).mono ?_
    rintro e w6 ⟨z, rfl, z0, z1, hc6, hg6⟩
    have hR6 := hR5.draw hg6 hc6 hlt hTw
    clear hg6 hc6 hR5
    go_upto_block 2 with fail
    go_cut [39, 44, 54, 59] from 40 to 70 (fun v39 v44 v54 v59 wx => ∃ r v, RDr w.heap.size T g r v w wx ∧ r.chain.length ≤ 5)
    case first =>
      by_cases z12 : z = 12
      case pos =>
        subst z12
        have ez : ((12 : Int) == 12) = true := rfl
        go_wp2_with fail
        refine (DInt_any g _ hR6.cod).mono ?_
        rintro e w7 ⟨q, rfl, q0, q1, hc7, hg7⟩
        have hR7 := hR6.draw hg7 hc7 hlt hTw
        have c0 : w7.cell? ⟨T, 6, none⟩ = some (.int .i64 r.value) := cell_of_row _ _ 6 _ _ _ hR7.t
        have f0 : w7.frozen? ⟨T, 6, none⟩ = false := unfrozen_of_row hR7.t
        have HR8 := Lib.hid (hR7.upd (r' := { r with value := q }) (grownBy_set w7 T 6 (.int .i64 q)) (heap_setCell_same _ T 6 _ _ _ hR7.t) rfl hlt hTw hw0T)
        clear hg7 hc7 hR6 hR7
        go_wp2_with fail
        go_meet
        exact ⟨_, _, HR8.out, by simp; omega⟩
      have e12 : (z == 12) = false := by simp [z12]
      clear z12
      by_cases z13 : z = 13
      case pos =>
        subst z13
        have ez : ((13 : Int) == 13) = true := rfl
        go_wp2_with fail
        refine (DInt_any g _ hR6.cod).mono ?_
        rintro e w7 ⟨q, rfl, q0, q1, hc7, hg7⟩
        have hR7 := hR6.draw hg7 hc7 hlt hTw
        clear hg7 hc7 hR6
        go_wp2_with fail
        refine (DInt_any g _ hR7.cod).mono ?_
        rintro e w8 ⟨q2, rfl, q20, q21, hc8, hg8⟩
        have hR8 := hR7.draw hg8 hc8 hlt hTw
        clear hg8 hc8 hR7
        have c2 : w8.cell? ⟨T, 2, none⟩ = some (.int .i64 r.addr) := cell_of_row _ _ 2 _ _ _ hR8.t
        have f2 : w8.frozen? ⟨T, 2, none⟩ = false := unfrozen_of_row hR8.t
        have c1 : w8.cell? ⟨T, 1, none⟩ = some (.int .i64 r.clock) := cell_of_row _ _ 1 _ _ _ hR8.t
        have f1 : w8.frozen? ⟨T, 1, none⟩ = false := unfrozen_of_row hR8.t
        have hR9 := hR8.upd (r' := { r with addr := q }) (grownBy_set w8 T 2 (.int .i64 q)) (heap_setCell_same _ T 2 _ _ _ hR8.t) rfl hlt hTw hw0T
        have HR10 := Lib.hid (hR9.upd (r' := { r with addr := q, clock := q2 }) (grownBy_set _ T 1 (.int .i64 q2)) (heap_setCell_same _ T 1 _ _ _ hR9.t) rfl hlt hTw hw0T)
        clear hR8 hR9
        go_wp2_with fail
        go_meet
        exact ⟨_, _, HR10.out, by simp; omega⟩
      have e13 : (z == 13) = false := by simp [z13]
      clear z13
      by_cases z14 : z = 14
      case pos =>
        subst z14
        have ez : ((14 : Int) == 14) = true := rfl
        go_wp2_with fail
        refine (Next_any g 5 (by omega) _ hR6.cod).mono ?_
        rintro e w7 ⟨q, rfl, q0, q1, hc7, hg7⟩
        have hR7 := hR6.draw hg7 hc7 hlt hTw
        have c0 : w7.cell? ⟨T, 0, none⟩ = some (.int .i64 r.kind) := cell_of_row _ _ 0 _ _ _ hR7.t
        have f0 : w7.frozen? ⟨T, 0, none⟩ = false := unfrozen_of_row hR7.t
        have HR8 := Lib.hid (hR7.upd (r' := { r with kind := q }) (grownBy_set w7 T 0 (.int .i64 q)) (heap_setCell_same _ T 0 _ _ _ hR7.t) rfl hlt hTw hw0T)
        clear hg7 hc7 hR6 hR7
        go_wp2_with fail
        go_meet
        exact ⟨_, _, HR8.out, by simp; omega⟩
      have e14 : (z == 14) = false := by simp [z14]
      clear z14
      by_cases z15 : z = 15
      case pos =>
        subst z15
        have ez : ((15 : Int) == 15) = true := rfl
        obtain ⟨va, vn, vc, rfl⟩ := own_sl hR6.own
        obtain rfl := own_len hR6.own
        have c3 : w6.cell? ⟨T, 3, none⟩ = some (.slice va r.chain.length vc) := cell_of_row _ _ 3 _ _ _ hR6.t
        obtain ⟨va', vc', e', hi6⟩ := Is.of_own hR6.own
        injection e' with e1' _ e2'
        subst e1' e2'
        have HI6 := Lib.hid hi6
        clear hi6
        go_wp2_with (at_builtin; refine wpList_append_src rfl _ _ _ rfl w6.heap.size 3 i3 _ 1 8 Tryd.und41 hi3 hy0 hy1' hy2' rfl (by omega) _ _ _ rfl (World.ownsRow_nil _ _ _ _) va r.chain.length vc (ints r.chain) rfl HI6.out.2.1 HI6.out.2.2.2.1 (by simp) HI6.out.2.2.2.2 (ints_one _) (by unfold maxLen; omega) (by omega) (Nat.le_refl _) ?_; intro v7 w7 hown7 hgr7; rw [Nat.zero_add, List.nil_append] at hown7)
        have hb7 : Below w6.heap.size w6 w7 := (Below.refl _ _).grown hgr7 (Nat.le_refl _) (fun k e => by cases e)
        have hR7 : RDr w.heap.size T g r _ w w7 := hR6.draw ⟨hb7.os, hb7.tape, hb7.output, hb7.size, fun i hi _ => hb7.block i hi⟩ (hR6.cod.below hb7 (by have := hR6.lt; omega)) hlt hTw
        clear hgr7 c3
        refine (DInt_any g _ hR7.cod).mono ?_
        rintro e w8 ⟨q, rfl, q0, q1, hc8, hg8⟩
        have hR8 := hR7.draw hg8 hc8 hlt hTw
        have hTl6 := hR6.lt
        have hown8 := hown7.kept hg8 (.inr (fun e => by have := hown7.lt _ e; omega))
        have HOWN8 := Lib.hid (hown8.alloc (.cells #[.int .i64 q] 3))
        have HNEW := Lib.hid (show Cells (w8.alloc (.cells #[.int .i64 q] 3)) (some ⟨w8.heap.size, 0, none⟩) [.int .i64 q] from fun _ => ⟨_, 0, rfl, by simp, fun j u hj => by rw [Nat.zero_add, cell_of_row _ _ _ _ _ _ (heap_alloc_new w8 _)]; simpa using hj⟩)
        have hs8 := hg8.size
        have hs7 := hb7.size
        have hz8 : (w8.alloc (.cells #[.int .i64 q] 3)).heap.size = w8.heap.size + 1 := by simp
        have hR8a : RDr w.heap.size T g r _ w (w8.alloc (.cells #[.int .i64 q] 3)) := hR8.draw (World.grownBy_alloc w8 _ (some g)) (hR8.cod.alloc _) hlt hTw
        have HR8 := Lib.hid hR8a
        clear hg8 hc8 hR6 hR7 hown7 hown8 hR8 hb7 hR8a
        go_wp2_with (at_builtin; refine wpList_append_src rfl _ _ _ rfl w6.heap.size 3 i3 _ 1 8 Tryd.und41 hi3 hy0 hy1' hy2' rfl (by omega) _ _ _ rfl HOWN8.out _ 1 1 [.int .i64 q] rfl (Nat.le_refl _) (fun e => by cases e) rfl HNEW.out (by simp [Value.oneCell']) (by unfold maxLen; omega) (by omega) (by omega) ?_; intro v9 w9 hown9 hgr9; obtain ⟨va9, vn9, vc9, rfl⟩ := own_sl hown9; have HR9 := Lib.hid (HR8.out.swap HOWN8.out hgr9 hown9 rfl (by omega) hlt hTw hw0T); have ho9 := (fun k hk => (HOWN8.out.lt k hk).1); have c3 := cell_of_row _ _ 3 _ _ _ HR9.out.1; have f3 := unfrozen_of_row (i := 3) HR9.out.1; clear hown9 hgr9 ho9)
        go_meet
        exact ⟨_, _, HR9.out.2, by simp; omega⟩
      have e15 : (z == 15) = false := by simp [z15]
      clear z15
      go_wp2_with fail
      go_meet
      exact ⟨_, _, hR6, by omega⟩
    case rest =>
      clear hR6
      obtain ⟨r2, v2, hR7, hcl2⟩ := hcut
      obtain ⟨va, vn, vc, rfl⟩ := own_sl hR7.own
      have hT := hR7.t
      have hB := hR7.b
      go_wp2_with (first | (refine wpList_load_row (o := ⟨some 71, .load 45 (.tmp 3), _, _, _, _⟩) rfl 45 _ rfl T rfl 45 _ (0, 0) _ hT Tryd.underlying45 rfl (by kernel_rfl) ?_) | (refine wpList_store_row (o := ⟨none, .store 45 (.tmp 2) (.tmp 71), _, _, _, _⟩) rfl 45 _ _ rfl w.heap.size #[.int .i64 r2.kind, .int .i64 r2.clock, .int .i64 r2.addr, .slice va vn vc, .int .i64 r2.lost, .int .i64 r2.index, .int .i64 r2.value] rfl rfl 45 _ hB (by kernel_rfl) rfl (by kernel_rfl) ?_))
      refine bodyPost_ret (results_cell_row Tryd.results20 _ _ w.heap.size 45 _ _ _ rfl (setRow_heap _ _ _ _ _ _ hB) Tryd.underlying45 rfl (by kernel_rfl)) rfl ?_
      have hgs := grownBy_setRow wc w.heap.size #[.int .i64 r2.kind, .int .i64 r2.clock, .int .i64 r2.addr, .slice va vn vc, .int .i64 r2.lost, .int .i64 r2.index, .int .i64 r2.value]
      exact ⟨r2, _, rfl, ⟨_, _, _, rfl⟩, ownsRow_mono2 (hR7.own.kept hgs (.inr (fun e => by have := hR7.own.lt _ e; omega))) (by omega), hcl2, hR7.cod.grown hgs (fun k hk => by injection hk with hk; omega), grownBy_own hR7.gr hgs (fun k hk => by injection hk with hk; omega)⟩
end Go.Proofs.YtkgdogccnkjcgaaDoor
