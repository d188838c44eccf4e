/-
  WALK of the draw of a profile.
-/
import Derived.Test.YtkgdogccnkjcgaaDoorDrw
namespace Go.Proofs.YtkgdogccnkjcgaaDoor
open Go.ChangeShapes Go.WideShapes Go.ChangeAt Go.RowKit
/-- the profile under way -/
structure ShD (B S g : Nat) (h : Hd) (v : Value) (wh : Bool) (ls : List (Rc × Value)) (w0 w : World) : Prop where
  s : w.heap[S]? = some (.cells #[.int .i64 h.rel, .int .i64 h.mach, .int .i64 h.num, .int .i64 h.per, .int .u64 ((h.print : Nat) : Int), v, .bool wh] 32 (0, 0))
  b : w.heap[B]? = some (.cells #[.int .i64 0, .int .i64 0, .int .i64 0, .int .i64 0, .int .u64 0, .slice none 0 0, .bool false] 32)
  own : w.ownsRow (S + 1) 45 7 v ls.length (ls.flatMap rv)
  chains : Chains w (S + 1) ls
  cod : Cod w g
  gr : w0.grownBy w (some g)
theorem ShD.lt {B S g : Nat} {h : Hd} {v : Value} {wh : Bool} {ls : List (Rc × Value)} {w0 w : World} (d : ShD B S g h v wh ls w0 w) : S < w.heap.size ∧ B < w.heap.size :=
  ⟨(Array.getElem?_eq_some_iff.1 d.s).1, (Array.getElem?_eq_some_iff.1 d.b).1⟩
theorem ShD.draw {B S g : Nat} {h : Hd} {v : Value} {wh : Bool} {ls : List (Rc × Value)} {w0 w w' : World} (d : ShD B S g h v wh ls w0 w) (hg : w.grownBy w' (some g)) (hc : Cod w' g) (hgB : g < B) (hBS : B < S) : ShD B S g h v wh ls w0 w' :=
  ⟨(hg.block S d.lt.1 (fun e => by injection e with e; omega)).trans d.s, (hg.block B d.lt.2 (fun e => by injection e with e; omega)).trans d.b, d.own.kept hg (.inr (fun e => by have := d.own.lt _ e; omega)),
   d.chains.block hg (by omega), hc, grownBy_trans d.gr hg⟩
theorem ShD.more {B S g : Nat} {h : Hd} {v : Value} {wh : Bool} {ls : List (Rc × Value)} {w0 w w' : World} (d : ShD B S g h v wh ls w0 w) (hb : Below w.heap.size w w') (hgB : g < B) (hBS : B < S) : ShD B S g h v wh ls w0 w' :=
  d.draw ⟨hb.os, hb.tape, hb.output, hb.size, fun i hi _ => hb.block i hi⟩ (d.cod.below hb (by have := d.lt; omega)) hgB hBS
theorem ShD.push {B S g : Nat} {h : Hd} {v v' : Value} {wh : Bool} {ls : List (Rc × Value)} {p : Rc × Value} {w0 w w4 : World} (d : ShD B S g h v wh ls w0 w) (hgB : g < B) (hBS : B < S) (hw0 : w0.heap.size ≤ S) (hp : Chains w (S + 1) [p])
    (hown : w4.ownsRow (S + 1) 45 7 v' (ls.length + 1) (ls.flatMap rv ++ rv p)) (hgr : w.grownBy w4 v.ownBlock) : ShD B S g h v' wh (ls ++ [p]) w0 (w4.setCell ⟨S, 5, none⟩ v') := by
  have ho : ∀ k, v.ownBlock = some k → S + 1 ≤ k := fun k hk => (d.own.lt k hk).1
  have hg5 := grownBy_set w4 S 5 v'
  have hs := (hgr.block S d.lt.1 (fun e => by have := ho S e.symm; omega)).trans d.s
  have hz := hgr.size
  have hl := d.lt
  refine ⟨heap_setCell_same w4 S 5 _ _ _ hs, ?_, ?_, ?_, ?_, ?_⟩
  · exact (hg5.block B (by omega) (fun e => by injection e with e; omega)).trans ((hgr.block B d.lt.2 (fun e => by have := ho B e.symm; omega)).trans d.b)
  · rw [List.length_append, List.flatMap_append]
    have e : [p].flatMap rv = rv p := by simp
    rw [e]
    exact hown.kept hg5 (.inr (fun e => by have := hown.lt _ e; omega))
  · intro q hq
    have hc : Chains w4 (S + 1) (ls ++ [p]) := fun q hq => by
      rcases List.mem_append.1 hq with hq | hq
      · exact d.chains.row d.own hgr q hq
      · exact hp.row d.own hgr q hq
    exact hc.block hg5 (by omega) q hq
  · exact (d.cod.grown hgr (fun k hk => by have := ho k hk; omega)).grown hg5 (fun k hk => by injection hk with hk; omega)
  · exact grownBy_own (grownBy_own d.gr hgr (fun k hk => by have := ho k hk; omega)) hg5 (fun k hk => by injection hk with hk; omega)
/-- what is drawn as a profile -/
def ShDraw (g most : Nat) (w : World) (e : Ending) (w' : World) : Prop := ∃ (h : Hd) (v : Value) (wh : Bool) (ls : List (Rc × Value)), e = .returned (shv h v wh) ∧ IsSl v ∧ w'.ownsRow w.heap.size 45 7 v ls.length (ls.flatMap rv) ∧ Chains w' w.heap.size ls ∧
  ls.length ≤ most ∧ (∀ p ∈ ls, Good p.1 ∧ p.1.kind ≠ 3 ∧ p.1.chain.length ≤ 5) ∧ ckH h = 0 ∧ h.print < 18446744073709551616 ∧ Cod w' g ∧ w.grownBy w' (some g)
set_option maxRecDepth 100000 in
set_option maxHeartbeats 16000000 in
theorem Shard_any (g most : Nat) (hmost : most ≤ 100) (w : World) (h : Cod w g) : Calls Tryd.prog 10 #[.pointer (some ⟨g, 0, none⟩), .int .i64 (most : Int)] w (ShDraw g most w) := by
  obtain ⟨i0, hi0, hz0, hz1, hz2⟩ := info_parts Tryd.info45
  have hlt := h.lt
  have H := Lib.hid h
  clear h
  go_enter Tryd.func10, Tryd.ntmps10
  go_wp2_with fail
  refine (Next_any g 5 (by omega) _ ?h1).mono ?_
  case h1 => exact H.out.alloc _
  rintro e w1 ⟨a1, rfl, a10, a11, hc1, hg1⟩
  have hb1 := (hg1.block w.heap.size (by simp) (by intro e; injection e with e; omega)).trans (heap_alloc_new w _)
  have hw1 := grownBy_trans (World.grownBy_alloc w (.cells #[.int .i64 0, .int .i64 0, .int .i64 0, .int .i64 0, .int .u64 0, .slice none 0 0, .bool false] 32) (some g)) hg1
  have hz1' := hg1.size
  simp only [World.size_alloc] at hz1'
  clear hg1
  go_wp2_with fail
  refine (Next_any g 5 (by omega) _ hc1).mono ?_
  rintro e w2 ⟨a2, rfl, a20, a21, hc2, hg2⟩
  have hb2 := (hg2.block w.heap.size (by omega) (by intro e; injection e with e; omega)).trans hb1
  have hw2 := grownBy_trans hw1 hg2
  have hz2' := Nat.le_trans hz1' hg2.size
  clear hg2 hb1 hw1 hz1' hc1
  go_wp2_with fail
  refine (Next_any g 9 (by omega) _ hc2).mono ?_
  rintro e w3 ⟨a3, rfl, a30, a31, hc3, hg3⟩
  have hb3 := (hg3.block w.heap.size (by omega) (by intro e; injection e with e; omega)).trans hb2
  have hw3 := grownBy_trans hw2 hg3
  have hz3' := Nat.le_trans hz2' hg3.size
  clear hg3 hb2 hw2 hz2' hc2
  go_wp2_with fail
  refine (Next_any g 100 (by omega) _ hc3).mono ?_
  rintro e w4 ⟨a4, rfl, a40, a41, hc4, hg4⟩
  have hb4 := (hg4.block w.heap.size (by omega) (by intro e; injection e with e; omega)).trans hb3
  have hw4 := grownBy_trans hw3 hg4
  have hz4' := Nat.le_trans hz3' hg4.size
  clear hg4 hb3 hw3 hz3' hc3
  go_wp2_with fail
  refine (Next_any g 60000 (by omega) _ hc4).mono ?_
  rintro e w5 ⟨a5, rfl, a50, a51, hc5, hg5⟩
  have hb5 := (hg5.block w.heap.size (by omega) (by intro e; injection e with e; omega)).trans hb4
  have hw5 := grownBy_trans hw4 hg5
  have hz5' := Nat.le_trans hz4' hg5.size
  clear hg5 hb4 hw4 hz4' hc4
  obtain ⟨a5, rfl⟩ : ∃ q : Nat, a5 = q := ⟨a5.toNat, by omega⟩
  go_wp2_with fail
  refine (Next_any g 3 (by omega) _ hc5).mono ?_
  rintro e w6 ⟨a6, rfl, a60, a61, hc6, hg6⟩
  have hb6 := (hg6.block w.heap.size (by omega) (by intro e; injection e with e; omega)).trans hb5
  have hw6 := grownBy_trans hw5 hg6
  have hz6' := Nat.le_trans hz5' hg6.size
  clear hg6 hb5 hw5 hz5' hc5
  obtain ⟨wh, hwh⟩ : ∃ wh, decide ((0 : Int) < a6) = wh := ⟨_, rfl⟩
  obtain ⟨h, hh⟩ : ∃ h : Hd, h = ⟨a1, a2, a3, a4, a5⟩ := ⟨_, rfl⟩
  have hck : ckH h = 0 := by
    rw [hh]
    unfold ckH
    rw [if_pos]
    simp only [Bool.and_eq_true]
    exact ⟨⟨⟨inR_of ⟨by omega, by omega⟩, inR_of ⟨by omega, by omega⟩⟩, inR_of ⟨by omega, by omega⟩⟩, inR_of ⟨by omega, by omega⟩⟩
  have hpr : h.print < 18446744073709551616 := by rw [hh]; show a5 < _; omega
  have hD : ShD w.heap.size w6.heap.size g h (.slice none 0 0) wh [] w (w6.alloc (.cells #[.int .i64 a1, .int .i64 a2, .int .i64 a3, .int .i64 a4, .int .u64 ((a5 : Nat) : Int), .slice none 0 0, .bool wh] 32)) :=
    ⟨by rw [hh]; exact heap_alloc_new _ _, (Below.heap_alloc _ _ _ (by omega)).trans hb6, World.ownsRow_nil _ _ _ _, fun p hp => (by cases hp), hc6.alloc _, grownBy_alloc_same hw6 _⟩
  have hBS : w.heap.size < w6.heap.size := by omega
  have HCK := Lib.hid hck
  clear hb6 hw6 hc6 hz6' hh hck
  have g5 : (0 : Int) ≤ (a5 : Int) := by omega
  have g6 : (a5 : Int) < 60000 := by omega
  go_upto_region 2 with fail
  clear hwh
  generalize (w6.alloc (.cells #[.int .i64 a1, .int .i64 a2, .int .i64 a3, .int .i64 a4, .int .u64 ((a5 : Nat) : Int), .slice none 0 0, .bool wh] 32)) = w7 at *
  generalize w6.heap.size = S at *
  go_wp2_with fail
  refine (Next_any g ((most : Int) + 1) (by omega) _ hD.cod).mono ?_
  rintro e w8 ⟨k0, rfl, k00, k01, hc8, hg8⟩
  have hD8 := hD.draw hg8 hc8 hlt hBS
  obtain ⟨m, rfl⟩ : ∃ m : Nat, k0 = m := ⟨k0.toNat, by omega⟩
  have hm : m ≤ most := by omega
  clear hg8 hc8 hD k00 k01
  go_wp2_with fail
  go_loopw [6] (fun v6 wr => ∃ (k : Nat) (v : Value) (ls : List (Rc × Value)), v6 = .int .i64 (k : Int) ∧ ShD w.heap.size S g h v wh ls w wr ∧ ls.length + k ≤ most ∧ Hid (∀ p ∈ ls, Good p.1 ∧ p.1.kind ≠ 3 ∧ p.1.chain.length ≤ 5)) (fun v6 _ => (intOf v6).toNat)
  case atStart => exact ⟨m, _, [], rfl, hD8, by simp; omega, Lib.hid (fun p hp => by cases hp)⟩
  case round =>
    clear hD8 hm
    obtain ⟨k, v, ls, rfl, hA, hkl, HG⟩ := hrel
    by_cases hk : 0 < k
    case neg =>
      obtain rfl : k = 0 := by omega
      obtain ⟨va, vn, vc, rfl⟩ := own_sl hA.own
      have hS := hA.s
      have hB := hA.b
      go_wp2_with (first | (refine wpList_load_row (o := ⟨some 48, .load 32 (.tmp 5), _, _, _, _⟩) rfl 32 _ rfl S rfl 32 _ (0, 0) _ hS Tryd.underlying32 rfl (by kernel_rfl) ?_) | (refine wpList_store_row (o := ⟨none, .store 32 (.tmp 4) (.tmp 48), _, _, _, _⟩) rfl 32 _ _ rfl w.heap.size #[.int .i64 h.rel, .int .i64 h.mach, .int .i64 h.num, .int .i64 h.per, .int .u64 ((h.print : Nat) : Int), .slice va vn vc, .bool wh] rfl rfl 32 _ hB (by kernel_rfl) rfl (by kernel_rfl) ?_))
      refine bodyPost_ret (results_cell_row Tryd.results10 _ _ w.heap.size 32 _ _ _ rfl (setRow_heap _ _ _ _ _ _ hB) Tryd.underlying32 rfl (by kernel_rfl)) rfl ?_
      have hgs := grownBy_setRow wr w.heap.size #[.int .i64 h.rel, .int .i64 h.mach, .int .i64 h.num, .int .i64 h.per, .int .u64 ((h.print : Nat) : Int), .slice va vn vc, .bool wh]
      exact ⟨h, _, wh, ls, rfl, ⟨_, _, _, rfl⟩, ownsRow_mono2 (hA.own.kept hgs (.inr (fun e => by have := hA.own.lt _ e; omega))) (by omega), (hA.chains.block hgs (by omega)).mono (by omega), by omega, HG.out, HCK.out, hpr, hA.cod.grown hgs (fun k hk => by injection hk with hk; omega), grownBy_own hA.gr hgs (fun k hk => by injection hk with hk; omega)⟩
    have hlA := hA.lt
    go_wp2_with fail
    refine (Record_any g _ hA.cod).mono ?_
    rintro e w9 ⟨x, xv, rfl, ⟨xa, xn, xc, rfl⟩, hown9, hx5, hc9, hg9⟩
    have hA9 := hA.draw hg9 hc9 hlt hBS
    obtain rfl := own_len hown9
    have hs9 := hg9.size
    have hbX := (Below.refl w9.heap.size w9).alloc (Nat.le_refl _) (.cells #[.int .i64 x.kind, .int .i64 x.clock, .int .i64 x.addr, .slice xa x.chain.length xc, .int .i64 x.lost, .int .i64 x.index, .int .i64 x.value] 45)
    have hA10 := hA9.more hbX hlt hBS
    have hT : (w9.alloc (.cells #[.int .i64 x.kind, .int .i64 x.clock, .int .i64 x.addr, .slice xa x.chain.length xc, .int .i64 x.lost, .int .i64 x.index, .int .i64 x.value] 45)).heap[w9.heap.size]? = some (.cells #[.int .i64 x.kind, .int .i64 x.clock, .int .i64 x.addr, .slice xa x.chain.length xc, .int .i64 x.lost, .int .i64 x.index, .int .i64 x.value] 45 (0, 0)) := heap_alloc_new _ _
    have hown10 := own_below hown9 hbX
    obtain ⟨xa', xc', e', hi10⟩ := Is.of_own hown10
    injection e' with e1' _ e2'
    subst e1' e2'
    have HI10 := Lib.hid hi10
    have hSw : S < w9.heap.size := by omega
    have hown10 := ownsRow_mono2 hown10 (show S + 1 ≤ wr.heap.size by omega)
    clear hg9 hc9 hA hA9 hown9 hbX hi10
    go_upto_region 6 with fail
    generalize (w9.alloc (.cells #[.int .i64 x.kind, .int .i64 x.clock, .int .i64 x.addr, .slice xa x.chain.length xc, .int .i64 x.lost, .int .i64 x.index, .int .i64 x.value] 45)) = w10 at *
    generalize w9.heap.size = T at *
    have tT : T < w10.heap.size := (Array.getElem?_eq_some_iff.1 hT).1
    have t0 : w10.cell? ⟨T, 0, none⟩ = some (.int .i64 x.kind) := cell_of_row _ _ 0 _ _ _ hT
    have t1 : w10.cell? ⟨T, 1, none⟩ = some (.int .i64 x.clock) := cell_of_row _ _ 1 _ _ _ hT
    have t2 : w10.cell? ⟨T, 2, none⟩ = some (.int .i64 x.addr) := cell_of_row _ _ 2 _ _ _ hT
    have t3 : w10.cell? ⟨T, 3, none⟩ = some (.slice xa x.chain.length xc) := cell_of_row _ _ 3 _ _ _ hT
    have t4 : w10.cell? ⟨T, 4, none⟩ = some (.int .i64 x.lost) := cell_of_row _ _ 4 _ _ _ hT
    have t5 : w10.cell? ⟨T, 5, none⟩ = some (.int .i64 x.index) := cell_of_row _ _ 5 _ _ _ hT
    have t6 : w10.cell? ⟨T, 6, none⟩ = some (.int .i64 x.value) := cell_of_row _ _ 6 _ _ _ hT
    go_wp2_with fail
    refine (refCheckRecord_any x xa x.chain.length xc (by omega) _ HI10.out).mono ?_
    rintro e w11 ⟨rfl, hb11⟩
    have hA11 := hA10.more hb11 hlt hBS
    have hT11 := (hb11.block T tT).trans hT
    have hown11 := own_below hown10 hb11
    have hs11 := hb11.size
    obtain ⟨q, hq⟩ : ∃ q, ckR x = q := ⟨_, rfl⟩
    rw [hq]
    clear hb11 hA10 hT hown10 t0 t1 t2 t3 t4 t5 t6
    have t0 : w11.cell? ⟨T, 0, none⟩ = some (.int .i64 x.kind) := cell_of_row _ _ 0 _ _ _ hT11
    by_cases hq0 : q = 0
    case neg =>
      have dq : ((q : Int) == 0) = false := by simp; omega
      clear hq hq0
      go_wp2_with fail
      exact ⟨⟨k - 1, _, _, by go_num, hA11, by omega, HG⟩, by simp [intOf]; omega⟩
    subst hq0
    by_cases hk3 : x.kind = 3
    case pos =>
      have dk : (x.kind != 3) = false := by simp [hk3]
      have dk2 : (x.kind == 3) = true := by simp [hk3]
      clear hq hk3
      go_wp2_with fail
      exact ⟨⟨k - 1, _, _, by go_num, hA11, by omega, HG⟩, by simp [intOf]; omega⟩
    have dk : (x.kind != 3) = true := by simp [hk3]
    have dk2 : (x.kind == 3) = false := by simp [hk3]
    have HG' := Lib.hid (show ∀ p ∈ ls ++ [(x, Value.slice xa x.chain.length xc)], Good p.1 ∧ p.1.kind ≠ 3 ∧ p.1.chain.length ≤ 5 by
      intro p hp
      rcases List.mem_append.1 hp with hp | hp
      · exact HG.out p hp
      · rw [List.mem_singleton] at hp; subst hp; exact ⟨good_of hq, hk3, hx5⟩)
    clear hq hk3
    have hbX := (Below.refl w11.heap.size w11).alloc (Nat.le_refl _) (.cells #[.int .i64 x.kind, .int .i64 x.clock, .int .i64 x.addr, .slice xa x.chain.length xc, .int .i64 x.lost, .int .i64 x.index, .int .i64 x.value] 45)
    have hA12 := hA11.more hbX hlt hBS
    have hown12 := own_below hown11 hbX
    have HX := Lib.hid (show Chains (w11.alloc (.cells #[.int .i64 x.kind, .int .i64 x.clock, .int .i64 x.addr, .slice xa x.chain.length xc, .int .i64 x.lost, .int .i64 x.index, .int .i64 x.value] 45)) (S + 1) [(x, .slice xa x.chain.length xc)] by
      intro y hy
      rw [List.mem_singleton] at hy
      subst hy
      exact ⟨⟨_, _, _, rfl⟩, hown12⟩)
    have HNEW := Lib.hid (show Cells (w11.alloc (.cells #[.int .i64 x.kind, .int .i64 x.clock, .int .i64 x.addr, .slice xa x.chain.length xc, .int .i64 x.lost, .int .i64 x.index, .int .i64 x.value] 45)) (some ⟨w11.heap.size, 0, none⟩) (rv (x, .slice xa x.chain.length xc)) from fun _ => ⟨_, 0, rfl, by simp, fun j u hj => by rw [Nat.zero_add, cell_of_row _ _ _ _ _ _ (heap_alloc_new w11 _)]; unfold rv at hj; simpa using hj⟩)
    have HOWN := Lib.hid hA12.own
    have HA12 := Lib.hid hA12
    have hl12 := hA12.lt
    have g5' : w11.cell? ⟨S, 5, none⟩ = some v := cell_of_row _ _ 5 _ _ _ hA11.s
    have u5 : (w11.alloc (.cells #[.int .i64 x.kind, .int .i64 x.clock, .int .i64 x.addr, .slice xa x.chain.length xc, .int .i64 x.lost, .int .i64 x.index, .int .i64 x.value] 45)).cell? ⟨S, 5, none⟩ = some v := cell_of_row _ _ 5 _ _ _ hA12.s
    have u7 : (w11.alloc (.cells #[.int .i64 x.kind, .int .i64 x.clock, .int .i64 x.addr, .slice xa x.chain.length xc, .int .i64 x.lost, .int .i64 x.index, .int .i64 x.value] 45)).frozen? ⟨S, 5, none⟩ = false := unfrozen_of_row hA12.s
    have t1 : w11.cell? ⟨T, 1, none⟩ = some (.int .i64 x.clock) := cell_of_row _ _ 1 _ _ _ hT11
    have t2 : w11.cell? ⟨T, 2, none⟩ = some (.int .i64 x.addr) := cell_of_row _ _ 2 _ _ _ hT11
    have t3 : w11.cell? ⟨T, 3, none⟩ = some (.slice xa x.chain.length xc) := cell_of_row _ _ 3 _ _ _ hT11
    have t4 : w11.cell? ⟨T, 4, none⟩ = some (.int .i64 x.lost) := cell_of_row _ _ 4 _ _ _ hT11
    have t5 : w11.cell? ⟨T, 5, none⟩ = some (.int .i64 x.index) := cell_of_row _ _ 5 _ _ _ hT11
    have t6 : w11.cell? ⟨T, 6, none⟩ = some (.int .i64 x.value) := cell_of_row _ _ 6 _ _ _ hT11
    have hz11 : (w11.alloc (.cells #[.int .i64 x.kind, .int .i64 x.clock, .int .i64 x.addr, .slice xa x.chain.length xc, .int .i64 x.lost, .int .i64 x.index, .int .i64 x.value] 45)).heap.size = w11.heap.size + 1 := by simp
    obtain ⟨va, vn, vc, rfl⟩ := own_sl hA12.own
    obtain rfl := own_len hA12.own
    have hls : ls.length ≤ 100 := by omega
    clear hA11 hA12 hown11 hown12 hT11 hbX
    go_wp2_with (at_builtin; refine wpList_append_src rfl _ _ _ rfl (S + 1) 45 i0 _ 7 72 Tryd.underlying30 hi0 hz0 hz1 hz2 rfl (by omega) _ _ _ rfl HOWN.out _ 1 1 (rv (x, .slice xa x.chain.length xc)) rfl (Nat.le_refl _) (fun e => by cases e) rfl HNEW.out (by intro u hu; simp [rv] at hu; rcases hu with rfl | rfl | rfl | rfl | rfl | rfl | rfl <;> rfl) (by unfold maxLen; omega) (by omega) (by omega) ?_; intro v8 w12 hown13 hgr13; obtain ⟨va8, vn8, vc8, rfl⟩ := own_sl hown13; have HA13 := Lib.hid (HA12.out.push hlt hBS (by omega) HX.out hown13 hgr13); have ho9 := (fun k hk => (HOWN.out.lt k hk).1); have c59 := (hgr13.cell_far ⟨S, 5, none⟩ hl12.1 (fun e => by have := ho9 S e.symm; omega)).trans u5; have f59 := (hgr13.frozen_far ⟨S, 5, none⟩ hl12.1 (fun e => by have := ho9 S e.symm; omega)).trans u7; clear hown13 hgr13 ho9)
    exact ⟨⟨k - 1, _, ls ++ [(x, .slice xa x.chain.length xc)], by go_num, HA13.out, by simp; omega, HG'⟩, by simp [intOf]; omega⟩
end Go.Proofs.YtkgdogccnkjcgaaDoor
