/-
  CirculationLeast: no circulation is cheaper, by going through all of a small network
-/
import Derived.Test.YthoehobofdeifaaAll
import Derived.Test.YthoehobofdeifaaSml
import Derived.Test.YthoehobofdeifaaRInt
import Derived.Test.YthoehobofdeifaaAwk
import Derived.Test.YthoehobofdeifaaScP
namespace Go.Proofs.Ythoehobofdeifaa.circulationLeast
open Go.ChangeShapes Go.WideShapes Go.ChangeAt Go.RowKit
set_option linter.unusedVariables false

theorem own : ownKnob Try.prog.godebug = none := by kernel_rfl
theorem laidOut : laidOutB Try.prog = true := by kernel_rfl
set_option linter.unusedVariables false
set_option linter.unusedSimpArgs false

theorem quo3 {x : Int} (h0 : 0 ≤ x) (h1 : x < 1000) : IntKind.i64.wrap (x.tdiv 3) = x / 3 := by
  rw [Int.tdiv_eq_ediv_of_nonneg h0, IntKind.wrap_i64]; omega
/-- an arc as it is drawn -/
structure DK (V g : Nat) (w3 : World) (b5 : Nat) (r : Ar) (W : World) : Prop where
  blk : W.heap[b5]? = some (.cells #[.int .i64 (r.f : Int), .int .i64 (r.t : Int), .int .i64 r.l, .int .i64 r.u, .int .i64 r.c] 46 (0, 0))
  cod : Cod W g
  gr : w3.grownBy W (some g)
  nb : w3.heap.size ≤ b5
  ok : r.f < V ∧ r.t < V ∧ 0 ≤ r.l ∧ r.l ≤ 1 ∧ r.u = 0 ∧ -3 ≤ r.c ∧ r.c ≤ 3
theorem DK.put {V g : Nat} {w3 W : World} {b5 : Nat} {r : Ar} {z0 z1 z2 z3 z4 : Value} (h : W.heap[b5]? = some (.cells #[z0, z1, z2, z3, z4] 46 (0, 0))) (hc : Cod W g) (hg : w3.grownBy W (some g)) (hn : w3.heap.size ≤ b5) (hne : b5 ≠ g)
    (ok : r.f < V ∧ r.t < V ∧ 0 ≤ r.l ∧ r.l ≤ 1 ∧ r.u = 0 ∧ -3 ≤ r.c ∧ r.c ≤ 3) (hgb : g < b5) :
    DK V g w3 b5 r (((((W.setCell ⟨b5, 0, none⟩ (.int .i64 (r.f : Int))).setCell ⟨b5, 1, none⟩ (.int .i64 (r.t : Int))).setCell ⟨b5, 2, none⟩ (.int .i64 r.l)).setCell ⟨b5, 3, none⟩ (.int .i64 r.u)).setCell ⟨b5, 4, none⟩ (.int .i64 r.c)) := by
  have h0 := heap_setCell_same W b5 0 _ _ (.int .i64 (r.f : Int)) h
  have h1 := heap_setCell_same _ b5 1 _ _ (.int .i64 (r.t : Int)) h0
  have h2 := heap_setCell_same _ b5 2 _ _ (.int .i64 r.l) h1
  have h3 := heap_setCell_same _ b5 3 _ _ (.int .i64 r.u) h2
  have h4 := heap_setCell_same _ b5 4 _ _ (.int .i64 r.c) h3
  have h5 := h4
  simp only [List.setIfInBounds_toArray, List.set_cons_zero, List.set_cons_succ] at h5
  have hgr := grownBy_trans (grownBy_trans (grownBy_trans (grownBy_trans (grownBy_set W b5 0 (.int .i64 (r.f : Int))) (grownBy_set _ b5 1 (.int .i64 (r.t : Int)))) (grownBy_set _ b5 2 (.int .i64 r.l))) (grownBy_set _ b5 3 (.int .i64 r.u))) (grownBy_set _ b5 4 (.int .i64 r.c))
  exact ⟨h5, hc.grown hgr (fun k hk => by injection hk with hk; omega), grownBy_own hg hgr (fun k hk => by injection hk with hk; omega), hn, ok⟩
/-- the network that is drawn -/
structure DU (V g gn : Nat) (w : World) (v : Value) (l : List Ar) (b5 : Nat) (r : Ar) (W : World) : Prop where
  hn : W.heap[gn]? = some (.cells #[.int .i64 (V : Int), v] 25 (0, 0))
  hb : W.heap[b5]? = some (.cells #[.int .i64 (r.f : Int), .int .i64 (r.t : Int), .int .i64 r.l, .int .i64 r.u, .int .i64 r.c] 46 (0, 0))
  own : W.ownsRow w.heap.size 46 5 v l.length (arvs l)
  cod : Cod W g
  gr : w.grownBy W (some g)
  fresh : ∀ k, v.ownBlock = some k → k ≠ b5
section
variable {V g gn : Nat} {w W W' : World} {v : Value} {l : List Ar} {b5 : Nat} {r : Ar}
theorem DU.next (h : DU V g gn w v l b5 r W) (hn : g < w.heap.size ∧ w.heap.size ≤ gn ∧ gn ≠ b5 ∧ w.heap.size ≤ b5) (hc : Cod W' g) (hgr : W.grownBy W' (some g)) : DU V g gn w v l b5 r W' :=
  ⟨(hgr.block gn (heap_lt h.hn) (by simp; omega)).trans h.hn, (hgr.block b5 (heap_lt h.hb) (by simp; omega)).trans h.hb, h.own.kept hgr (own_row_ne h.own hn.1), hc, grownBy_trans h.gr hgr, h.fresh⟩
theorem DU.upper (h : DU V g gn w v l b5 r W) (hn : g < w.heap.size ∧ w.heap.size ≤ gn ∧ gn ≠ b5 ∧ w.heap.size ≤ b5) (q : Int) : DU V g gn w v l b5 ⟨r.f, r.t, r.l, q, r.c⟩ (W.setCell ⟨b5, 3, none⟩ (.int .i64 q)) := by
  obtain ⟨n1, n2, n3, n4⟩ := hn
  have hgr := grownBy_set W b5 3 (.int .i64 q)
  have hb := heap_setCell_same W b5 3 _ _ (.int .i64 q) h.hb
  simp only [List.setIfInBounds_toArray, List.set_cons_zero, List.set_cons_succ] at hb
  exact ⟨(heap_setCell_other W ⟨b5, 3, none⟩ gn _ n3).trans h.hn, hb, h.own.kept hgr (by
      cases hq : v.ownBlock with
      | none => exact .inl rfl
      | some k => exact .inr (fun e => by injection e with e; exact h.fresh k hq e)), h.cod.grown hgr (fun k hk => by injection hk with hk; omega), grownBy_own h.gr hgr (fun k hk => by injection hk with hk; omega), h.fresh⟩
theorem DU.after (h : DU V g gn w v l b5 r W) {o : Obj} {w9 : World} (hgr : (W.alloc o).grownBy w9 v.ownBlock) :
    w9.cell? ⟨gn, 1, none⟩ = some v ∧ w9.frozen? ⟨gn, 1, none⟩ = false ∧ gn < w9.heap.size := by
  have h1 := heap_lt h.hn
  have h2 : w9.heap[gn]? = some (.cells #[.int .i64 (V : Int), v] 25 (0, 0)) := (hgr.block gn (by simp; omega) (fun e => own_type_ne h.own h.hn (by decide) e.symm)).trans ((Below.heap_alloc W o gn h1).trans h.hn)
  exact ⟨cell_of_row _ _ 1 _ _ _ h2, frozen_of_row _ _ 1 _ _ h2, heap_lt h2⟩
theorem DU.fin (h : DU V g gn w v l b5 r W) (hn : g < w.heap.size ∧ w.heap.size ≤ gn ∧ gn ≠ b5 ∧ w.heap.size ≤ b5) {o : Obj} {w9 : World} {v' : Value} {n : Nat} {xs : List Value}
    (hgr : (W.alloc o).grownBy w9 v.ownBlock) (hown : w9.ownsRow w.heap.size 46 5 v' n xs) :
    (w9.setCell ⟨gn, 1, none⟩ v').heap[gn]? = some (.cells #[.int .i64 (V : Int), v'] 25 (0, 0)) ∧
    (w9.setCell ⟨gn, 1, none⟩ v').ownsRow w.heap.size 46 5 v' n xs ∧ Cod (w9.setCell ⟨gn, 1, none⟩ v') g ∧ w.grownBy (w9.setCell ⟨gn, 1, none⟩ v') (some g) := by
  have h1 := heap_lt h.hn
  have h2 : w9.heap[gn]? = some (.cells #[.int .i64 (V : Int), v] 25 (0, 0)) := (hgr.block gn (by simp; omega) (fun e => own_type_ne h.own h.hn (by decide) e.symm)).trans ((Below.heap_alloc W o gn h1).trans h.hn)
  have hset := heap_setCell_same w9 gn 1 _ _ v' h2
  simp only [List.setIfInBounds_toArray, List.set_cons_zero, List.set_cons_succ] at hset
  have hgs := grownBy_set w9 gn 1 v'
  have hc9 : Cod w9 g := (h.cod.alloc o).grown hgr (fun k hk => by have := (h.own.lt k hk).1; omega)
  have hg9 : w.grownBy w9 (some g) := grownBy_own (grownBy_trans h.gr (World.grownBy_alloc W o (some g))) hgr (fun k hk => (h.own.lt k hk).1)
  exact ⟨hset, hown.kept hgs (own_row_is hown h2 (by decide)), hc9.grown hgs (fun k hk => by injection hk with hk; omega), grownBy_own hg9 hgs (fun k hk => by injection hk with hk; omega)⟩
end
/-- what is drawn for the law Least -/
structure Sm3 (V : Nat) (l : List Ar) : Prop where
  V1 : 1 ≤ V
  V2 : V ≤ 4
  m : l.length ≤ 5
  ok : ∀ r ∈ l, r.f < V ∧ r.t < V ∧ 0 ≤ r.l ∧ r.l ≤ r.u ∧ r.u ≤ r.l + 3 ∧ r.l ≤ 1 ∧ -3 ≤ r.c ∧ r.c ≤ 3
theorem Sm3.get {V : Nat} {l : List Ar} (h : Sm3 V l) {i : Nat} (hi : i < l.length) : (l.getD i default).f < V ∧ (l.getD i default).t < V ∧ 0 ≤ (l.getD i default).l ∧ (l.getD i default).l ≤ (l.getD i default).u ∧ (l.getD i default).u ≤ (l.getD i default).l + 3 ∧ (l.getD i default).l ≤ 1 ∧ -3 ≤ (l.getD i default).c ∧ (l.getD i default).c ≤ 3 :=
  h.ok _ (by simp [List.getD, hi])
theorem Sm3.valid {V : Nat} {l : List Ar} (h : Sm3 V l) : (nwOf V l).valid := by
  have hV2 := h.V2
  have hm := h.m
  refine ⟨h.V1, show V ≤ 520 by omega, show l.length ≤ 2400 by omega, fun i hi => ?_, fun i hi => ?_, fun i hi => ?_⟩
  · have := h.get hi; exact ⟨this.1, this.2.1⟩
  · obtain ⟨_, _, a, b, c, d, _⟩ := h.get hi
    exact ⟨a, b, by show (l.getD i default).u ≤ _; omega⟩
  · obtain ⟨_, _, _, _, _, _, a, b⟩ := h.get hi
    exact ⟨by show _ ≤ (l.getD i default).c; omega, by show (l.getD i default).c ≤ _; omega⟩
theorem Sm3.three {V : Nat} {l : List Ar} (h : Sm3 V l) : ∀ i, i < (nwOf V l).m → (nwOf V l).up i ≤ (nwOf V l).lo i + 3 := fun i hi => (h.get hi).2.2.2.2.1
theorem pow4 {n : Nat} (h : n ≤ 5) : (4 : Int) ^ n ≤ 5000 := by
  have h1 : n = 0 ∨ n = 1 ∨ n = 2 ∨ n = 3 ∨ n = 4 ∨ n = 5 := by omega
  rcases h1 with rfl | rfl | rfl | rfl | rfl | rfl <;> decide
/-- where all begins -/
theorem la_start {N : Nw} {wq : World} {gb n : Nat} (hn : n = N.m) (hs : wq.heap.size = gb + 1 + 1 + 1) (hb : wq.heap[gb]? = some (.cells #[.slice none 0 0] 26 (0, 0))) (hc : wq.heap[gb + 1]? = some (.cells #[.int .i64 0] 3 (0, 0))) (hl : wq.heap[gb + 1 + 1]? = some (.cells #[.int .i64 5000] 3 (0, 0)))
    (W : World) (hW : W = (wq.alloc (.cells (vrow n fun _ => .int .i64 0) 3)).drew) : LA N (gb + 1 + 1 + 1) gb (gb + 1) (gb + 1 + 1) W (fun _ => 0) none 0 5000 W := by
  subst hW
  subst hn
  have hz : (wq.alloc (.cells (vrow N.m fun _ => .int .i64 0) 3)).drew.heap.size = wq.heap.size + 1 := by show (wq.heap.push _).size = _; rw [Array.size_push]
  have hold : ∀ k, k < wq.heap.size → (wq.alloc (.cells (vrow N.m fun _ => .int .i64 0) 3)).drew.heap[k]? = wq.heap[k]? := fun k hk => Below.heap_alloc wq _ k hk
  have hnew : (wq.alloc (.cells (vrow N.m fun _ => .int .i64 0) 3)).drew.heap[wq.heap.size]? = some (.cells (vrow N.m fun _ => .int .i64 0) 3 (0, 0)) := heap_alloc_new wq _
  rw [hs] at hnew
  refine ⟨Kp.refl _ _, hnew, ⟨.slice none 0 0, (hold _ (by omega)).trans hb, .inl ⟨rfl, rfl⟩, fun k hk => by cases hk⟩, (hold _ (by omega)).trans hc, (hold _ (by omega)).trans hl, ?_, ?_⟩
  · rw [hz]; omega
  · omega
/-- the outcome of all and the outcome of Solve -/
theorem least_one {N : Nw} (hv : N.valid) {b : Option (Nat → Int)} {c code : Int} {n : Nat} {f f0 : Nat → Int} (hb : Bst N (Unt N 0 f0) b c) (ha : AnsR (rwN N) code n f) :
    (b = none ∧ code = 31 ∧ n = 0) ∨ ∃ x, b = some x ∧ code = 0 ∧ n = N.m ∧ (∀ j, j < n → f j = x j) ∧ (rwN N).costB n f = c := by
  have hg := rwN_good hv
  have hok := hv.ok
  rcases ha with ⟨h, _⟩ | ⟨_, h1, h2, h3⟩ | ⟨_, h1, h2, h3⟩
  · exact absurd hg h
  · rcases hb.all with ⟨h4, _⟩ | ⟨x, _, h5, _⟩
    · exact .inl ⟨h4, h1, h2⟩
    · exact absurd h5.1 (noc_none hok h3 _)
  · have hbest : N.best f := cert_best hok h3
    rcases hb.all with ⟨_, h5⟩ | ⟨x, h4, h5, h6⟩
    · exact absurd hbest.1 (h5 _)
    · have hfx := best_one hbest h5
      have h2' : n = N.m := h2
      subst h2'
      refine .inr ⟨x, h4, h1, rfl, fun j hj => hfx j hj, ?_⟩
      unfold Rw.costB
      rw [if_pos (((rwN N).feas_iff N.m f).2 ⟨hg, rfl, hbest.1⟩), h6]
      exact cost_same (fun j hj => (hfx j hj).symm) |>.symm ▸ rfl
set_option maxRecDepth 100000 in
set_option maxHeartbeats 8000000 in
theorem walk (a0 : Option Addr) (len0 cap0 : Nat) (z0 : List Int) (w : World) (w0 : InInts .u8 w a0 len0 cap0 z0) :
    Calls Try.prog 5 #[.slice a0 len0 cap0] w fun e w' => e = .returned (.bool true) ∧ Below w.heap.size w w' := by
  have HI0 := Lib.hid w0
  clear w0
  obtain ⟨i0, hi0, hz0, hz1, hz2⟩ := info_parts Try.infoArc
  have HI := Lib.hid hi0
  have HZ0 := Lib.hid hz0
  have HZ1 := Lib.hid hz1
  have HZ2 := Lib.hid hz2
  clear hi0 hz0 hz1 hz2
  go_enter Try.func5, Try.ntmps5
  go_wp2_with fail
  refine (awake_any _).mono ?_
  rintro e w1 ⟨rfl, hb1⟩
  have HI1 := Lib.hid (HI0.out.below hb1)
  have HB1 := Lib.hid hb1
  clear hb1
  go_wp2_with fail
  refine (New_any a0 len0 cap0 z0 60 (by omega) (by omega) _ HI1.out).mono ?_
  rintro e w2 ⟨g, rfl, hg, hcod, hb2⟩
  have HB2 := Lib.hid (HB1.out.trans (hb2.mono HB1.out.size))
  have hgw : w.heap.size ≤ g := by have := HB1.out.size; omega
  have hg2 : g < w2.heap.size := hcod.lt
  have HC := Lib.hid hcod
  clear hb2 hcod HI1 HI0
  go_wp2_with fail
  refine (Next_any g 4 (by omega) _ HC.out).mono ?_
  rintro e w4 ⟨x, rfl, x0, x1, hc4, hg4⟩
  obtain ⟨V, hV⟩ : ∃ V : Nat, 1 + x = (V : Int) := ⟨(1 + x).toNat, by omega⟩
  have hV1 : 1 ≤ V := by omega
  have hV4 : V ≤ 4 := by omega
  have hs4 := hg4.size
  have HC4 := Lib.hid hc4
  have HG4 := Lib.hid hg4
  go_upto_region 5 with fail
  clear hV x0 x1 hc4 hg4
  have HGN : Hid ((w4.alloc (.cells #[.int .i64 (V : Int), .slice none 0 0] 25)).heap[w4.heap.size]? = some (.cells #[.int .i64 (V : Int), .slice none 0 0] 25 (0, 0)) ∧ Cod (w4.alloc (.cells #[.int .i64 (V : Int), .slice none 0 0] 25)) g ∧ w2.grownBy (w4.alloc (.cells #[.int .i64 (V : Int), .slice none 0 0] 25)) (some g)) := Lib.hid ⟨heap_alloc_new w4 _, HC4.out.alloc _, grownBy_trans HG4.out (World.grownBy_alloc w4 _ (some g))⟩
  obtain ⟨w5, hw5⟩ : ∃ w5, (w4.alloc (.cells #[.int .i64 (V : Int), .slice none 0 0] 25)) = w5 := ⟨_, rfl⟩
  rw [hw5] at HGN ⊢
  obtain ⟨gn, hgn⟩ : ∃ gn, w4.heap.size = gn := ⟨_, rfl⟩
  rw [hgn] at HGN hs4 ⊢
  clear hw5 hgn HC4 HG4 HC
  clear w4
  go_wp2_with fail
  refine (Next_any g 6 (by omega) _ HGN.out.2.1).mono ?_
  rintro e w6 ⟨k, rfl, k0, k1, hc6, hg6⟩
  obtain ⟨k, rfl⟩ := Int.eq_ofNat_of_zero_le k0
  have hk5 : k ≤ 5 := by omega
  have HGN6 : Hid (w6.heap[gn]? = some (.cells #[.int .i64 (V : Int), .slice none 0 0] 25 (0, 0))) := Lib.hid ((hg6.block gn (heap_lt HGN.out.1) (fun e => by injection e with e; omega)).trans HGN.out.1)
  have HGW6 : Hid (Cod w6 g ∧ w2.grownBy w6 (some g)) := Lib.hid ⟨hc6, grownBy_trans HGN.out.2.2 hg6⟩
  clear k0 k1 hc6 hg6 HGN
  clear w5
  go_wp2_with fail
  go_loopw [5] (fun v5 wr => ∃ (k : Nat) (l : List Ar) (v : Value), v5 = .int .i64 (k : Int) ∧ l.length + k ≤ 5 ∧ Hid (wr.heap[gn]? = some (.cells #[.int .i64 (V : Int), v] 25 (0, 0))) ∧
    Hid (wr.ownsRow w2.heap.size 46 5 v l.length (arvs l)) ∧ Hid (Cod wr g ∧ w2.grownBy wr (some g)) ∧ Hid (∀ r ∈ l, r.f < V ∧ r.t < V ∧ 0 ≤ r.l ∧ r.l ≤ r.u ∧ r.u ≤ r.l + 3 ∧ r.l ≤ 1 ∧ -3 ≤ r.c ∧ r.c ≤ 3)) (fun v _ => (intOf v).toNat)
  case atStart => exact ⟨k, [], _, rfl, by simp; omega, HGN6, Lib.hid (World.ownsRow_nil _ _ _ _), HGW6, Lib.hid (fun r hr => by cases hr)⟩
  case round =>
    obtain ⟨k, l, v, rfl, hlk, HN, HOWN, HC2, HOKS⟩ := hrel
    obtain ⟨w3, rfl⟩ : ∃ w3 : World, w3 = wr := ⟨_, rfl⟩
    by_cases hk : 0 < k
    · have c0 : w3.cell? ⟨gn, 0, none⟩ = some (.int .i64 (V : Int)) := cell_of_row _ _ 0 _ _ _ HN.out
      have hgnl := block_lt_of_cell c0
      have hcod := HC2.out.1
      go_wp2_with fail
      have hngg : gn ≠ g := by omega
      go_cut [6] from 26 to 40 (fun v6 wx => ∃ (b5 : Nat) (r : Ar), v6 = .pointer (some ⟨b5, 0, none⟩) ∧ DK V g w3 b5 r wx)
      case first =>
        have hcod0 : Cod w3.drew g := HC2.out.1
        have hgw0 : w3.grownBy w3.drew (some g) := ⟨rfl, rfl, rfl, Nat.le_refl _, fun _ _ _ => rfl⟩
        refine wp_region_held_drew (S := (fun w' => w'.cell? ⟨gn, 0, none⟩ = some (.int .i64 (V : Int)))) (by kernel_rfl) (hgw0.cell c0 (by simp; omega)) (fun hHeld => ?_)
        refine wpAnyH_take (i := 0) (v := ?_) rfl (by kernel_rfl) (by kernel_rfl) (by kernel_rfl) (fun _ _ _ h => h) (Or.inl ⟨by rfl, ?_⟩) (by assumption) ?_
        rotate_left
        · (intro w hSw; (try dsimp only at hSw); go_simp; try with_reducible rfl)
        (try simp only [Act.put, List.setIfInBounds_toArray, List.set_cons_zero, List.set_cons_succ])
        refine wpAnyH_take (i := 1) (v := ?_) rfl (by kernel_rfl) (by kernel_rfl) (by kernel_rfl) (fun _ _ _ h => h) (Or.inl ⟨by rfl, ?_⟩) (by assumption) ?_
        rotate_left
        · (intro w hSw; (try dsimp only at hSw); go_simp; try with_reducible rfl)
        (try simp only [Act.put, List.setIfInBounds_toArray, List.set_cons_zero, List.set_cons_succ])
        refine wpAnyH_take (i := 2) (v := ?_) rfl (by kernel_rfl) (by kernel_rfl) (by kernel_rfl) (fun _ _ _ h => h) (Or.inl ⟨by rfl, ?_⟩) (by assumption) ?_
        rotate_left
        · (intro w hSw; (try dsimp only at hSw); go_simp; try with_reducible rfl)
        (try simp only [Act.put, List.setIfInBounds_toArray, List.set_cons_zero, List.set_cons_succ])
        refine wpAnyH_take (i := 4) (v := ?_) rfl (by kernel_rfl) (by kernel_rfl) (by kernel_rfl) (fun _ _ _ h => h) (Or.inl ⟨by rfl, ?_⟩) (by assumption) ?_
        rotate_left
        · (intro w hSw; (try dsimp only at hSw); go_simp; try with_reducible rfl)
        (try simp only [Act.put, List.setIfInBounds_toArray, List.set_cons_zero, List.set_cons_succ])
        refine wpAnyH_take (i := 5) (v := ?_) rfl (by kernel_rfl) (by kernel_rfl) (by kernel_rfl) (fun _ _ _ h => h) (Or.inl ⟨by rfl, ?_⟩) (by assumption) ?_
        rotate_left
        · (intro w hSw; (try dsimp only at hSw); go_simp; try with_reducible rfl)
        (try simp only [Act.put, List.setIfInBounds_toArray, List.set_cons_zero, List.set_cons_succ])
        refine wpAnyH_take (i := 6) (v := ?_) rfl (by kernel_rfl) (by kernel_rfl) (by kernel_rfl) (fun _ _ _ h => h) (Or.inl ⟨by rfl, ?_⟩) (by assumption) ?_
        rotate_left
        · (intro w hSw; (try dsimp only at hSw); go_simp; try with_reducible rfl)
        (try simp only [Act.put, List.setIfInBounds_toArray, List.set_cons_zero, List.set_cons_succ])
        refine wpAnyH_take (i := 8) (v := ?_) rfl (by kernel_rfl) (by kernel_rfl) (by kernel_rfl) (fun _ _ _ h => h) (Or.inl ⟨by rfl, ?_⟩) (by assumption) ?_
        rotate_left
        · (intro w hSw; (try dsimp only at hSw); go_simp; try with_reducible rfl)
        (try simp only [Act.put, List.setIfInBounds_toArray, List.set_cons_zero, List.set_cons_succ])
        refine wpAnyH_take (i := 11) (v := ?_) rfl (by kernel_rfl) (by kernel_rfl) (by kernel_rfl) (fun _ _ _ h => h) (Or.inl ⟨by rfl, ?_⟩) (by assumption) ?_
        rotate_left
        · (intro w hSw; (try dsimp only at hSw); go_simp; try with_reducible rfl)
        (try simp only [Act.put, List.setIfInBounds_toArray, List.set_cons_zero, List.set_cons_succ])
        refine wpAnyH_ready (rs := [3, 15]) (by kernel_rfl) (by simp) ?_
        refine AllReadyH.cons rfl (fun K hK => ?_) (AllReadyH.cons rfl (fun K hK => ?_) AllReadyH.nil)
        · go_simp
          refine (Next_any g _ (by omega) _ hcod0).mono ?_
          rintro e wc0 ⟨xa, rfl, xa0, xa1, hcod1, hgc⟩
          have hgw1 : w3.grownBy wc0 (some g) := grownBy_trans hgw0 hgc
          refine hK.out _ _ ((hgw1.cell c0 (by simp; omega))) (fun hHeld => ?_)
          clear hK K hgc
          (try simp only [Act.put, List.setIfInBounds_toArray, List.set_cons_zero, List.set_cons_succ])
          refine wpAnyH_ready (rs := [7, 15]) (by kernel_rfl) (by simp) ?_
          refine AllReadyH.cons rfl (fun K hK => ?_) (AllReadyH.cons rfl (fun K hK => ?_) AllReadyH.nil)
          · go_simp
            refine (Next_any g _ (by omega) _ hcod1).mono ?_
            rintro e wc1 ⟨xb, rfl, xb0, xb1, hcod2, hgc⟩
            have hgw2 : w3.grownBy wc1 (some g) := grownBy_trans hgw1 hgc
            refine hK.out _ _ ((hgw2.cell c0 (by simp; omega))) (fun hHeld => ?_)
            clear hK K hgc
            (try simp only [Act.put, List.setIfInBounds_toArray, List.set_cons_zero, List.set_cons_succ])
            refine wpAnyH_ready (rs := [9, 15]) (by kernel_rfl) (by simp) ?_
            refine AllReadyH.cons rfl (fun K hK => ?_) (AllReadyH.cons rfl (fun K hK => ?_) AllReadyH.nil)
            · go_simp
              refine (Next_any g _ (by omega) _ hcod2).mono ?_
              rintro e wc2 ⟨xc, rfl, xc0, xc1, hcod3, hgc⟩
              have hgw3 : w3.grownBy wc2 (some g) := grownBy_trans hgw2 hgc
              refine hK.out _ _ ((hgw3.cell c0 (by simp; omega))) (fun hHeld => ?_)
              clear hK K hgc
              (try simp only [Act.put, List.setIfInBounds_toArray, List.set_cons_zero, List.set_cons_succ])
              have hq3 := quo3 (x := xc) (by omega) (by omega)
              refine wpAnyH_take (i := 10) (v := .int .i64 (xc / 3)) rfl (by kernel_rfl) (by kernel_rfl) (by kernel_rfl) (fun _ _ _ h => h) (Or.inl ⟨by rfl, fun w hSw => ?_⟩) (by assumption) ?_
              · (try dsimp only at hSw); clear hHeld; go_simp
              clear hq3
              (try simp only [Act.put, List.setIfInBounds_toArray, List.set_cons_zero, List.set_cons_succ])
              refine wpAnyH_ready (rs := [12, 15]) (by kernel_rfl) (by simp) ?_
              refine AllReadyH.cons rfl (fun K hK => ?_) (AllReadyH.cons rfl (fun K hK => ?_) AllReadyH.nil)
              · go_simp
                refine (Next_any g _ (by omega) _ hcod3).mono ?_
                rintro e wc3 ⟨xd, rfl, xd0, xd1, hcod4, hgc⟩
                have hgw4 : w3.grownBy wc3 (some g) := grownBy_trans hgw3 hgc
                refine hK.out _ _ ((hgw4.cell c0 (by simp; omega))) (fun hHeld => ?_)
                clear hK K hgc
                (try simp only [Act.put, List.setIfInBounds_toArray, List.set_cons_zero, List.set_cons_succ])
                refine wpAnyH_take (i := 13) (v := ?_) rfl (by kernel_rfl) (by kernel_rfl) (by kernel_rfl) (fun _ _ _ h => h) (Or.inl ⟨by rfl, ?_⟩) (by assumption) ?_
                rotate_left
                · (intro w hSw; (try dsimp only at hSw); go_simp; try with_reducible rfl)
                (try simp only [Act.put, List.setIfInBounds_toArray, List.set_cons_zero, List.set_cons_succ])
                refine wpAnyH_take (i := 14) (v := ?_) rfl (by kernel_rfl) (by kernel_rfl) (by kernel_rfl) (fun _ _ _ h => h) (Or.inl ⟨by rfl, ?_⟩) (by assumption) ?_
                rotate_left
                · (intro w hSw; (try dsimp only at hSw); go_simp; try with_reducible rfl)
                (try simp only [Act.put, List.setIfInBounds_toArray, List.set_cons_zero, List.set_cons_succ])
                refine wpAnyH_ready (rs := [15]) (by kernel_rfl) (by simp) ?_
                refine AllReadyH.cons rfl (fun K hK => ?_) AllReadyH.nil
                have hbn : w3.heap.size ≤ wc3.heap.size := hgw4.size
                go_simp
                have hcod5 := hcod4.alloc (.cells #[.int .i64 0, .int .i64 0, .int .i64 0, .int .i64 0, .int .i64 0] 46)
                have hgw5 := grownBy_trans hgw4 (World.grownBy_alloc _ (.cells #[.int .i64 0, .int .i64 0, .int .i64 0, .int .i64 0, .int .i64 0] 46) (some g))
                have hbl5 : (wc3.alloc (.cells #[.int .i64 0, .int .i64 0, .int .i64 0, .int .i64 0, .int .i64 0] 46)).heap[wc3.heap.size]? = some (.cells #[.int .i64 0, .int .i64 0, .int .i64 0, .int .i64 0, .int .i64 0] 46 (0, 0)) := heap_alloc_new _ _
                refine hK.out _ _ ((hgw5.cell c0 (by simp; omega))) (fun hHeld => ?_)
                clear hK K
                (try simp only [Act.put, List.setIfInBounds_toArray, List.set_cons_zero, List.set_cons_succ])
                refine wpAnyH_ready (rs := [16]) (by kernel_rfl) (by simp) ?_
                refine AllReadyH.cons rfl (fun K hK => ?_) AllReadyH.nil
                go_simp
                obtain ⟨na, rfl⟩ := Int.eq_ofNat_of_zero_le xa0
                obtain ⟨nb, rfl⟩ := Int.eq_ofNat_of_zero_le xb0
                have hw : IntKind.i64.wrap (xd - 3) = xd - 3 := by rw [IntKind.wrap_i64]; omega
                rw [hw]
                clear hw
                have q1 : na < V := by omega
                have q2 : nb < V := by omega
                have q3 : 0 ≤ xc / 3 ∧ xc / 3 ≤ 1 := by omega
                have q4 : -3 ≤ xd - 3 ∧ xd - 3 ≤ 3 := by omega
                have hDC : DK V g w3 wc3.heap.size ⟨na, nb, xc / 3, 0, xd - 3⟩ (wc3.alloc (.cells #[.int .i64 (na : Int), .int .i64 (nb : Int), .int .i64 (xc / 3), .int .i64 0, .int .i64 (xd - 3)] 46)) := ⟨heap_alloc_new _ _, hcod4.alloc _, grownBy_trans hgw4 (World.grownBy_alloc _ _ _), hbn, ⟨q1, q2, q3.1, q3.2, rfl, q4.1, q4.2⟩⟩
                refine hK.out _ _ (hDC.gr.cell c0 (by simp; omega)) (fun hHeld => ?_)
                clear hK K
                refine wpAnyH_done (by kernel_rfl) ?_ _
                go_wp2_with fail
                go_meet
                exact ⟨_, _, rfl, hDC⟩
              · have hbn : w3.heap.size ≤ wc2.heap.size := hgw3.size
                go_simp
                have hcod4 := hcod3.alloc (.cells #[.int .i64 0, .int .i64 0, .int .i64 0, .int .i64 0, .int .i64 0] 46)
                have hgw4 := grownBy_trans hgw3 (World.grownBy_alloc _ (.cells #[.int .i64 0, .int .i64 0, .int .i64 0, .int .i64 0, .int .i64 0] 46) (some g))
                have hbl4 : (wc2.alloc (.cells #[.int .i64 0, .int .i64 0, .int .i64 0, .int .i64 0, .int .i64 0] 46)).heap[wc2.heap.size]? = some (.cells #[.int .i64 0, .int .i64 0, .int .i64 0, .int .i64 0, .int .i64 0] 46 (0, 0)) := heap_alloc_new _ _
                refine hK.out _ _ ((hgw4.cell c0 (by simp; omega))) (fun hHeld => ?_)
                clear hK K
                (try simp only [Act.put, List.setIfInBounds_toArray, List.set_cons_zero, List.set_cons_succ])
                refine wpAnyH_ready (rs := [12]) (by kernel_rfl) (by simp) ?_
                refine AllReadyH.cons rfl (fun K hK => ?_) AllReadyH.nil
                go_simp
                refine (Next_any g _ (by omega) _ hcod4).mono ?_
                rintro e wc3 ⟨xd, rfl, xd0, xd1, hcod5, hgc⟩
                have hgw5 : w3.grownBy wc3 (some g) := grownBy_trans hgw4 hgc
                have hbl5 := (hgc.block _ (Array.getElem?_eq_some_iff.1 hbl4).1 (by simp; omega)).trans hbl4
                refine hK.out _ _ ((hgw5.cell c0 (by simp; omega))) (fun hHeld => ?_)
                clear hK K hgc
                (try simp only [Act.put, List.setIfInBounds_toArray, List.set_cons_zero, List.set_cons_succ])
                refine wpAnyH_take (i := 13) (v := ?_) rfl (by kernel_rfl) (by kernel_rfl) (by kernel_rfl) (fun _ _ _ h => h) (Or.inl ⟨by rfl, ?_⟩) (by assumption) ?_
                rotate_left
                · (intro w hSw; (try dsimp only at hSw); go_simp; try with_reducible rfl)
                (try simp only [Act.put, List.setIfInBounds_toArray, List.set_cons_zero, List.set_cons_succ])
                refine wpAnyH_take (i := 14) (v := ?_) rfl (by kernel_rfl) (by kernel_rfl) (by kernel_rfl) (fun _ _ _ h => h) (Or.inl ⟨by rfl, ?_⟩) (by assumption) ?_
                rotate_left
                · (intro w hSw; (try dsimp only at hSw); go_simp; try with_reducible rfl)
                (try simp only [Act.put, List.setIfInBounds_toArray, List.set_cons_zero, List.set_cons_succ])
                refine wpAnyH_ready (rs := [16]) (by kernel_rfl) (by simp) ?_
                refine AllReadyH.cons rfl (fun K hK => ?_) AllReadyH.nil
                have s0 := cell_of_row _ _ 0 _ _ _ hbl5
                have s1 := cell_of_row _ _ 1 _ _ _ hbl5
                have s2 := cell_of_row _ _ 2 _ _ _ hbl5
                have s3 := cell_of_row _ _ 3 _ _ _ hbl5
                have s4 := cell_of_row _ _ 4 _ _ _ hbl5
                have t0 := frozen_of_row _ _ 0 _ _ hbl5
                have t1 := frozen_of_row _ _ 1 _ _ hbl5
                have t2 := frozen_of_row _ _ 2 _ _ hbl5
                have t3 := frozen_of_row _ _ 3 _ _ hbl5
                have t4 := frozen_of_row _ _ 4 _ _ hbl5
                go_simp
                obtain ⟨na, rfl⟩ := Int.eq_ofNat_of_zero_le xa0
                obtain ⟨nb, rfl⟩ := Int.eq_ofNat_of_zero_le xb0
                have hw : IntKind.i64.wrap (xd - 3) = xd - 3 := by rw [IntKind.wrap_i64]; omega
                rw [hw]
                clear hw
                have q1 : na < V := by omega
                have q2 : nb < V := by omega
                have q3 : 0 ≤ xc / 3 ∧ xc / 3 ≤ 1 := by omega
                have q4 : -3 ≤ xd - 3 ∧ xd - 3 ≤ 3 := by omega
                have hDC := DK.put (V := V) (r := ⟨na, nb, xc / 3, 0, xd - 3⟩) hbl5 hcod5 hgw5 hbn (by omega) ⟨q1, q2, q3.1, q3.2, rfl, q4.1, q4.2⟩ (by have := hcod5.lt; omega)
                clear s0 s1 s2 s3 s4 t0 t1 t2 t3 t4
                refine hK.out _ _ (hDC.gr.cell c0 (by simp; omega)) (fun hHeld => ?_)
                clear hK K
                refine wpAnyH_done (by kernel_rfl) ?_ _
                go_wp2_with fail
                go_meet
                exact ⟨_, _, rfl, hDC⟩
            · have hbn : w3.heap.size ≤ wc1.heap.size := hgw2.size
              go_simp
              have hcod3 := hcod2.alloc (.cells #[.int .i64 0, .int .i64 0, .int .i64 0, .int .i64 0, .int .i64 0] 46)
              have hgw3 := grownBy_trans hgw2 (World.grownBy_alloc _ (.cells #[.int .i64 0, .int .i64 0, .int .i64 0, .int .i64 0, .int .i64 0] 46) (some g))
              have hbl3 : (wc1.alloc (.cells #[.int .i64 0, .int .i64 0, .int .i64 0, .int .i64 0, .int .i64 0] 46)).heap[wc1.heap.size]? = some (.cells #[.int .i64 0, .int .i64 0, .int .i64 0, .int .i64 0, .int .i64 0] 46 (0, 0)) := heap_alloc_new _ _
              refine hK.out _ _ ((hgw3.cell c0 (by simp; omega))) (fun hHeld => ?_)
              clear hK K
              (try simp only [Act.put, List.setIfInBounds_toArray, List.set_cons_zero, List.set_cons_succ])
              refine wpAnyH_ready (rs := [9]) (by kernel_rfl) (by simp) ?_
              refine AllReadyH.cons rfl (fun K hK => ?_) AllReadyH.nil
              go_simp
              refine (Next_any g _ (by omega) _ hcod3).mono ?_
              rintro e wc2 ⟨xc, rfl, xc0, xc1, hcod4, hgc⟩
              have hgw4 : w3.grownBy wc2 (some g) := grownBy_trans hgw3 hgc
              have hbl4 := (hgc.block _ (Array.getElem?_eq_some_iff.1 hbl3).1 (by simp; omega)).trans hbl3
              refine hK.out _ _ ((hgw4.cell c0 (by simp; omega))) (fun hHeld => ?_)
              clear hK K hgc
              (try simp only [Act.put, List.setIfInBounds_toArray, List.set_cons_zero, List.set_cons_succ])
              have hq3 := quo3 (x := xc) (by omega) (by omega)
              refine wpAnyH_take (i := 10) (v := .int .i64 (xc / 3)) rfl (by kernel_rfl) (by kernel_rfl) (by kernel_rfl) (fun _ _ _ h => h) (Or.inl ⟨by rfl, fun w hSw => ?_⟩) (by assumption) ?_
              · (try dsimp only at hSw); clear hHeld; go_simp
              clear hq3
              (try simp only [Act.put, List.setIfInBounds_toArray, List.set_cons_zero, List.set_cons_succ])
              refine wpAnyH_ready (rs := [12]) (by kernel_rfl) (by simp) ?_
              refine AllReadyH.cons rfl (fun K hK => ?_) AllReadyH.nil
              go_simp
              refine (Next_any g _ (by omega) _ hcod4).mono ?_
              rintro e wc3 ⟨xd, rfl, xd0, xd1, hcod5, hgc⟩
              have hgw5 : w3.grownBy wc3 (some g) := grownBy_trans hgw4 hgc
              have hbl5 := (hgc.block _ (Array.getElem?_eq_some_iff.1 hbl4).1 (by simp; omega)).trans hbl4
              refine hK.out _ _ ((hgw5.cell c0 (by simp; omega))) (fun hHeld => ?_)
              clear hK K hgc
              (try simp only [Act.put, List.setIfInBounds_toArray, List.set_cons_zero, List.set_cons_succ])
              refine wpAnyH_take (i := 13) (v := ?_) rfl (by kernel_rfl) (by kernel_rfl) (by kernel_rfl) (fun _ _ _ h => h) (Or.inl ⟨by rfl, ?_⟩) (by assumption) ?_
              rotate_left
              · (intro w hSw; (try dsimp only at hSw); go_simp; try with_reducible rfl)
              (try simp only [Act.put, List.setIfInBounds_toArray, List.set_cons_zero, List.set_cons_succ])
              refine wpAnyH_take (i := 14) (v := ?_) rfl (by kernel_rfl) (by kernel_rfl) (by kernel_rfl) (fun _ _ _ h => h) (Or.inl ⟨by rfl, ?_⟩) (by assumption) ?_
              rotate_left
              · (intro w hSw; (try dsimp only at hSw); go_simp; try with_reducible rfl)
              (try simp only [Act.put, List.setIfInBounds_toArray, List.set_cons_zero, List.set_cons_succ])
              refine wpAnyH_ready (rs := [16]) (by kernel_rfl) (by simp) ?_
              refine AllReadyH.cons rfl (fun K hK => ?_) AllReadyH.nil
              have s0 := cell_of_row _ _ 0 _ _ _ hbl5
              have s1 := cell_of_row _ _ 1 _ _ _ hbl5
              have s2 := cell_of_row _ _ 2 _ _ _ hbl5
              have s3 := cell_of_row _ _ 3 _ _ _ hbl5
              have s4 := cell_of_row _ _ 4 _ _ _ hbl5
              have t0 := frozen_of_row _ _ 0 _ _ hbl5
              have t1 := frozen_of_row _ _ 1 _ _ hbl5
              have t2 := frozen_of_row _ _ 2 _ _ hbl5
              have t3 := frozen_of_row _ _ 3 _ _ hbl5
              have t4 := frozen_of_row _ _ 4 _ _ hbl5
              go_simp
              obtain ⟨na, rfl⟩ := Int.eq_ofNat_of_zero_le xa0
              obtain ⟨nb, rfl⟩ := Int.eq_ofNat_of_zero_le xb0
              have hw : IntKind.i64.wrap (xd - 3) = xd - 3 := by rw [IntKind.wrap_i64]; omega
              rw [hw]
              clear hw
              have q1 : na < V := by omega
              have q2 : nb < V := by omega
              have q3 : 0 ≤ xc / 3 ∧ xc / 3 ≤ 1 := by omega
              have q4 : -3 ≤ xd - 3 ∧ xd - 3 ≤ 3 := by omega
              have hDC := DK.put (V := V) (r := ⟨na, nb, xc / 3, 0, xd - 3⟩) hbl5 hcod5 hgw5 hbn (by omega) ⟨q1, q2, q3.1, q3.2, rfl, q4.1, q4.2⟩ (by have := hcod5.lt; omega)
              clear s0 s1 s2 s3 s4 t0 t1 t2 t3 t4
              refine hK.out _ _ (hDC.gr.cell c0 (by simp; omega)) (fun hHeld => ?_)
              clear hK K
              refine wpAnyH_done (by kernel_rfl) ?_ _
              go_wp2_with fail
              go_meet
              exact ⟨_, _, rfl, hDC⟩
          · have hbn : w3.heap.size ≤ wc0.heap.size := hgw1.size
            go_simp
            have hcod2 := hcod1.alloc (.cells #[.int .i64 0, .int .i64 0, .int .i64 0, .int .i64 0, .int .i64 0] 46)
            have hgw2 := grownBy_trans hgw1 (World.grownBy_alloc _ (.cells #[.int .i64 0, .int .i64 0, .int .i64 0, .int .i64 0, .int .i64 0] 46) (some g))
            have hbl2 : (wc0.alloc (.cells #[.int .i64 0, .int .i64 0, .int .i64 0, .int .i64 0, .int .i64 0] 46)).heap[wc0.heap.size]? = some (.cells #[.int .i64 0, .int .i64 0, .int .i64 0, .int .i64 0, .int .i64 0] 46 (0, 0)) := heap_alloc_new _ _
            refine hK.out _ _ ((hgw2.cell c0 (by simp; omega))) (fun hHeld => ?_)
            clear hK K
            (try simp only [Act.put, List.setIfInBounds_toArray, List.set_cons_zero, List.set_cons_succ])
            refine wpAnyH_ready (rs := [7]) (by kernel_rfl) (by simp) ?_
            refine AllReadyH.cons rfl (fun K hK => ?_) AllReadyH.nil
            go_simp
            refine (Next_any g _ (by omega) _ hcod2).mono ?_
            rintro e wc1 ⟨xb, rfl, xb0, xb1, hcod3, hgc⟩
            have hgw3 : w3.grownBy wc1 (some g) := grownBy_trans hgw2 hgc
            have hbl3 := (hgc.block _ (Array.getElem?_eq_some_iff.1 hbl2).1 (by simp; omega)).trans hbl2
            refine hK.out _ _ ((hgw3.cell c0 (by simp; omega))) (fun hHeld => ?_)
            clear hK K hgc
            (try simp only [Act.put, List.setIfInBounds_toArray, List.set_cons_zero, List.set_cons_succ])
            refine wpAnyH_ready (rs := [9]) (by kernel_rfl) (by simp) ?_
            refine AllReadyH.cons rfl (fun K hK => ?_) AllReadyH.nil
            go_simp
            refine (Next_any g _ (by omega) _ hcod3).mono ?_
            rintro e wc2 ⟨xc, rfl, xc0, xc1, hcod4, hgc⟩
            have hgw4 : w3.grownBy wc2 (some g) := grownBy_trans hgw3 hgc
            have hbl4 := (hgc.block _ (Array.getElem?_eq_some_iff.1 hbl3).1 (by simp; omega)).trans hbl3
            refine hK.out _ _ ((hgw4.cell c0 (by simp; omega))) (fun hHeld => ?_)
            clear hK K hgc
            (try simp only [Act.put, List.setIfInBounds_toArray, List.set_cons_zero, List.set_cons_succ])
            have hq3 := quo3 (x := xc) (by omega) (by omega)
            refine wpAnyH_take (i := 10) (v := .int .i64 (xc / 3)) rfl (by kernel_rfl) (by kernel_rfl) (by kernel_rfl) (fun _ _ _ h => h) (Or.inl ⟨by rfl, fun w hSw => ?_⟩) (by assumption) ?_
            · (try dsimp only at hSw); clear hHeld; go_simp
            clear hq3
            (try simp only [Act.put, List.setIfInBounds_toArray, List.set_cons_zero, List.set_cons_succ])
            refine wpAnyH_ready (rs := [12]) (by kernel_rfl) (by simp) ?_
            refine AllReadyH.cons rfl (fun K hK => ?_) AllReadyH.nil
            go_simp
            refine (Next_any g _ (by omega) _ hcod4).mono ?_
            rintro e wc3 ⟨xd, rfl, xd0, xd1, hcod5, hgc⟩
            have hgw5 : w3.grownBy wc3 (some g) := grownBy_trans hgw4 hgc
            have hbl5 := (hgc.block _ (Array.getElem?_eq_some_iff.1 hbl4).1 (by simp; omega)).trans hbl4
            refine hK.out _ _ ((hgw5.cell c0 (by simp; omega))) (fun hHeld => ?_)
            clear hK K hgc
            (try simp only [Act.put, List.setIfInBounds_toArray, List.set_cons_zero, List.set_cons_succ])
            refine wpAnyH_take (i := 13) (v := ?_) rfl (by kernel_rfl) (by kernel_rfl) (by kernel_rfl) (fun _ _ _ h => h) (Or.inl ⟨by rfl, ?_⟩) (by assumption) ?_
            rotate_left
            · (intro w hSw; (try dsimp only at hSw); go_simp; try with_reducible rfl)
            (try simp only [Act.put, List.setIfInBounds_toArray, List.set_cons_zero, List.set_cons_succ])
            refine wpAnyH_take (i := 14) (v := ?_) rfl (by kernel_rfl) (by kernel_rfl) (by kernel_rfl) (fun _ _ _ h => h) (Or.inl ⟨by rfl, ?_⟩) (by assumption) ?_
            rotate_left
            · (intro w hSw; (try dsimp only at hSw); go_simp; try with_reducible rfl)
            (try simp only [Act.put, List.setIfInBounds_toArray, List.set_cons_zero, List.set_cons_succ])
            refine wpAnyH_ready (rs := [16]) (by kernel_rfl) (by simp) ?_
            refine AllReadyH.cons rfl (fun K hK => ?_) AllReadyH.nil
            have s0 := cell_of_row _ _ 0 _ _ _ hbl5
            have s1 := cell_of_row _ _ 1 _ _ _ hbl5
            have s2 := cell_of_row _ _ 2 _ _ _ hbl5
            have s3 := cell_of_row _ _ 3 _ _ _ hbl5
            have s4 := cell_of_row _ _ 4 _ _ _ hbl5
            have t0 := frozen_of_row _ _ 0 _ _ hbl5
            have t1 := frozen_of_row _ _ 1 _ _ hbl5
            have t2 := frozen_of_row _ _ 2 _ _ hbl5
            have t3 := frozen_of_row _ _ 3 _ _ hbl5
            have t4 := frozen_of_row _ _ 4 _ _ hbl5
            go_simp
            obtain ⟨na, rfl⟩ := Int.eq_ofNat_of_zero_le xa0
            obtain ⟨nb, rfl⟩ := Int.eq_ofNat_of_zero_le xb0
            have hw : IntKind.i64.wrap (xd - 3) = xd - 3 := by rw [IntKind.wrap_i64]; omega
            rw [hw]
            clear hw
            have q1 : na < V := by omega
            have q2 : nb < V := by omega
            have q3 : 0 ≤ xc / 3 ∧ xc / 3 ≤ 1 := by omega
            have q4 : -3 ≤ xd - 3 ∧ xd - 3 ≤ 3 := by omega
            have hDC := DK.put (V := V) (r := ⟨na, nb, xc / 3, 0, xd - 3⟩) hbl5 hcod5 hgw5 hbn (by omega) ⟨q1, q2, q3.1, q3.2, rfl, q4.1, q4.2⟩ (by have := hcod5.lt; omega)
            clear s0 s1 s2 s3 s4 t0 t1 t2 t3 t4
            refine hK.out _ _ (hDC.gr.cell c0 (by simp; omega)) (fun hHeld => ?_)
            clear hK K
            refine wpAnyH_done (by kernel_rfl) ?_ _
            go_wp2_with fail
            go_meet
            exact ⟨_, _, rfl, hDC⟩
        · have hbn : w3.heap.size ≤ w3.heap.size := Nat.le_refl _
          go_simp
          have hcod1 := hcod0.alloc (.cells #[.int .i64 0, .int .i64 0, .int .i64 0, .int .i64 0, .int .i64 0] 46)
          have hgw1 := grownBy_trans hgw0 (World.grownBy_alloc _ (.cells #[.int .i64 0, .int .i64 0, .int .i64 0, .int .i64 0, .int .i64 0] 46) (some g))
          have hbl1 : (w3.alloc (.cells #[.int .i64 0, .int .i64 0, .int .i64 0, .int .i64 0, .int .i64 0] 46)).heap[w3.heap.size]? = some (.cells #[.int .i64 0, .int .i64 0, .int .i64 0, .int .i64 0, .int .i64 0] 46 (0, 0)) := heap_alloc_new _ _
          refine hK.out _ _ ((hgw1.cell c0 (by simp; omega))) (fun hHeld => ?_)
          clear hK K
          (try simp only [Act.put, List.setIfInBounds_toArray, List.set_cons_zero, List.set_cons_succ])
          refine wpAnyH_ready (rs := [3]) (by kernel_rfl) (by simp) ?_
          refine AllReadyH.cons rfl (fun K hK => ?_) AllReadyH.nil
          go_simp
          refine (Next_any g _ (by omega) _ hcod1).mono ?_
          rintro e wc0 ⟨xa, rfl, xa0, xa1, hcod2, hgc⟩
          have hgw2 : w3.grownBy wc0 (some g) := grownBy_trans hgw1 hgc
          have hbl2 := (hgc.block _ (Array.getElem?_eq_some_iff.1 hbl1).1 (by simp; omega)).trans hbl1
          refine hK.out _ _ ((hgw2.cell c0 (by simp; omega))) (fun hHeld => ?_)
          clear hK K hgc
          (try simp only [Act.put, List.setIfInBounds_toArray, List.set_cons_zero, List.set_cons_succ])
          refine wpAnyH_ready (rs := [7]) (by kernel_rfl) (by simp) ?_
          refine AllReadyH.cons rfl (fun K hK => ?_) AllReadyH.nil
          go_simp
          refine (Next_any g _ (by omega) _ hcod2).mono ?_
          rintro e wc1 ⟨xb, rfl, xb0, xb1, hcod3, hgc⟩
          have hgw3 : w3.grownBy wc1 (some g) := grownBy_trans hgw2 hgc
          have hbl3 := (hgc.block _ (Array.getElem?_eq_some_iff.1 hbl2).1 (by simp; omega)).trans hbl2
          refine hK.out _ _ ((hgw3.cell c0 (by simp; omega))) (fun hHeld => ?_)
          clear hK K hgc
          (try simp only [Act.put, List.setIfInBounds_toArray, List.set_cons_zero, List.set_cons_succ])
          refine wpAnyH_ready (rs := [9]) (by kernel_rfl) (by simp) ?_
          refine AllReadyH.cons rfl (fun K hK => ?_) AllReadyH.nil
          go_simp
          refine (Next_any g _ (by omega) _ hcod3).mono ?_
          rintro e wc2 ⟨xc, rfl, xc0, xc1, hcod4, hgc⟩
          have hgw4 : w3.grownBy wc2 (some g) := grownBy_trans hgw3 hgc
          have hbl4 := (hgc.block _ (Array.getElem?_eq_some_iff.1 hbl3).1 (by simp; omega)).trans hbl3
          refine hK.out _ _ ((hgw4.cell c0 (by simp; omega))) (fun hHeld => ?_)
          clear hK K hgc
          (try simp only [Act.put, List.setIfInBounds_toArray, List.set_cons_zero, List.set_cons_succ])
          have hq3 := quo3 (x := xc) (by omega) (by omega)
          refine wpAnyH_take (i := 10) (v := .int .i64 (xc / 3)) rfl (by kernel_rfl) (by kernel_rfl) (by kernel_rfl) (fun _ _ _ h => h) (Or.inl ⟨by rfl, fun w hSw => ?_⟩) (by assumption) ?_
          · (try dsimp only at hSw); clear hHeld; go_simp
          clear hq3
          (try simp only [Act.put, List.setIfInBounds_toArray, List.set_cons_zero, List.set_cons_succ])
          refine wpAnyH_ready (rs := [12]) (by kernel_rfl) (by simp) ?_
          refine AllReadyH.cons rfl (fun K hK => ?_) AllReadyH.nil
          go_simp
          refine (Next_any g _ (by omega) _ hcod4).mono ?_
          rintro e wc3 ⟨xd, rfl, xd0, xd1, hcod5, hgc⟩
          have hgw5 : w3.grownBy wc3 (some g) := grownBy_trans hgw4 hgc
          have hbl5 := (hgc.block _ (Array.getElem?_eq_some_iff.1 hbl4).1 (by simp; omega)).trans hbl4
          refine hK.out _ _ ((hgw5.cell c0 (by simp; omega))) (fun hHeld => ?_)
          clear hK K hgc
          (try simp only [Act.put, List.setIfInBounds_toArray, List.set_cons_zero, List.set_cons_succ])
          refine wpAnyH_take (i := 13) (v := ?_) rfl (by kernel_rfl) (by kernel_rfl) (by kernel_rfl) (fun _ _ _ h => h) (Or.inl ⟨by rfl, ?_⟩) (by assumption) ?_
          rotate_left
          · (intro w hSw; (try dsimp only at hSw); go_simp; try with_reducible rfl)
          (try simp only [Act.put, List.setIfInBounds_toArray, List.set_cons_zero, List.set_cons_succ])
          refine wpAnyH_take (i := 14) (v := ?_) rfl (by kernel_rfl) (by kernel_rfl) (by kernel_rfl) (fun _ _ _ h => h) (Or.inl ⟨by rfl, ?_⟩) (by assumption) ?_
          rotate_left
          · (intro w hSw; (try dsimp only at hSw); go_simp; try with_reducible rfl)
          (try simp only [Act.put, List.setIfInBounds_toArray, List.set_cons_zero, List.set_cons_succ])
          refine wpAnyH_ready (rs := [16]) (by kernel_rfl) (by simp) ?_
          refine AllReadyH.cons rfl (fun K hK => ?_) AllReadyH.nil
          have s0 := cell_of_row _ _ 0 _ _ _ hbl5
          have s1 := cell_of_row _ _ 1 _ _ _ hbl5
          have s2 := cell_of_row _ _ 2 _ _ _ hbl5
          have s3 := cell_of_row _ _ 3 _ _ _ hbl5
          have s4 := cell_of_row _ _ 4 _ _ _ hbl5
          have t0 := frozen_of_row _ _ 0 _ _ hbl5
          have t1 := frozen_of_row _ _ 1 _ _ hbl5
          have t2 := frozen_of_row _ _ 2 _ _ hbl5
          have t3 := frozen_of_row _ _ 3 _ _ hbl5
          have t4 := frozen_of_row _ _ 4 _ _ hbl5
          go_simp
          obtain ⟨na, rfl⟩ := Int.eq_ofNat_of_zero_le xa0
          obtain ⟨nb, rfl⟩ := Int.eq_ofNat_of_zero_le xb0
          have hw : IntKind.i64.wrap (xd - 3) = xd - 3 := by rw [IntKind.wrap_i64]; omega
          rw [hw]
          clear hw
          have q1 : na < V := by omega
          have q2 : nb < V := by omega
          have q3 : 0 ≤ xc / 3 ∧ xc / 3 ≤ 1 := by omega
          have q4 : -3 ≤ xd - 3 ∧ xd - 3 ≤ 3 := by omega
          have hDC := DK.put (V := V) (r := ⟨na, nb, xc / 3, 0, xd - 3⟩) hbl5 hcod5 hgw5 hbn (by omega) ⟨q1, q2, q3.1, q3.2, rfl, q4.1, q4.2⟩ (by have := hcod5.lt; omega)
          clear s0 s1 s2 s3 s4 t0 t1 t2 t3 t4
          refine hK.out _ _ (hDC.gr.cell c0 (by simp; omega)) (fun hHeld => ?_)
          clear hK K
          refine wpAnyH_done (by kernel_rfl) ?_ _
          go_wp2_with fail
          go_meet
          exact ⟨_, _, rfl, hDC⟩
      case rest =>
        obtain ⟨b5, r, rfl, hDC⟩ := hcut
        have hT4 : DU V g gn w2 v l b5 r wc := ⟨(hDC.gr.block gn hgnl (by simp; omega)).trans HN.out, hDC.blk, HOWN.out.kept hDC.gr (own_row_ne HOWN.out hg2), hDC.cod, grownBy_trans HC2.out.2 hDC.gr, fun q hq e => by have := (HOWN.out.lt q hq).2; have := hDC.nb; omega⟩
        have hgn : g < w2.heap.size ∧ w2.heap.size ≤ gn ∧ gn ≠ b5 ∧ w2.heap.size ≤ b5 := by have := hDC.nb; have := HC2.out.2.size; omega
        have HT4 := Lib.hid hT4
        have hok4 := hDC.ok
        have hb2 := cell_of_row _ _ 2 _ _ _ hT4.hb
        have hbl2 := block_lt_of_cell hb2
        clear hDC hcod c0 hT4
        go_wp2_with fail
        refine wp_region_held_drew (S := (fun w' => w'.cell? ⟨b5, 2, none⟩ = some (.int .i64 r.l))) (by kernel_rfl) hb2 (fun hHeld => ?_)
        refine wpAnyH_take (i := 0) (v := ?_) rfl (by kernel_rfl) (by kernel_rfl) (by kernel_rfl) (fun _ _ _ h => h) (Or.inl ⟨by rfl, ?_⟩) (by assumption) ?_
        rotate_left
        · (intro w hSw; (try dsimp only at hSw); go_simp; try with_reducible rfl)
        (try simp only [Act.put, List.setIfInBounds_toArray, List.set_cons_zero, List.set_cons_succ])
        refine wpAnyH_take (i := 1) (v := ?_) rfl (by kernel_rfl) (by kernel_rfl) (by kernel_rfl) (fun _ _ _ h => h) (Or.inl ⟨by rfl, ?_⟩) (by assumption) ?_
        rotate_left
        · (intro w hSw; (try dsimp only at hSw); go_simp; try with_reducible rfl)
        (try simp only [Act.put, List.setIfInBounds_toArray, List.set_cons_zero, List.set_cons_succ])
        refine wpAnyH_take (i := 2) (v := ?_) rfl (by kernel_rfl) (by kernel_rfl) (by kernel_rfl) (fun _ _ _ h => h) (Or.inl ⟨by rfl, ?_⟩) (by assumption) ?_
        rotate_left
        · (intro w hSw; (try dsimp only at hSw); go_simp; try with_reducible rfl)
        (try simp only [Act.put, List.setIfInBounds_toArray, List.set_cons_zero, List.set_cons_succ])
        refine wpAnyH_ready (rs := [3]) (by kernel_rfl) (by simp) ?_
        refine AllReadyH.cons rfl (fun K hK => ?_) AllReadyH.nil
        go_simp
        refine (Next_any g _ (by omega) _ (HT4.out.next (W' := wc.drew) hgn HT4.out.cod ⟨rfl, rfl, rfl, Nat.le_refl _, fun _ _ _ => rfl⟩).cod).mono ?_
        rintro e w5 ⟨y, rfl, y0, y1, hc5, hg5⟩
        have HT5 := Lib.hid ((HT4.out.next (W' := wc.drew) hgn HT4.out.cod ⟨rfl, rfl, rfl, Nat.le_refl _, fun _ _ _ => rfl⟩).next hgn hc5 hg5)
        refine hK.out _ _ (cell_of_row _ _ 2 _ _ _ HT5.out.hb) (fun hHeld => ?_)
        clear hK K hg5 hc5
        (try simp only [Act.put, List.setIfInBounds_toArray, List.set_cons_zero, List.set_cons_succ])
        refine wpAnyH_take (i := 4) (v := ?_) rfl (by kernel_rfl) (by kernel_rfl) (by kernel_rfl) (fun _ _ _ h => h) (Or.inl ⟨by rfl, ?_⟩) (by assumption) ?_
        rotate_left
        · (intro w hSw; (try dsimp only at hSw); go_simp; try with_reducible rfl)
        (try simp only [Act.put, List.setIfInBounds_toArray, List.set_cons_zero, List.set_cons_succ])
        refine wpAnyH_take (i := 5) (v := ?_) rfl (by kernel_rfl) (by kernel_rfl) (by kernel_rfl) (fun _ _ _ h => h) (Or.inl ⟨by rfl, ?_⟩) (by assumption) ?_
        rotate_left
        · (intro w hSw; (try dsimp only at hSw); go_simp; try with_reducible rfl)
        (try simp only [Act.put, List.setIfInBounds_toArray, List.set_cons_zero, List.set_cons_succ])
        have u2 := cell_of_row _ _ 3 _ _ _ HT5.out.hb
        have u2f := frozen_of_row _ _ 3 _ _ HT5.out.hb
        have hb6l := block_lt_of_cell u2
        have hw9 : IntKind.i64.wrap (r.l + y) = r.l + y := by rw [IntKind.wrap_i64]; omega
        refine wpAnyH_ready (rs := [6]) (by kernel_rfl) (by simp) ?_
        refine AllReadyH.cons rfl (fun K hK => ?_) AllReadyH.nil
        go_simp
        have HT7 := Lib.hid (HT5.out.upper hgn (r.l + y))
        refine hK.out _ _ (cell_of_row _ _ 2 _ _ _ HT7.out.hb) (fun hHeld => ?_)
        clear hK K
        (try simp only [Act.put, List.setIfInBounds_toArray, List.set_cons_zero, List.set_cons_succ])
        refine wpAnyH_done (by kernel_rfl) ?_ _
        (try simp only [Act.put, List.setIfInBounds_toArray, List.set_cons_zero, List.set_cons_succ])
        obtain ⟨w7, hw7⟩ : ∃ w7, (w5.setCell ⟨b5, 3, none⟩ (.int .i64 (r.l + y))) = w7 := ⟨_, rfl⟩
        rw [hw7] at HT7 ⊢
        have HOK : Hid (r.f < V ∧ r.t < V ∧ 0 ≤ r.l ∧ r.l ≤ r.l + y ∧ r.l + y ≤ r.l + 3 ∧ r.l ≤ 1 ∧ -3 ≤ r.c ∧ r.c ≤ 3) := Lib.hid (by omega)
        clear hHeld
        clear u2 u2f hb6l hw9 HT5 HT4 hb2 hbl2
        have HT := HT7
        have c1 := cell_of_row _ _ 1 _ _ _ (HT.out).hn
        have f1 := frozen_of_row _ _ 1 _ _ (HT.out).hn
        have e0 := cell_of_row _ _ 0 _ _ _ (HT.out).hb
        have e1 := cell_of_row _ _ 1 _ _ _ (HT.out).hb
        have e2 := cell_of_row _ _ 2 _ _ _ (HT.out).hb
        have e3 := cell_of_row _ _ 3 _ _ _ (HT.out).hb
        have e4 := cell_of_row _ _ 4 _ _ _ (HT.out).hb
        have hgl := block_lt_of_cell c1
        have hbl := block_lt_of_cell e0
        have hwl := HT.out.gr.size
        have HOA := Lib.hid (HT.out.own.alloc (.cells (arv ⟨r.f, r.t, r.l, r.l + y, r.c⟩).toArray 46))
        go_wp2_with (at_builtin; refine wpList_append_own _ rfl _ _ _ rfl w2.heap.size 46 i0 _ 5 40 Try.underlying23 HI.out HZ0.out HZ1.out HZ2.out rfl (by omega) _ _ _ rfl HOA.out ⟨w7.heap.size, 0, none⟩ 1 1 (arv ⟨r.f, r.t, r.l, r.l + y, r.c⟩) rfl rfl (World.news_of_block (cs := (arv ⟨r.f, r.t, r.l, r.l + y, r.c⟩).toArray) (t := 46) (fr := (0, 0)) (heap_alloc_new w7 _)) (by simp [Value.oneCell']) (by unfold maxLen; omega) (by omega) (by simp; omega) ?_; intro v' w9 hown9 hgrow9 _; have hdt := HT.out.after hgrow9; obtain ⟨hx1, hx2, hx3⟩ := hdt; obtain ⟨va, vc, hva, hvb⟩ := Cells.of_own hown9; subst hva; clear hvb)
        have hT9 := HT.out.fin hgn hgrow9 hown9
        have hkk : (k : Int) - 1 = ((k - 1 : Nat) : Int) := by omega
        exact ⟨⟨k - 1, l ++ [⟨r.f, r.t, r.l, r.l + y, r.c⟩], _, by rw [hkk], by simp; omega, Lib.hid hT9.1, Lib.hid (by rw [List.length_append, arvs_append]; exact hT9.2.1), Lib.hid ⟨hT9.2.2.1, hT9.2.2.2⟩, Lib.hid (fun r' hr' => by
          rw [List.mem_append] at hr'
          rcases hr' with hr' | hr'
          · exact HOKS.out r' hr'
          · rw [List.mem_singleton.1 hr']; exact HOK.out)⟩, by simp [intOf]; omega⟩
    · have hk0 : k = 0 := by omega
      subst hk0
      have hsm : Sm3 V l := ⟨hV1, hV4, by omega, HOKS.out⟩
      have HSM := Lib.hid hsm
      obtain ⟨av, cv, rfl, hlc, hcm, hArc, hblk⟩ := Arcs.of_own (V := V) HOWN.out
      have HARC : Hid (Arcs w3 av (nwOf V l)) := Lib.hid hArc
      have hblk2 : ∀ x, av = some x → w2.heap.size ≤ x.block := hblk
      have HBLK := Lib.hid hblk2
      have HB3 := Lib.hid (below_grown1 HB2.out HC2.out.2 HB2.out.size hgw)
      have c0 := cell_of_row _ _ 0 _ _ _ HN.out
      have c1 := cell_of_row _ _ 1 _ _ _ HN.out
      have cl := heap_lt HN.out
      have mk1 := make_ints l.length (by omega)
      clear hk hsm hArc hblk hblk2 HOKS
      have HQ : Hid (∀ W, W = (((w3.alloc (.cells #[.slice none 0 0] 26)).alloc (.cells #[.int .i64 0] 3)).alloc (.cells #[.int .i64 5000] 3)) → Below w3.heap.size w3 W ∧ W.heap.size = w3.heap.size + 1 + 1 + 1 ∧ W.heap[w3.heap.size]? = some (.cells #[.slice none 0 0] 26 (0, 0)) ∧ W.heap[w3.heap.size + 1]? = some (.cells #[.int .i64 0] 3 (0, 0)) ∧ W.heap[w3.heap.size + 1 + 1]? = some (.cells #[.int .i64 5000] 3 (0, 0))) := Lib.hid (fun W hW => by
        subst hW
        refine ⟨(((Below.refl _ _).alloc (Nat.le_refl _) _).alloc (by simp) _).alloc (by simp; omega) _, by simp, ?_, ?_, ?_⟩
        · rw [Below.heap_alloc _ _ _ (by simp; omega), Below.heap_alloc _ _ _ (by simp)]; exact heap_alloc_new w3 _
        · rw [Below.heap_alloc _ _ _ (by simp)]; have := heap_alloc_new (w3.alloc (.cells #[.slice none 0 0] 26)) (.cells #[.int .i64 0] 3); simpa using this
        · have := heap_alloc_new ((w3.alloc (.cells #[.slice none 0 0] 26)).alloc (.cells #[.int .i64 0] 3)) (.cells #[.int .i64 5000] 3); simpa using this)
      go_upto_region 13 with fail
      obtain ⟨wq, hwq⟩ : ∃ wq, wq = (((w3.alloc (.cells #[.slice none 0 0] 26)).alloc (.cells #[.int .i64 0] 3)).alloc (.cells #[.int .i64 5000] 3)) := ⟨_, rfl⟩
      rw [← hwq]
      obtain ⟨hbq, hqs, hq0, hq1, hq2⟩ := HQ.out wq hwq
      have HBQ := Lib.hid (HB3.out.trans (hbq.mono HB3.out.size))
      have HAQ := Lib.hid (HARC.out.below hbq)
      have hfar : 0 < (nwOf V l).m → ∀ x, av = some x → x.block ∉ [w3.heap.size + 1 + 1 + 1, w3.heap.size, w3.heap.size + 1, w3.heap.size + 1 + 1] := fun hm x hx => by
        obtain ⟨b, off, e, hb, _⟩ := HARC.out 0 hm
        rw [hx] at e
        injection e with e
        subst e
        simp; omega
      have HFAR := Lib.hid hfar
      replace c0 := (hbq.cell (p := ⟨gn, 0, none⟩) cl).trans c0
      replace c1 := (hbq.cell (p := ⟨gn, 1, none⟩) cl).trans c1
      have HLS := Lib.hid (fun W hW => la_start (N := nwOf V l) (n := l.length) rfl hqs hq0 hq1 hq2 W hW)
      have hgq : w.heap.size ≤ w3.heap.size := HB3.out.size
      obtain ⟨gb, hgb⟩ : ∃ gb, w3.heap.size = gb := ⟨_, rfl⟩
      rw [hgb] at hqs cl HLS HFAR hgq ⊢
      clear hwq hgb hq0 hq1 hq2 hfar hbq HQ HN HARC HB3 HC2 HOWN HBLK HGW6 HGN6
      clear w3
      have HNK : Hid (∀ W, Kp [gb + 1 + 1 + 1, gb, gb + 1, gb + 1 + 1] wq W → W.cell? ⟨gn, 0, none⟩ = some (.int .i64 (V : Int)) ∧ W.cell? ⟨gn, 1, none⟩ = some (.slice av l.length cv)) := Lib.hid (fun W hk => ⟨hk.cell c0 (by simp; omega), hk.cell c1 (by simp; omega)⟩)
      refine wp_region_held_drew (S := (fun w' => w'.cell? ⟨gn, 0, none⟩ = some (.int .i64 (V : Int)) ∧ w'.cell? ⟨gn, 1, none⟩ = some (.slice av l.length cv))) (by kernel_rfl) ⟨c0, c1⟩ (fun hHeld => ?_)
      refine wpAnyH_take (i := 0) (v := ?_) rfl (by kernel_rfl) (by kernel_rfl) (by kernel_rfl) (fun _ _ _ h => h) (Or.inl ⟨by rfl, ?_⟩) (by assumption) ?_
      rotate_left
      · (intro w hSw; (try dsimp only at hSw); obtain ⟨hSw, hSx⟩ := hSw; go_simp; try with_reducible rfl)
      (try simp only [Act.put, List.setIfInBounds_toArray, List.set_cons_zero, List.set_cons_succ])
      refine wpAnyH_take (i := 1) (v := ?_) rfl (by kernel_rfl) (by kernel_rfl) (by kernel_rfl) (fun _ _ _ h => h) (Or.inl ⟨by rfl, ?_⟩) (by assumption) ?_
      rotate_left
      · (intro w hSw; (try dsimp only at hSw); obtain ⟨hSw, hSx⟩ := hSw; go_simp; try with_reducible rfl)
      (try simp only [Act.put, List.setIfInBounds_toArray, List.set_cons_zero, List.set_cons_succ])
      refine wpAnyH_take (i := 2) (v := ?_) rfl (by kernel_rfl) (by kernel_rfl) (by kernel_rfl) (fun _ _ _ h => h) (Or.inl ⟨by rfl, ?_⟩) (by assumption) ?_
      rotate_left
      · (intro w hSw; (try dsimp only at hSw); obtain ⟨hSw, hSx⟩ := hSw; go_simp; try with_reducible rfl)
      (try simp only [Act.put, List.setIfInBounds_toArray, List.set_cons_zero, List.set_cons_succ])
      refine wpAnyH_take (i := 3) (v := ?_) rfl (by kernel_rfl) (by kernel_rfl) (by kernel_rfl) (fun _ _ _ h => h) (Or.inl ⟨by rfl, ?_⟩) (by assumption) ?_
      rotate_left
      · (intro w hSw; (try dsimp only at hSw); obtain ⟨hSw, hSx⟩ := hSw; go_simp; try with_reducible rfl)
      (try simp only [Act.put, List.setIfInBounds_toArray, List.set_cons_zero, List.set_cons_succ])
      refine wpAnyH_ready (rs := [4]) (by kernel_rfl) (by simp) ?_
      refine AllReadyH.cons rfl (fun K hK => ?_) AllReadyH.nil
      go_simp
      refine hK.out _ _ (HNK.out _ ((Kp.refl _ wq).drew.alloc _)) (fun hHeld => ?_)
      clear hK K
      (try simp only [Act.put, List.setIfInBounds_toArray, List.set_cons_zero, List.set_cons_succ])
      have HLW := HLS.out _ rfl
      have HAW := Lib.hid (HAQ.out.below (Kp.below_nil ((Kp.refl _ wq).alloc (.cells (vrow l.length fun _ => .int .i64 0) 3)).drew))
      have HKW : Hid (Kp [gb + 1 + 1 + 1, gb, gb + 1, gb + 1 + 1] wq (wq.alloc (.cells (vrow l.length fun _ => .int .i64 0) 3)).drew) := Lib.hid ((Kp.refl _ wq).alloc _).drew
      have hp4 : (4 : Int) ^ l.length ≤ 5000 := by
        exact pow4 (by omega)
      have HP4 := Lib.hid hp4
      clear hp4
      refine wpAnyH_ready (rs := [5]) (by kernel_rfl) (by simp) ?_
      refine AllReadyH.cons rfl (fun K hK => ?_) AllReadyH.nil
      go_simp
      have hcall := all_any (nwOf V l) HSM.out.valid HSM.out.three av cv (gb + 1 + 1 + 1) gb (gb + 1) (gb + 1 + 1) HFAR.out l.length 0 0 (fun _ => 0) none 0 5000 _ _ HAW.out (Nat.zero_add _) rfl HP4.out (Int.le_refl _) HLW (Bst.start _ _ _)
      refine hcall.mono ?_
      rintro e w4 ⟨rfl, f', b', c', left', -, -, -, hL, hB⟩
      have hk4 := HKW.out.trans hL.kp
      have hn4 := HNK.out _ hk4
      have HB4 : Hid (Below w.heap.size w w4) := Lib.hid (HBQ.out.trans (hk4.to_below (by omega) (by simp; omega)))
      have HA4 := Lib.hid (HAW.out.kp hL.kp HFAR.out)
      have HBT := Lib.hid hB
      obtain ⟨vb, hvb, HBA, -⟩ := hL.b
      have q0 := cell_of_row _ _ 0 _ _ _ hvb
      have q1 := cell_of_row _ _ 0 _ _ _ hL.c
      have q2 := heap_lt hL.c
      have HBAT := Lib.hid HBA
      obtain ⟨n0, n1⟩ := hn4
      have nl := block_lt_of_cell n0
      refine hK.out _ _ ⟨n0, n1⟩ (fun hHeld => ?_)
      clear hK K hL hB hvb HBA hk4 HLW HLS HKW HNK HFAR HAW HAQ HBQ c0 c1 hgq HP4 mk1
      (try simp only [Act.put, List.setIfInBounds_toArray, List.set_cons_zero, List.set_cons_succ])
      refine wpAnyH_done (by kernel_rfl) ?_ _
      (try simp only [Act.put, List.setIfInBounds_toArray, List.set_cons_zero, List.set_cons_succ])
      clear hHeld
      go_wp2_with fail
      refine (Solve_any (rwN (nwOf V l)) av cv (show l.length ≤ _ by omega) _ (rwN_ra HA4.out)).mono ?_
      rintro e w5 hpost
      obtain ⟨s1, n, k1, f1, code, rfl, hr1, hans, hb5, hnm⟩ := sol_of hpost
      have hm5 : l.length ≤ 5 := by omega
      have hn5 : n ≤ 5 := by have h : n ≤ l.length := hnm; omega
      replace q0 := (hb5.cell (p := ⟨gb, 0, none⟩) (block_lt_of_cell q0)).trans q0
      replace q1 := (hb5.cell (p := ⟨gb + 1, 0, none⟩) q2).trans q1
      replace n0 := (hb5.cell (p := ⟨gn, 0, none⟩) nl).trans n0
      replace n1 := (hb5.cell (p := ⟨gn, 1, none⟩) nl).trans n1
      replace q2 := block_lt_of_cell q1
      replace nl := block_lt_of_cell n0
      have q3 := block_lt_of_cell q0
      have HB5 := Lib.hid (HB4.out.trans (hb5.mono HB4.out.size))
      have HR5 := Lib.hid hr1
      have HA5 := Lib.hid (HA4.out.below hb5)
      have HBA5 := Lib.hid (HBAT.out.keep (fun k _ hk => hb5.block k hk) hb5.size)
      have HONE := Lib.hid (least_one HSM.out.valid HBT.out hans)
      have kq := fun (w : World) (a : Option Addr) (n c : Nat) => Lib.run_eql_slice_nil (P := Try.prog) w 26 3 a n c 0 0 Try.underlying26
      clear hpost hr1 hans hb5 hnm HA4 HB4 HBAT HBT hlk
      rcases HONE.out with ⟨hbn, rfl, rfl⟩ | ⟨x, hbx, rfl, hnl, hfx, hcx⟩
      · have hvn : vb = .slice none 0 0 := by
          rcases HBA5.out with ⟨_, h⟩ | ⟨y, g, cc, h, _⟩
          · exact h
          · rw [hbn] at h; cases h
        subst hvn
        go_wp2_with fail
        go_ret
        exact ⟨rfl, HB5.out⟩
      · have hvs : ∃ gx cx, vb = .slice (some ⟨gx, 0, none⟩) l.length cx ∧ Rd w5 (some ⟨gx, 0, none⟩) l.length x ∧ gx < w5.heap.size := by
          rcases HBA5.out with ⟨h, _⟩ | ⟨y, g, cc, h1, h2, h3, h4⟩
          · rw [hbx] at h; cases h
          · rw [hbx] at h1; injection h1 with h1; subst h1; exact ⟨g, cc, h2, h3, h4⟩
        obtain ⟨gx, cx, rfl, hrx, hgx⟩ := hvs
        have hnl' : n = l.length := hnl
        subst hnl'
        have HINTS : Hid (∀ W, Below w5.heap.size w5 W → Calls Try.prog 23 #[.slice s1 l.length k1, .slice (some ⟨gx, 0, none⟩) l.length cx] W fun e w' => e = .returned (.bool true) ∧ Below W.heap.size W w') := Lib.hid (fun W hW => Ints_any s1 (some ⟨gx, 0, none⟩) l.length l.length k1 cx f1 x (by omega) (by omega) true (by simp; exact hfx) W (HR5.out.below hW) (hrx.below hW))
        have HCOST : Hid (∀ W, Below w5.heap.size w5 W → Calls Try.prog 19 #[.agg #[.int .i64 (V : Int), .slice av l.length cv], .slice s1 l.length k1] W fun e w' => e = .returned (.int .i64 c') ∧ Below W.heap.size W w') := Lib.hid (fun W hW => by
          rw [← hcx]
          exact Cost_any (rwN (nwOf V l)) av cv (show l.length ≤ _ by omega) s1 l.length k1 f1 (by omega) W (rwN_ra (HA5.out.below hW)) (HR5.out.below hW))
        clear hnl hfx hcx hrx HONE HBA5
        go_upto_region 17 with fail
        refine wp_region_below (by kernel_rfl) (by kernel_rfl) ?_
        have g1 := fun x : Since w5 => x.cell n0
        have g2 := fun x : Since w5 => x.cell n1
        have g3 := fun x : Since w5 => x.cell q0
        have g4 := fun x : Since w5 => x.cell q1
        repeat (go_big_quiet_step (first
          | (go_at_call 23; exact calls_since _ (HINTS.out _ (Since.property _)))
          | (go_at_call 19; exact calls_since _ (HCOST.out _ (Since.property _)))))
        refine wpQuiet_nil ?_
        intro W1 hb1
        clear g1 g2 g3 g4
        have HB6 := Lib.hid (HB5.out.trans (hb1.mono HB5.out.size))
        clear hb1
        go_wp2_with fail
        go_ret
        exact ⟨by simp, HB6.out⟩

/-! ### THE ROW's STEP -/
set_option maxRecDepth 100000 in
theorem lifted (os : Os) (started : os.Started) (H : Type) (enc : TypeId × Value → H) :
    ReturnsInHanded {} Try.checked os 5 .any (Rows.circulationLeastSpec.pre6 enc Try.prog Try.f5 Rows.circulationLeastRow.domain false) (Rows.circulationLeastSpec.post enc Try.prog Try.f5 false true false false) := by
  refine returnsInHanded_of_change (C := Try.checked) own started (by kernel_rfl) Try.func5
    (ChangeSpec.witness6 (enc := enc) (C := Try.checked) false ⟨#[], #[.slice none 0 0], []⟩ 8 (by kernel_rfl) (by kernel_rfl) (by kernel_rfl) (by kernel_rfl)) ?_
  intro W base args ds gs before hval0 hW hcnd _
  have hval : ∀ (j : Nat) t v, Try.f5.params[j]? = some t → args[j]? = some v → Value.okWide Try.prog W .any base t v := hval0
  have hW' := hW
  obtain ⟨p, q, hA0, hV, rfl, hfz, hnd⟩ := hW
  have hA : DataW.TrodAll enc Try.prog W 0 (fun _ => true) true Try.f5.params.toList args.toList ds p := hA0
  rw [Try.params5] at hA hval
  obtain ⟨v0, vs0, d0, ds0, p0, q0, hargs, rfl, rfl, h0, r0⟩ := trodAll_cons hA
  obtain ⟨rfl, rfl, rfl⟩ := trodAll_nil r0
  obtain rfl : args = #[v0] := by cases args; simp_all
  obtain ⟨rfl, rfl⟩ := trodVars_none hV
  have k0 := h0
  have lt0 : ∀ x ∈ p0, x.block < W.heap.size := by obtain ⟨m, hm⟩ := k0; exact DataW.trod_lt m _ _ _ hm
  obtain ⟨a0, len0, cap0, zs0, rfl, w0⟩ := in_ints (k := .u8) Try.underlying22 Try.underlying5 (by kernel_rfl) (hval 0 22 v0 rfl rfl) h0
  clear hA0 hval0
  refine (walk a0 len0 cap0 zs0 W w0).mono fun e W' ⟨he, bel⟩ => ?_
  subst he
  exact ⟨_, rfl, _, _, _, [], _, [], hW', trodAll_mk1 (shut_bool Try.underlying4 _), (trodAll_cons_mk (Below.trod laidOut (by kernel_rfl) (of_decide_eq_true (by kernel_rfl)) k0 bel lt0) trodAll_mk0), rfl, bel.frame _, fun h => by cases h⟩

theorem over : Rows.circulationLeastRow.holds Try.pinned (OpenSpec.ofChange Rows.circulationLeastSpec) :=
  OpenClaim.holds_of_wide 5 Try.f5 rfl rfl rfl rfl rfl rfl rfl ⟨rfl, rfl, rfl, rfl, rfl⟩ rfl rfl rfl rfl rfl (by kernel_rfl) Try.func5 (by kernel_rfl)
    (of_decide_eq_true (by kernel_rfl)) (by unfold Func.isWrapper; first | (rw [if_pos (by decide +kernel)]; kernel_rfl) | (rw [if_neg (by decide +kernel)]; exact ⟨rfl, rfl⟩))
    (fun os started H enc _ => lifted os started H enc)

/-- the statement -/
theorem proved : Rows.CirculationLeastSaid := over
#print axioms proved
end Go.Proofs.Ythoehobofdeifaa.circulationLeast
