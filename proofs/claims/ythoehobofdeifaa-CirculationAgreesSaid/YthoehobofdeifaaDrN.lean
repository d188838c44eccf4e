/-
  DRAWS of networks: warmpathdice.Network. (Filled in from a template of this repo.)
-/
import Derived.Test.YthoehobofdeifaaCirV
import Derived.Test.YthoehobofdeifaaWords
import Derived.Laws.AppendOwn
namespace Go.Proofs.Ythoehobofdeifaa
open Go.ChangeShapes Go.WideShapes Go.ChangeAt Go.RowKit
set_option linter.unusedVariables false
set_option linter.unusedSimpArgs false

/-- an arc of small numbers -/
structure Ar where
  f : Nat
  t : Nat
  l : Int
  u : Int
  c : Int
instance : Inhabited Ar := ⟨⟨0, 0, 0, 0, 0⟩⟩
abbrev arv (r : Ar) : List Value := [.int .i64 (r.f : Int), .int .i64 (r.t : Int), .int .i64 r.l, .int .i64 r.u, .int .i64 r.c]
def arvs (l : List Ar) : List Value := l.flatMap arv
theorem arvs_len (l : List Ar) : (arvs l).length = l.length * 5 := by
  induction l with
  | nil => rfl
  | cons s l ih => unfold arvs at ih ⊢; rw [List.flatMap_cons, List.length_append, ih]; show 5 + _ = (l.length + 1) * 5; omega
theorem arvs_append (l k : List Ar) : arvs (l ++ k) = arvs l ++ arvs k := by unfold arvs; simp
theorem arvs_get (l : List Ar) (j : Nat) (s : Ar) (h : l[j]? = some s) : (arvs l)[j * 5]? = some (.int .i64 (s.f : Int)) ∧ (arvs l)[j * 5 + 1]? = some (.int .i64 (s.t : Int)) ∧ (arvs l)[j * 5 + 2]? = some (.int .i64 s.l) ∧ (arvs l)[j * 5 + 3]? = some (.int .i64 s.u) ∧ (arvs l)[j * 5 + 4]? = some (.int .i64 s.c) := by
  induction l generalizing j with
  | nil => simp at h
  | cons x l ih =>
    cases j with
    | zero =>
      simp at h
      subst h
      exact ⟨rfl, rfl, rfl, rfl, rfl⟩
    | succ j =>
      have := ih j (by simpa using h)
      have e1 : (j + 1) * 5 = j * 5 + 1 + 1 + 1 + 1 + 1 := by omega
      rw [e1]
      exact this
/-- the network of V vertices and these arcs -/
def nwOf (V : Nat) (l : List Ar) : Nw := ⟨V, l.length, fun i => (l.getD i default).f, fun i => (l.getD i default).t, fun i => (l.getD i default).l, fun i => (l.getD i default).u, fun i => (l.getD i default).c⟩
theorem Arcs.of_own {w : World} {base e V : Nat} {v : Value} {l : List Ar} (h : w.ownsRow base e 5 v l.length (arvs l)) :
    ∃ a cap, v = .slice a l.length cap ∧ l.length ≤ cap ∧ cap ≤ maxLen ∧ Arcs w a (nwOf V l) ∧ ∀ x, a = some x → base ≤ x.block := by
  obtain ⟨a, cap, rfl, h1, h2, h3, h4, h5⟩ := Cells.of_own h
  refine ⟨a, cap, rfl, h2, h3, fun i hi => ?_, h5⟩
  have hil : i < l.length := hi
  obtain ⟨g0, g1, g2, g3, g4⟩ := arvs_get l i (l.getD i default) (by simp [List.getD, hil])
  obtain ⟨b, off, e1, hb, hc⟩ := h4 (fun e => by rw [e] at g0; simp at g0)
  refine ⟨b, off, e1, hb, hc _ _ g0, ?_, ?_, ?_, ?_⟩
  · rw [Nat.add_assoc]; exact hc _ _ g1
  · rw [Nat.add_assoc]; exact hc _ _ g2
  · rw [Nat.add_assoc]; exact hc _ _ g3
  · rw [Nat.add_assoc]; exact hc _ _ g4
/-- what a drawn network is like -/
structure Small (V : Nat) (l : List Ar) (n k : Nat) (u : Int) : Prop where
  V1 : 1 ≤ V
  V2 : V ≤ n
  m : l.length ≤ k
  ok : ∀ r ∈ l, r.f < V ∧ r.t < V ∧ 0 ≤ r.l ∧ r.l ≤ r.u ∧ r.u ≤ u ∧ -4 ≤ r.c ∧ r.c ≤ 4
theorem Small.valid {V n k : Nat} {l : List Ar} {u : Int} (h : Small V l n k u) (hn : n ≤ 520) (hk : k ≤ 2400) (hu : u ≤ 1099511627776) : (nwOf V l).valid := by
  have hr : ∀ i, i < l.length → l.getD i default ∈ l := fun i hi => by simp [List.getD, hi]
  refine ⟨h.V1, Nat.le_trans h.V2 hn, Nat.le_trans h.m hk, fun i hi => ?_, fun i hi => ?_, fun i hi => ?_⟩
  · have := h.ok _ (hr i hi); exact ⟨this.1, this.2.1⟩
  · obtain ⟨_, _, a, b, c, _⟩ := h.ok _ (hr i hi)
    exact ⟨a, b, by show (l.getD i default).u ≤ _; omega⟩
  · obtain ⟨_, _, _, _, _, a, b⟩ := h.ok _ (hr i hi)
    exact ⟨by show _ ≤ (l.getD i default).c; omega, by show (l.getD i default).c ≤ _; omega⟩
/-- what a draw of a network leaves -/
def NetPost (g : Nat) (w : World) (e : Ending) (w' : World) : Prop := ∃ (V : Nat) (l : List Ar) (v : Value), e = .returned (.agg #[.int .i64 (V : Int), v]) ∧ Small V l 5 9 5 ∧ w'.ownsRow w.heap.size 46 5 v l.length (arvs l) ∧ Cod w' g ∧ w.grownBy w' (some g)
theorem cell_ml2 {w : World} (ob : Obj) {b o : Nat} {v : Value} (h : w.cell? ⟨b, o, none⟩ = some v) : (w.alloc ob).cell? ⟨b, o, none⟩ = some v :=
  (((Below.refl w.heap.size w).alloc (Nat.le_refl _) ob).cell (p := ⟨b, o, none⟩) (block_lt_of_cell h)).trans h
/-- what the draw of one arc leaves -/
structure DC (V g : Nat) (w3 : World) (b5 : Nat) (r : Ar) (W : World) : Prop where
  blk : W.heap[b5]? = some (.cells #[.int .i64 (r.f : Int), .int .i64 (r.t : Int), .int .i64 r.l, .int .i64 r.u, .int .i64 r.c] 46 (0, 0))
  cod : Cod W g
  gr : w3.grownBy W (some g)
  nb : w3.heap.size ≤ b5
  ok : r.f < V ∧ r.t < V ∧ r.l = 0 ∧ 0 ≤ r.u ∧ r.u ≤ 5 ∧ -4 ≤ r.c ∧ r.c ≤ 4
theorem DC.put {V g : Nat} {w3 W : World} {b5 : Nat} {r : Ar} {z0 z1 z2 z3 z4 : Value} (h : W.heap[b5]? = some (.cells #[z0, z1, z2, z3, z4] 46 (0, 0))) (hc : Cod W g) (hg : w3.grownBy W (some g)) (hn : w3.heap.size ≤ b5) (hne : b5 ≠ g)
    (ok : r.f < V ∧ r.t < V ∧ r.l = 0 ∧ 0 ≤ r.u ∧ r.u ≤ 5 ∧ -4 ≤ r.c ∧ r.c ≤ 4) (hgb : g < b5) :
    DC V g w3 b5 r (((((W.setCell ⟨b5, 0, none⟩ (.int .i64 (r.f : Int))).setCell ⟨b5, 1, none⟩ (.int .i64 (r.t : Int))).setCell ⟨b5, 2, none⟩ (.int .i64 r.l)).setCell ⟨b5, 3, none⟩ (.int .i64 r.u)).setCell ⟨b5, 4, none⟩ (.int .i64 r.c)) := by
  have h0 := heap_setCell_same W b5 0 _ _ (.int .i64 (r.f : Int)) h
  have h1 := heap_setCell_same _ b5 1 _ _ (.int .i64 (r.t : Int)) h0
  have h2 := heap_setCell_same _ b5 2 _ _ (.int .i64 r.l) h1
  have h3 := heap_setCell_same _ b5 3 _ _ (.int .i64 r.u) h2
  have h4 := heap_setCell_same _ b5 4 _ _ (.int .i64 r.c) h3
  have h5 := h4
  simp only [List.setIfInBounds_toArray, List.set_cons_zero, List.set_cons_succ] at h5
  have hgr := grownBy_trans (grownBy_trans (grownBy_trans (grownBy_trans (grownBy_set W b5 0 (.int .i64 (r.f : Int))) (grownBy_set _ b5 1 (.int .i64 (r.t : Int)))) (grownBy_set _ b5 2 (.int .i64 r.l))) (grownBy_set _ b5 3 (.int .i64 r.u))) (grownBy_set _ b5 4 (.int .i64 r.c))
  exact ⟨h5, hc.grown hgr (fun k hk => by injection hk with hk; omega), grownBy_own hg hgr (fun k hk => by injection hk with hk; omega), hn, ok⟩
theorem own_row_ne {w : World} {B e size n g : Nat} {v : Value} {xs : List Value} (h : w.ownsRow B e size v n xs) (hg : g < B) : v.ownBlock = none ∨ v.ownBlock ≠ some g := by
  cases hq : v.ownBlock with
  | none => exact .inl rfl
  | some k => exact .inr (fun e => by injection e with e; have := (h.lt k hq).1; omega)
theorem own_type_ne {w : World} {B e size n b : Nat} {v : Value} {xs : List Value} (h : w.ownsRow B e size v n xs) {c : Array Value} {t : TypeId} {fr : Nat × Nat} (hb : w.heap[b]? = some (.cells c t fr)) (hne : t ≠ e) : v.ownBlock ≠ some b := by
  intro hq
  rcases h.2 with ⟨rfl, _⟩ | ⟨g, cap, cur, rfl, _, hg, _⟩
  · cases hq
  · injection hq with hq
    have hq' : g = b := hq
    subst hq'
    rw [hg] at hb
    injection hb with hb
    injection hb with _ ht
    exact hne ht.symm
theorem own_row_is {w : World} {B e size n b : Nat} {v : Value} {xs : List Value} (h : w.ownsRow B e size v n xs) {c : Array Value} {t : TypeId} {fr : Nat × Nat} (hb : w.heap[b]? = some (.cells c t fr)) (hne : t ≠ e) : v.ownBlock = none ∨ v.ownBlock ≠ some b := .inr (own_type_ne h hb hne)
theorem heap_lt {w : World} {b : Nat} {o : Obj} (h : w.heap[b]? = some o) : b < w.heap.size := (Array.getElem?_eq_some_iff.1 h).1
/-- the parts of a network that is being drawn -/
structure DT (V g gn : Nat) (w : World) (v : Value) (l : List Ar) (b5 : Nat) (r : Ar) (W : World) : Prop where
  hn : W.heap[gn]? = some (.cells #[.int .i64 (V : Int), v] 25 (0, 0))
  hr : W.heap[w.heap.size]? = some (.cells #[.int .i64 0, .slice none 0 0] 25 (0, 0))
  hb : W.heap[b5]? = some (.cells #[.int .i64 (r.f : Int), .int .i64 (r.t : Int), .int .i64 r.l, .int .i64 r.u, .int .i64 r.c] 46 (0, 0))
  own : W.ownsRow w.heap.size 46 5 v l.length (arvs l)
  cod : Cod W g
  gr : w.grownBy W (some g)
  fresh : ∀ k, v.ownBlock = some k → k ≠ b5
  le : w.heap.size ≤ b5
section
variable {V g gn : Nat} {w W W' : World} {v : Value} {l : List Ar} {b5 : Nat} {r : Ar}
theorem DT.next (h : DT V g gn w v l b5 r W) (hg : g < w.heap.size) (hn : g < gn ∧ gn ≠ w.heap.size ∧ w.heap.size ≤ gn ∧ gn ≠ b5 ∧ b5 ≠ w.heap.size ∧ g < b5) (hc : Cod W' g) (hgr : W.grownBy W' (some g)) : DT V g gn w v l b5 r W' :=
  ⟨(hgr.block gn (heap_lt h.hn) (by simp; omega)).trans h.hn, (hgr.block w.heap.size (heap_lt h.hr) (by simp; omega)).trans h.hr, (hgr.block b5 (heap_lt h.hb) (by simp; omega)).trans h.hb, h.own.kept hgr (own_row_ne h.own hg), hc, grownBy_trans h.gr hgr, h.fresh, h.le⟩
theorem DT.lower (h : DT V g gn w v l b5 r W) (hn : g < gn ∧ gn ≠ w.heap.size ∧ w.heap.size ≤ gn ∧ gn ≠ b5 ∧ b5 ≠ w.heap.size ∧ g < b5) (q : Int) : DT V g gn w v l b5 ⟨r.f, r.t, q, r.u, r.c⟩ (W.setCell ⟨b5, 2, none⟩ (.int .i64 q)) := by
  obtain ⟨n1, n2, n3, n4, n5, n6⟩ := hn
  have hgr := grownBy_set W b5 2 (.int .i64 q)
  have hb := heap_setCell_same W b5 2 _ _ (.int .i64 q) h.hb
  simp only [List.setIfInBounds_toArray, List.set_cons_zero, List.set_cons_succ] at hb
  have hle := h.le
  exact ⟨(heap_setCell_other W ⟨b5, 2, none⟩ gn _ n4).trans h.hn, (heap_setCell_other W ⟨b5, 2, none⟩ w.heap.size _ n5.symm).trans h.hr, hb, h.own.kept hgr (by
      cases hq : v.ownBlock with
      | none => exact .inl rfl
      | some k => exact .inr (fun e => by injection e with e; exact h.fresh k hq e)), h.cod.grown hgr (fun k hk => by injection hk with hk; omega), grownBy_own h.gr hgr (fun k hk => by injection hk with hk; omega), h.fresh, h.le⟩
theorem DT.after (h : DT V g gn w v l b5 r W) {o : Obj} {w9 : World} (hgr : (W.alloc o).grownBy w9 v.ownBlock) :
    w9.cell? ⟨gn, 1, none⟩ = some v ∧ w9.frozen? ⟨gn, 1, none⟩ = false ∧ gn < w9.heap.size := by
  have h1 := heap_lt h.hn
  have h2 : w9.heap[gn]? = some (.cells #[.int .i64 (V : Int), v] 25 (0, 0)) := (hgr.block gn (by simp; omega) (fun e => own_type_ne h.own h.hn (by decide) e.symm)).trans ((Below.heap_alloc W o gn h1).trans h.hn)
  exact ⟨cell_of_row _ _ 1 _ _ _ h2, frozen_of_row _ _ 1 _ _ h2, heap_lt h2⟩
theorem DT.fin (h : DT V g gn w v l b5 r W) (hg : g < w.heap.size) (hn : g < gn ∧ gn ≠ w.heap.size ∧ w.heap.size ≤ gn ∧ gn ≠ b5 ∧ b5 ≠ w.heap.size ∧ g < b5) {o : Obj} {w9 : World} {v' : Value} {n : Nat} {xs : List Value}
    (hgr : (W.alloc o).grownBy w9 v.ownBlock) (hown : w9.ownsRow w.heap.size 46 5 v' n xs) :
    (w9.setCell ⟨gn, 1, none⟩ v').heap[gn]? = some (.cells #[.int .i64 (V : Int), v'] 25 (0, 0)) ∧ (w9.setCell ⟨gn, 1, none⟩ v').heap[w.heap.size]? = some (.cells #[.int .i64 0, .slice none 0 0] 25 (0, 0)) ∧
    (w9.setCell ⟨gn, 1, none⟩ v').ownsRow w.heap.size 46 5 v' n xs ∧ Cod (w9.setCell ⟨gn, 1, none⟩ v') g ∧ w.grownBy (w9.setCell ⟨gn, 1, none⟩ v') (some g) := by
  have h1 := heap_lt h.hn
  have h0 := heap_lt h.hr
  have h2 : w9.heap[gn]? = some (.cells #[.int .i64 (V : Int), v] 25 (0, 0)) := (hgr.block gn (by simp; omega) (fun e => own_type_ne h.own h.hn (by decide) e.symm)).trans ((Below.heap_alloc W o gn h1).trans h.hn)
  have h3 : w9.heap[w.heap.size]? = some (.cells #[.int .i64 0, .slice none 0 0] 25 (0, 0)) := (hgr.block w.heap.size (by simp; omega) (fun e => own_type_ne h.own h.hr (by decide) e.symm)).trans ((Below.heap_alloc W o w.heap.size h0).trans h.hr)
  have hset := heap_setCell_same w9 gn 1 _ _ v' h2
  simp only [List.setIfInBounds_toArray, List.set_cons_zero, List.set_cons_succ] at hset
  have hgs := grownBy_set w9 gn 1 v'
  have hc9 : Cod w9 g := (h.cod.alloc o).grown hgr (fun k hk => by have := (h.own.lt k hk).1; omega)
  have hg9 : w.grownBy w9 (some g) := grownBy_own (grownBy_trans h.gr (World.grownBy_alloc W o (some g))) hgr (fun k hk => (h.own.lt k hk).1)
  exact ⟨hset, (heap_setCell_other w9 ⟨gn, 1, none⟩ w.heap.size v' hn.2.1.symm).trans h3, hown.kept hgs (own_row_is hown h2 (by decide)), hc9.grown hgs (fun k hk => by injection hk with hk; omega), grownBy_own hg9 hgs (fun k hk => by injection hk with hk; omega)⟩
end
theorem Try.infoArc : (Try.prog.info? 46).map (fun i => (i.zero, i.size, i.bytes)) = some (some (.agg #[.int .i64 0, .int .i64 0, .int .i64 0, .int .i64 0, .int .i64 0]), 5, 40) := by kernel_rfl
set_option maxRecDepth 100000 in
set_option maxHeartbeats 8000000 in
theorem Network_any (g : Nat) (w : World) (h : Cod w g) : Calls Try.prog 12 #[.pointer (some ⟨g, 0, none⟩)] w (NetPost g w) := by
  have hg := h.lt
  have HC := Lib.hid h
  obtain ⟨i0, hi0, hz0, hz1, hz2⟩ := info_parts Try.infoArc
  have HI := Lib.hid hi0
  have HZ0 := Lib.hid hz0
  have HZ1 := Lib.hid hz1
  have HZ2 := Lib.hid hz2
  clear h hi0 hz0 hz1 hz2
  go_enter Try.func12, Try.ntmps12
  go_wp2_with fail
  refine (Next_any g 5 (by omega) _ (HC.out.alloc _)).mono ?_
  rintro e w1 ⟨x, rfl, x0, x1, hc1, hg1⟩
  go_wp2_with fail
  refine (Next_any g 10 (by omega) _ (hc1.alloc _)).mono ?_
  rintro e w2 ⟨k, rfl, k0, k1, hc2, hg2⟩
  go_wp2_with fail
  obtain ⟨k, rfl⟩ := Int.eq_ofNat_of_zero_le k0
  obtain ⟨V, hV⟩ : ∃ V : Nat, 1 + x = (V : Int) := ⟨(1 + x).toNat, by omega⟩
  have hV1 : 1 ≤ V := by omega
  have hV5 : V ≤ 5 := by omega
  have hk9 : k ≤ 9 := by omega
  rw [hV] at hg2 ⊢
  clear hV x0 x1 k0 k1
  have hs1 : w.heap.size + 1 ≤ w1.heap.size := by have := hg1.size; simp at this; omega
  have hgl1 := hc1.lt
  have HGN : Hid (w2.heap[w1.heap.size]? = some (.cells #[.int .i64 (V : Int), .slice none 0 0] 25 (0, 0))) := Lib.hid ((hg2.block w1.heap.size (by simp) (fun e => by injection e with e; omega)).trans (heap_alloc_new w1 _))
  have HGR : Hid (w2.heap[w.heap.size]? = some (.cells #[.int .i64 0, .slice none 0 0] 25 (0, 0))) := Lib.hid ((hg2.block w.heap.size (by simp; omega) (fun e => by injection e with e; omega)).trans ((Below.heap_alloc w1 _ w.heap.size (by omega)).trans ((hg1.block w.heap.size (by simp) (fun e => by injection e with e; omega)).trans (heap_alloc_new w _))))
  have hgw : w.grownBy w2 (some g) := grownBy_trans (World.grownBy_alloc w _ (some g)) (grownBy_trans hg1 (grownBy_trans (World.grownBy_alloc w1 _ (some g)) hg2))
  have HGW : Hid (Cod w2 g ∧ w.grownBy w2 (some g)) := Lib.hid ⟨hc2, hgw⟩
  obtain ⟨gn, hgn⟩ : ∃ gn, w1.heap.size = gn := ⟨_, rfl⟩
  rw [hgn] at HGN hs1 hgl1 ⊢
  clear hg2 hc2 hgw hc1 hg1 hgn
  clear w1
  go_loopw [4] (fun v4 wr => ∃ (k : Nat) (l : List Ar) (v : Value), v4 = .int .i64 (k : Int) ∧ l.length + k ≤ 9 ∧ Hid (wr.heap[gn]? = some (.cells #[.int .i64 (V : Int), v] 25 (0, 0))) ∧ Hid (wr.heap[w.heap.size]? = some (.cells #[.int .i64 0, .slice none 0 0] 25 (0, 0))) ∧
    Hid (wr.ownsRow w.heap.size 46 5 v l.length (arvs l)) ∧ Hid (Cod wr g ∧ w.grownBy wr (some g)) ∧ Hid (∀ r ∈ l, r.f < V ∧ r.t < V ∧ 0 ≤ r.l ∧ r.l ≤ r.u ∧ r.u ≤ 5 ∧ -4 ≤ r.c ∧ r.c ≤ 4)) (fun v _ => (intOf v).toNat)
  case atStart => exact ⟨k, [], _, rfl, by simp; omega, HGN, HGR, Lib.hid (World.ownsRow_nil _ _ _ _), HGW, Lib.hid (fun r hr => by cases hr)⟩
  case round =>
    obtain ⟨k, l, v, rfl, hlk, HN, HR, HOWN, HC2, HOKS⟩ := hrel
    obtain ⟨w3, rfl⟩ : ∃ w3 : World, w3 = wr := ⟨_, rfl⟩
    by_cases hk : 0 < k
    · have c0 : w3.cell? ⟨gn, 0, none⟩ = some (.int .i64 (V : Int)) := cell_of_row _ _ 0 _ _ _ HN.out
      have hgnl := block_lt_of_cell c0
      have hcod := HC2.out.1
      go_wp2_with fail
      have hngg : gn ≠ g := by omega
      go_cut [5] from 12 to 44 (fun v5 wx => ∃ (b5 : Nat) (r : Ar), v5 = .pointer (some ⟨b5, 0, none⟩) ∧ DC V g w3 b5 r wx)
      case first =>
        have hcod0 : Cod w3.drew g := HC2.out.1
        have hgw0 : w3.grownBy w3.drew (some g) := ⟨rfl, rfl, rfl, Nat.le_refl _, fun _ _ _ => rfl⟩
        refine wp_region_held_drew (S := (fun w' => w'.cell? ⟨gn, 0, none⟩ = some (.int .i64 (V : Int)))) (by kernel_rfl) (hgw0.cell c0 (by simp; omega)) (fun hHeld => ?_)
        refine wpAnyH_take (i := 0) (v := ?_) rfl (by kernel_rfl) (by kernel_rfl) (by kernel_rfl) (fun _ _ _ h => h) (Or.inl ⟨by rfl, ?_⟩) (by assumption) ?_
        rotate_left
        · (intro w hSw; (try dsimp only at hSw); go_simp; try with_reducible rfl)
        (try simp only [Act.put, List.setIfInBounds_toArray, List.set_cons_zero, List.set_cons_succ])
        refine wpAnyH_take (i := 1) (v := ?_) rfl (by kernel_rfl) (by kernel_rfl) (by kernel_rfl) (fun _ _ _ h => h) (Or.inl ⟨by rfl, ?_⟩) (by assumption) ?_
        rotate_left
        · (intro w hSw; (try dsimp only at hSw); go_simp; try with_reducible rfl)
        (try simp only [Act.put, List.setIfInBounds_toArray, List.set_cons_zero, List.set_cons_succ])
        refine wpAnyH_take (i := 2) (v := ?_) rfl (by kernel_rfl) (by kernel_rfl) (by kernel_rfl) (fun _ _ _ h => h) (Or.inl ⟨by rfl, ?_⟩) (by assumption) ?_
        rotate_left
        · (intro w hSw; (try dsimp only at hSw); go_simp; try with_reducible rfl)
        (try simp only [Act.put, List.setIfInBounds_toArray, List.set_cons_zero, List.set_cons_succ])
        refine wpAnyH_take (i := 4) (v := ?_) rfl (by kernel_rfl) (by kernel_rfl) (by kernel_rfl) (fun _ _ _ h => h) (Or.inl ⟨by rfl, ?_⟩) (by assumption) ?_
        rotate_left
        · (intro w hSw; (try dsimp only at hSw); go_simp; try with_reducible rfl)
        (try simp only [Act.put, List.setIfInBounds_toArray, List.set_cons_zero, List.set_cons_succ])
        refine wpAnyH_take (i := 5) (v := ?_) rfl (by kernel_rfl) (by kernel_rfl) (by kernel_rfl) (fun _ _ _ h => h) (Or.inl ⟨by rfl, ?_⟩) (by assumption) ?_
        rotate_left
        · (intro w hSw; (try dsimp only at hSw); go_simp; try with_reducible rfl)
        (try simp only [Act.put, List.setIfInBounds_toArray, List.set_cons_zero, List.set_cons_succ])
        refine wpAnyH_take (i := 6) (v := ?_) rfl (by kernel_rfl) (by kernel_rfl) (by kernel_rfl) (fun _ _ _ h => h) (Or.inl ⟨by rfl, ?_⟩) (by assumption) ?_
        rotate_left
        · (intro w hSw; (try dsimp only at hSw); go_simp; try with_reducible rfl)
        (try simp only [Act.put, List.setIfInBounds_toArray, List.set_cons_zero, List.set_cons_succ])
        refine wpAnyH_take (i := 8) (v := ?_) rfl (by kernel_rfl) (by kernel_rfl) (by kernel_rfl) (fun _ _ _ h => h) (Or.inl ⟨by rfl, ?_⟩) (by assumption) ?_
        rotate_left
        · (intro w hSw; (try dsimp only at hSw); go_simp; try with_reducible rfl)
        (try simp only [Act.put, List.setIfInBounds_toArray, List.set_cons_zero, List.set_cons_succ])
        refine wpAnyH_take (i := 10) (v := ?_) rfl (by kernel_rfl) (by kernel_rfl) (by kernel_rfl) (fun _ _ _ h => h) (Or.inl ⟨by rfl, ?_⟩) (by assumption) ?_
        rotate_left
        · (intro w hSw; (try dsimp only at hSw); go_simp; try with_reducible rfl)
        (try simp only [Act.put, List.setIfInBounds_toArray, List.set_cons_zero, List.set_cons_succ])
        refine wpAnyH_ready (rs := [3, 14]) (by kernel_rfl) (by simp) ?_
        refine AllReadyH.cons rfl (fun K hK => ?_) (AllReadyH.cons rfl (fun K hK => ?_) AllReadyH.nil)
        · go_simp
          refine (Next_any g _ (by omega) _ hcod0).mono ?_
          rintro e wc0 ⟨xa, rfl, xa0, xa1, hcod1, hgc⟩
          have hgw1 : w3.grownBy wc0 (some g) := grownBy_trans hgw0 hgc
          refine hK.out _ _ ((hgw1.cell c0 (by simp; omega))) (fun hHeld => ?_)
          clear hK K hgc
          (try simp only [Act.put, List.setIfInBounds_toArray, List.set_cons_zero, List.set_cons_succ])
          refine wpAnyH_ready (rs := [7, 14]) (by kernel_rfl) (by simp) ?_
          refine AllReadyH.cons rfl (fun K hK => ?_) (AllReadyH.cons rfl (fun K hK => ?_) AllReadyH.nil)
          · go_simp
            refine (Next_any g _ (by omega) _ hcod1).mono ?_
            rintro e wc1 ⟨xb, rfl, xb0, xb1, hcod2, hgc⟩
            have hgw2 : w3.grownBy wc1 (some g) := grownBy_trans hgw1 hgc
            refine hK.out _ _ ((hgw2.cell c0 (by simp; omega))) (fun hHeld => ?_)
            clear hK K hgc
            (try simp only [Act.put, List.setIfInBounds_toArray, List.set_cons_zero, List.set_cons_succ])
            refine wpAnyH_ready (rs := [9, 14]) (by kernel_rfl) (by simp) ?_
            refine AllReadyH.cons rfl (fun K hK => ?_) (AllReadyH.cons rfl (fun K hK => ?_) AllReadyH.nil)
            · go_simp
              refine (Next_any g _ (by omega) _ hcod2).mono ?_
              rintro e wc2 ⟨xc, rfl, xc0, xc1, hcod3, hgc⟩
              have hgw3 : w3.grownBy wc2 (some g) := grownBy_trans hgw2 hgc
              refine hK.out _ _ ((hgw3.cell c0 (by simp; omega))) (fun hHeld => ?_)
              clear hK K hgc
              (try simp only [Act.put, List.setIfInBounds_toArray, List.set_cons_zero, List.set_cons_succ])
              refine wpAnyH_ready (rs := [11, 14]) (by kernel_rfl) (by simp) ?_
              refine AllReadyH.cons rfl (fun K hK => ?_) (AllReadyH.cons rfl (fun K hK => ?_) AllReadyH.nil)
              · go_simp
                refine (Next_any g _ (by omega) _ hcod3).mono ?_
                rintro e wc3 ⟨xd, rfl, xd0, xd1, hcod4, hgc⟩
                have hgw4 : w3.grownBy wc3 (some g) := grownBy_trans hgw3 hgc
                refine hK.out _ _ ((hgw4.cell c0 (by simp; omega))) (fun hHeld => ?_)
                clear hK K hgc
                (try simp only [Act.put, List.setIfInBounds_toArray, List.set_cons_zero, List.set_cons_succ])
                refine wpAnyH_take (i := 12) (v := ?_) rfl (by kernel_rfl) (by kernel_rfl) (by kernel_rfl) (fun _ _ _ h => h) (Or.inl ⟨by rfl, ?_⟩) (by assumption) ?_
                rotate_left
                · (intro w hSw; (try dsimp only at hSw); go_simp; try with_reducible rfl)
                (try simp only [Act.put, List.setIfInBounds_toArray, List.set_cons_zero, List.set_cons_succ])
                refine wpAnyH_take (i := 13) (v := ?_) rfl (by kernel_rfl) (by kernel_rfl) (by kernel_rfl) (fun _ _ _ h => h) (Or.inl ⟨by rfl, ?_⟩) (by assumption) ?_
                rotate_left
                · (intro w hSw; (try dsimp only at hSw); go_simp; try with_reducible rfl)
                (try simp only [Act.put, List.setIfInBounds_toArray, List.set_cons_zero, List.set_cons_succ])
                refine wpAnyH_ready (rs := [14]) (by kernel_rfl) (by simp) ?_
                refine AllReadyH.cons rfl (fun K hK => ?_) AllReadyH.nil
                have hbn : w3.heap.size ≤ wc3.heap.size := hgw4.size
                go_simp
                have hcod5 := hcod4.alloc (.cells #[.int .i64 0, .int .i64 0, .int .i64 0, .int .i64 0, .int .i64 0] 46)
                have hgw5 := grownBy_trans hgw4 (World.grownBy_alloc _ (.cells #[.int .i64 0, .int .i64 0, .int .i64 0, .int .i64 0, .int .i64 0] 46) (some g))
                have hbl5 : (wc3.alloc (.cells #[.int .i64 0, .int .i64 0, .int .i64 0, .int .i64 0, .int .i64 0] 46)).heap[wc3.heap.size]? = some (.cells #[.int .i64 0, .int .i64 0, .int .i64 0, .int .i64 0, .int .i64 0] 46 (0, 0)) := heap_alloc_new _ _
                refine hK.out _ _ ((hgw5.cell c0 (by simp; omega))) (fun hHeld => ?_)
                clear hK K
                (try simp only [Act.put, List.setIfInBounds_toArray, List.set_cons_zero, List.set_cons_succ])
                refine wpAnyH_ready (rs := [15]) (by kernel_rfl) (by simp) ?_
                refine AllReadyH.cons rfl (fun K hK => ?_) AllReadyH.nil
                go_simp
                obtain ⟨na, rfl⟩ := Int.eq_ofNat_of_zero_le xa0
                obtain ⟨nb, rfl⟩ := Int.eq_ofNat_of_zero_le xb0
                have hw : IntKind.i64.wrap (xd - 4) = xd - 4 := by rw [IntKind.wrap_i64]; omega
                rw [hw]
                clear hw
                have q1 : na < V := by omega
                have q2 : nb < V := by omega
                have q3 : 0 ≤ xc ∧ xc ≤ 5 := by omega
                have q4 : -4 ≤ xd - 4 ∧ xd - 4 ≤ 4 := by omega
                have hDC : DC V g w3 wc3.heap.size ⟨na, nb, 0, xc, xd - 4⟩ (wc3.alloc (.cells #[.int .i64 (na : Int), .int .i64 (nb : Int), .int .i64 0, .int .i64 xc, .int .i64 (xd - 4)] 46)) := ⟨heap_alloc_new _ _, hcod4.alloc _, grownBy_trans hgw4 (World.grownBy_alloc _ _ _), hbn, ⟨q1, q2, rfl, q3.1, q3.2, q4.1, q4.2⟩⟩
                refine hK.out _ _ (hDC.gr.cell c0 (by simp; omega)) (fun hHeld => ?_)
                clear hK K
                refine wpAnyH_done (by kernel_rfl) ?_ _
                go_wp2_with fail
                go_meet
                exact ⟨_, _, rfl, hDC⟩
              · have hbn : w3.heap.size ≤ wc2.heap.size := hgw3.size
                go_simp
                have hcod4 := hcod3.alloc (.cells #[.int .i64 0, .int .i64 0, .int .i64 0, .int .i64 0, .int .i64 0] 46)
                have hgw4 := grownBy_trans hgw3 (World.grownBy_alloc _ (.cells #[.int .i64 0, .int .i64 0, .int .i64 0, .int .i64 0, .int .i64 0] 46) (some g))
                have hbl4 : (wc2.alloc (.cells #[.int .i64 0, .int .i64 0, .int .i64 0, .int .i64 0, .int .i64 0] 46)).heap[wc2.heap.size]? = some (.cells #[.int .i64 0, .int .i64 0, .int .i64 0, .int .i64 0, .int .i64 0] 46 (0, 0)) := heap_alloc_new _ _
                refine hK.out _ _ ((hgw4.cell c0 (by simp; omega))) (fun hHeld => ?_)
                clear hK K
                (try simp only [Act.put, List.setIfInBounds_toArray, List.set_cons_zero, List.set_cons_succ])
                refine wpAnyH_ready (rs := [11]) (by kernel_rfl) (by simp) ?_
                refine AllReadyH.cons rfl (fun K hK => ?_) AllReadyH.nil
                go_simp
                refine (Next_any g _ (by omega) _ hcod4).mono ?_
                rintro e wc3 ⟨xd, rfl, xd0, xd1, hcod5, hgc⟩
                have hgw5 : w3.grownBy wc3 (some g) := grownBy_trans hgw4 hgc
                have hbl5 := (hgc.block _ (Array.getElem?_eq_some_iff.1 hbl4).1 (by simp; omega)).trans hbl4
                refine hK.out _ _ ((hgw5.cell c0 (by simp; omega))) (fun hHeld => ?_)
                clear hK K hgc
                (try simp only [Act.put, List.setIfInBounds_toArray, List.set_cons_zero, List.set_cons_succ])
                refine wpAnyH_take (i := 12) (v := ?_) rfl (by kernel_rfl) (by kernel_rfl) (by kernel_rfl) (fun _ _ _ h => h) (Or.inl ⟨by rfl, ?_⟩) (by assumption) ?_
                rotate_left
                · (intro w hSw; (try dsimp only at hSw); go_simp; try with_reducible rfl)
                (try simp only [Act.put, List.setIfInBounds_toArray, List.set_cons_zero, List.set_cons_succ])
                refine wpAnyH_take (i := 13) (v := ?_) rfl (by kernel_rfl) (by kernel_rfl) (by kernel_rfl) (fun _ _ _ h => h) (Or.inl ⟨by rfl, ?_⟩) (by assumption) ?_
                rotate_left
                · (intro w hSw; (try dsimp only at hSw); go_simp; try with_reducible rfl)
                (try simp only [Act.put, List.setIfInBounds_toArray, List.set_cons_zero, List.set_cons_succ])
                refine wpAnyH_ready (rs := [15]) (by kernel_rfl) (by simp) ?_
                refine AllReadyH.cons rfl (fun K hK => ?_) AllReadyH.nil
                have s0 := cell_of_row _ _ 0 _ _ _ hbl5
                have s1 := cell_of_row _ _ 1 _ _ _ hbl5
                have s2 := cell_of_row _ _ 2 _ _ _ hbl5
                have s3 := cell_of_row _ _ 3 _ _ _ hbl5
                have s4 := cell_of_row _ _ 4 _ _ _ hbl5
                have t0 := frozen_of_row _ _ 0 _ _ hbl5
                have t1 := frozen_of_row _ _ 1 _ _ hbl5
                have t2 := frozen_of_row _ _ 2 _ _ hbl5
                have t3 := frozen_of_row _ _ 3 _ _ hbl5
                have t4 := frozen_of_row _ _ 4 _ _ hbl5
                go_simp
                obtain ⟨na, rfl⟩ := Int.eq_ofNat_of_zero_le xa0
                obtain ⟨nb, rfl⟩ := Int.eq_ofNat_of_zero_le xb0
                have hw : IntKind.i64.wrap (xd - 4) = xd - 4 := by rw [IntKind.wrap_i64]; omega
                rw [hw]
                clear hw
                have q1 : na < V := by omega
                have q2 : nb < V := by omega
                have q3 : 0 ≤ xc ∧ xc ≤ 5 := by omega
                have q4 : -4 ≤ xd - 4 ∧ xd - 4 ≤ 4 := by omega
                have hDC := DC.put (V := V) (r := ⟨na, nb, 0, xc, xd - 4⟩) hbl5 hcod5 hgw5 hbn (by omega) ⟨q1, q2, rfl, q3.1, q3.2, q4.1, q4.2⟩ (by have := hcod5.lt; omega)
                clear s0 s1 s2 s3 s4 t0 t1 t2 t3 t4
                refine hK.out _ _ (hDC.gr.cell c0 (by simp; omega)) (fun hHeld => ?_)
                clear hK K
                refine wpAnyH_done (by kernel_rfl) ?_ _
                go_wp2_with fail
                go_meet
                exact ⟨_, _, rfl, hDC⟩
            · have hbn : w3.heap.size ≤ wc1.heap.size := hgw2.size
              go_simp
              have hcod3 := hcod2.alloc (.cells #[.int .i64 0, .int .i64 0, .int .i64 0, .int .i64 0, .int .i64 0] 46)
              have hgw3 := grownBy_trans hgw2 (World.grownBy_alloc _ (.cells #[.int .i64 0, .int .i64 0, .int .i64 0, .int .i64 0, .int .i64 0] 46) (some g))
              have hbl3 : (wc1.alloc (.cells #[.int .i64 0, .int .i64 0, .int .i64 0, .int .i64 0, .int .i64 0] 46)).heap[wc1.heap.size]? = some (.cells #[.int .i64 0, .int .i64 0, .int .i64 0, .int .i64 0, .int .i64 0] 46 (0, 0)) := heap_alloc_new _ _
              refine hK.out _ _ ((hgw3.cell c0 (by simp; omega))) (fun hHeld => ?_)
              clear hK K
              (try simp only [Act.put, List.setIfInBounds_toArray, List.set_cons_zero, List.set_cons_succ])
              refine wpAnyH_ready (rs := [9]) (by kernel_rfl) (by simp) ?_
              refine AllReadyH.cons rfl (fun K hK => ?_) AllReadyH.nil
              go_simp
              refine (Next_any g _ (by omega) _ hcod3).mono ?_
              rintro e wc2 ⟨xc, rfl, xc0, xc1, hcod4, hgc⟩
              have hgw4 : w3.grownBy wc2 (some g) := grownBy_trans hgw3 hgc
              have hbl4 := (hgc.block _ (Array.getElem?_eq_some_iff.1 hbl3).1 (by simp; omega)).trans hbl3
              refine hK.out _ _ ((hgw4.cell c0 (by simp; omega))) (fun hHeld => ?_)
              clear hK K hgc
              (try simp only [Act.put, List.setIfInBounds_toArray, List.set_cons_zero, List.set_cons_succ])
              refine wpAnyH_ready (rs := [11]) (by kernel_rfl) (by simp) ?_
              refine AllReadyH.cons rfl (fun K hK => ?_) AllReadyH.nil
              go_simp
              refine (Next_any g _ (by omega) _ hcod4).mono ?_
              rintro e wc3 ⟨xd, rfl, xd0, xd1, hcod5, hgc⟩
              have hgw5 : w3.grownBy wc3 (some g) := grownBy_trans hgw4 hgc
              have hbl5 := (hgc.block _ (Array.getElem?_eq_some_iff.1 hbl4).1 (by simp; omega)).trans hbl4
              refine hK.out _ _ ((hgw5.cell c0 (by simp; omega))) (fun hHeld => ?_)
              clear hK K hgc
              (try simp only [Act.put, List.setIfInBounds_toArray, List.set_cons_zero, List.set_cons_succ])
              refine wpAnyH_take (i := 12) (v := ?_) rfl (by kernel_rfl) (by kernel_rfl) (by kernel_rfl) (fun _ _ _ h => h) (Or.inl ⟨by rfl, ?_⟩) (by assumption) ?_
              rotate_left
              · (intro w hSw; (try dsimp only at hSw); go_simp; try with_reducible rfl)
              (try simp only [Act.put, List.setIfInBounds_toArray, List.set_cons_zero, List.set_cons_succ])
              refine wpAnyH_take (i := 13) (v := ?_) rfl (by kernel_rfl) (by kernel_rfl) (by kernel_rfl) (fun _ _ _ h => h) (Or.inl ⟨by rfl, ?_⟩) (by assumption) ?_
              rotate_left
              · (intro w hSw; (try dsimp only at hSw); go_simp; try with_reducible rfl)
              (try simp only [Act.put, List.setIfInBounds_toArray, List.set_cons_zero, List.set_cons_succ])
              refine wpAnyH_ready (rs := [15]) (by kernel_rfl) (by simp) ?_
              refine AllReadyH.cons rfl (fun K hK => ?_) AllReadyH.nil
              have s0 := cell_of_row _ _ 0 _ _ _ hbl5
              have s1 := cell_of_row _ _ 1 _ _ _ hbl5
              have s2 := cell_of_row _ _ 2 _ _ _ hbl5
              have s3 := cell_of_row _ _ 3 _ _ _ hbl5
              have s4 := cell_of_row _ _ 4 _ _ _ hbl5
              have t0 := frozen_of_row _ _ 0 _ _ hbl5
              have t1 := frozen_of_row _ _ 1 _ _ hbl5
              have t2 := frozen_of_row _ _ 2 _ _ hbl5
              have t3 := frozen_of_row _ _ 3 _ _ hbl5
              have t4 := frozen_of_row _ _ 4 _ _ hbl5
              go_simp
              obtain ⟨na, rfl⟩ := Int.eq_ofNat_of_zero_le xa0
              obtain ⟨nb, rfl⟩ := Int.eq_ofNat_of_zero_le xb0
              have hw : IntKind.i64.wrap (xd - 4) = xd - 4 := by rw [IntKind.wrap_i64]; omega
              rw [hw]
              clear hw
              have q1 : na < V := by omega
              have q2 : nb < V := by omega
              have q3 : 0 ≤ xc ∧ xc ≤ 5 := by omega
              have q4 : -4 ≤ xd - 4 ∧ xd - 4 ≤ 4 := by omega
              have hDC := DC.put (V := V) (r := ⟨na, nb, 0, xc, xd - 4⟩) hbl5 hcod5 hgw5 hbn (by omega) ⟨q1, q2, rfl, q3.1, q3.2, q4.1, q4.2⟩ (by have := hcod5.lt; omega)
              clear s0 s1 s2 s3 s4 t0 t1 t2 t3 t4
              refine hK.out _ _ (hDC.gr.cell c0 (by simp; omega)) (fun hHeld => ?_)
              clear hK K
              refine wpAnyH_done (by kernel_rfl) ?_ _
              go_wp2_with fail
              go_meet
              exact ⟨_, _, rfl, hDC⟩
          · have hbn : w3.heap.size ≤ wc0.heap.size := hgw1.size
            go_simp
            have hcod2 := hcod1.alloc (.cells #[.int .i64 0, .int .i64 0, .int .i64 0, .int .i64 0, .int .i64 0] 46)
            have hgw2 := grownBy_trans hgw1 (World.grownBy_alloc _ (.cells #[.int .i64 0, .int .i64 0, .int .i64 0, .int .i64 0, .int .i64 0] 46) (some g))
            have hbl2 : (wc0.alloc (.cells #[.int .i64 0, .int .i64 0, .int .i64 0, .int .i64 0, .int .i64 0] 46)).heap[wc0.heap.size]? = some (.cells #[.int .i64 0, .int .i64 0, .int .i64 0, .int .i64 0, .int .i64 0] 46 (0, 0)) := heap_alloc_new _ _
            refine hK.out _ _ ((hgw2.cell c0 (by simp; omega))) (fun hHeld => ?_)
            clear hK K
            (try simp only [Act.put, List.setIfInBounds_toArray, List.set_cons_zero, List.set_cons_succ])
            refine wpAnyH_ready (rs := [7]) (by kernel_rfl) (by simp) ?_
            refine AllReadyH.cons rfl (fun K hK => ?_) AllReadyH.nil
            go_simp
            refine (Next_any g _ (by omega) _ hcod2).mono ?_
            rintro e wc1 ⟨xb, rfl, xb0, xb1, hcod3, hgc⟩
            have hgw3 : w3.grownBy wc1 (some g) := grownBy_trans hgw2 hgc
            have hbl3 := (hgc.block _ (Array.getElem?_eq_some_iff.1 hbl2).1 (by simp; omega)).trans hbl2
            refine hK.out _ _ ((hgw3.cell c0 (by simp; omega))) (fun hHeld => ?_)
            clear hK K hgc
            (try simp only [Act.put, List.setIfInBounds_toArray, List.set_cons_zero, List.set_cons_succ])
            refine wpAnyH_ready (rs := [9]) (by kernel_rfl) (by simp) ?_
            refine AllReadyH.cons rfl (fun K hK => ?_) AllReadyH.nil
            go_simp
            refine (Next_any g _ (by omega) _ hcod3).mono ?_
            rintro e wc2 ⟨xc, rfl, xc0, xc1, hcod4, hgc⟩
            have hgw4 : w3.grownBy wc2 (some g) := grownBy_trans hgw3 hgc
            have hbl4 := (hgc.block _ (Array.getElem?_eq_some_iff.1 hbl3).1 (by simp; omega)).trans hbl3
            refine hK.out _ _ ((hgw4.cell c0 (by simp; omega))) (fun hHeld => ?_)
            clear hK K hgc
            (try simp only [Act.put, List.setIfInBounds_toArray, List.set_cons_zero, List.set_cons_succ])
            refine wpAnyH_ready (rs := [11]) (by kernel_rfl) (by simp) ?_
            refine AllReadyH.cons rfl (fun K hK => ?_) AllReadyH.nil
            go_simp
            refine (Next_any g _ (by omega) _ hcod4).mono ?_
            rintro e wc3 ⟨xd, rfl, xd0, xd1, hcod5, hgc⟩
            have hgw5 : w3.grownBy wc3 (some g) := grownBy_trans hgw4 hgc
            have hbl5 := (hgc.block _ (Array.getElem?_eq_some_iff.1 hbl4).1 (by simp; omega)).trans hbl4
            refine hK.out _ _ ((hgw5.cell c0 (by simp; omega))) (fun hHeld => ?_)
            clear hK K hgc
            (try simp only [Act.put, List.setIfInBounds_toArray, List.set_cons_zero, List.set_cons_succ])
            refine wpAnyH_take (i := 12) (v := ?_) rfl (by kernel_rfl) (by kernel_rfl) (by kernel_rfl) (fun _ _ _ h => h) (Or.inl ⟨by rfl, ?_⟩) (by assumption) ?_
            rotate_left
            · (intro w hSw; (try dsimp only at hSw); go_simp; try with_reducible rfl)
            (try simp only [Act.put, List.setIfInBounds_toArray, List.set_cons_zero, List.set_cons_succ])
            refine wpAnyH_take (i := 13) (v := ?_) rfl (by kernel_rfl) (by kernel_rfl) (by kernel_rfl) (fun _ _ _ h => h) (Or.inl ⟨by rfl, ?_⟩) (by assumption) ?_
            rotate_left
            · (intro w hSw; (try dsimp only at hSw); go_simp; try with_reducible rfl)
            (try simp only [Act.put, List.setIfInBounds_toArray, List.set_cons_zero, List.set_cons_succ])
            refine wpAnyH_ready (rs := [15]) (by kernel_rfl) (by simp) ?_
            refine AllReadyH.cons rfl (fun K hK => ?_) AllReadyH.nil
            have s0 := cell_of_row _ _ 0 _ _ _ hbl5
            have s1 := cell_of_row _ _ 1 _ _ _ hbl5
            have s2 := cell_of_row _ _ 2 _ _ _ hbl5
            have s3 := cell_of_row _ _ 3 _ _ _ hbl5
            have s4 := cell_of_row _ _ 4 _ _ _ hbl5
            have t0 := frozen_of_row _ _ 0 _ _ hbl5
            have t1 := frozen_of_row _ _ 1 _ _ hbl5
            have t2 := frozen_of_row _ _ 2 _ _ hbl5
            have t3 := frozen_of_row _ _ 3 _ _ hbl5
            have t4 := frozen_of_row _ _ 4 _ _ hbl5
            go_simp
            obtain ⟨na, rfl⟩ := Int.eq_ofNat_of_zero_le xa0
            obtain ⟨nb, rfl⟩ := Int.eq_ofNat_of_zero_le xb0
            have hw : IntKind.i64.wrap (xd - 4) = xd - 4 := by rw [IntKind.wrap_i64]; omega
            rw [hw]
            clear hw
            have q1 : na < V := by omega
            have q2 : nb < V := by omega
            have q3 : 0 ≤ xc ∧ xc ≤ 5 := by omega
            have q4 : -4 ≤ xd - 4 ∧ xd - 4 ≤ 4 := by omega
            have hDC := DC.put (V := V) (r := ⟨na, nb, 0, xc, xd - 4⟩) hbl5 hcod5 hgw5 hbn (by omega) ⟨q1, q2, rfl, q3.1, q3.2, q4.1, q4.2⟩ (by have := hcod5.lt; omega)
            clear s0 s1 s2 s3 s4 t0 t1 t2 t3 t4
            refine hK.out _ _ (hDC.gr.cell c0 (by simp; omega)) (fun hHeld => ?_)
            clear hK K
            refine wpAnyH_done (by kernel_rfl) ?_ _
            go_wp2_with fail
            go_meet
            exact ⟨_, _, rfl, hDC⟩
        · have hbn : w3.heap.size ≤ w3.heap.size := Nat.le_refl _
          go_simp
          have hcod1 := hcod0.alloc (.cells #[.int .i64 0, .int .i64 0, .int .i64 0, .int .i64 0, .int .i64 0] 46)
          have hgw1 := grownBy_trans hgw0 (World.grownBy_alloc _ (.cells #[.int .i64 0, .int .i64 0, .int .i64 0, .int .i64 0, .int .i64 0] 46) (some g))
          have hbl1 : (w3.alloc (.cells #[.int .i64 0, .int .i64 0, .int .i64 0, .int .i64 0, .int .i64 0] 46)).heap[w3.heap.size]? = some (.cells #[.int .i64 0, .int .i64 0, .int .i64 0, .int .i64 0, .int .i64 0] 46 (0, 0)) := heap_alloc_new _ _
          refine hK.out _ _ ((hgw1.cell c0 (by simp; omega))) (fun hHeld => ?_)
          clear hK K
          (try simp only [Act.put, List.setIfInBounds_toArray, List.set_cons_zero, List.set_cons_succ])
          refine wpAnyH_ready (rs := [3]) (by kernel_rfl) (by simp) ?_
          refine AllReadyH.cons rfl (fun K hK => ?_) AllReadyH.nil
          go_simp
          refine (Next_any g _ (by omega) _ hcod1).mono ?_
          rintro e wc0 ⟨xa, rfl, xa0, xa1, hcod2, hgc⟩
          have hgw2 : w3.grownBy wc0 (some g) := grownBy_trans hgw1 hgc
          have hbl2 := (hgc.block _ (Array.getElem?_eq_some_iff.1 hbl1).1 (by simp; omega)).trans hbl1
          refine hK.out _ _ ((hgw2.cell c0 (by simp; omega))) (fun hHeld => ?_)
          clear hK K hgc
          (try simp only [Act.put, List.setIfInBounds_toArray, List.set_cons_zero, List.set_cons_succ])
          refine wpAnyH_ready (rs := [7]) (by kernel_rfl) (by simp) ?_
          refine AllReadyH.cons rfl (fun K hK => ?_) AllReadyH.nil
          go_simp
          refine (Next_any g _ (by omega) _ hcod2).mono ?_
          rintro e wc1 ⟨xb, rfl, xb0, xb1, hcod3, hgc⟩
          have hgw3 : w3.grownBy wc1 (some g) := grownBy_trans hgw2 hgc
          have hbl3 := (hgc.block _ (Array.getElem?_eq_some_iff.1 hbl2).1 (by simp; omega)).trans hbl2
          refine hK.out _ _ ((hgw3.cell c0 (by simp; omega))) (fun hHeld => ?_)
          clear hK K hgc
          (try simp only [Act.put, List.setIfInBounds_toArray, List.set_cons_zero, List.set_cons_succ])
          refine wpAnyH_ready (rs := [9]) (by kernel_rfl) (by simp) ?_
          refine AllReadyH.cons rfl (fun K hK => ?_) AllReadyH.nil
          go_simp
          refine (Next_any g _ (by omega) _ hcod3).mono ?_
          rintro e wc2 ⟨xc, rfl, xc0, xc1, hcod4, hgc⟩
          have hgw4 : w3.grownBy wc2 (some g) := grownBy_trans hgw3 hgc
          have hbl4 := (hgc.block _ (Array.getElem?_eq_some_iff.1 hbl3).1 (by simp; omega)).trans hbl3
          refine hK.out _ _ ((hgw4.cell c0 (by simp; omega))) (fun hHeld => ?_)
          clear hK K hgc
          (try simp only [Act.put, List.setIfInBounds_toArray, List.set_cons_zero, List.set_cons_succ])
          refine wpAnyH_ready (rs := [11]) (by kernel_rfl) (by simp) ?_
          refine AllReadyH.cons rfl (fun K hK => ?_) AllReadyH.nil
          go_simp
          refine (Next_any g _ (by omega) _ hcod4).mono ?_
          rintro e wc3 ⟨xd, rfl, xd0, xd1, hcod5, hgc⟩
          have hgw5 : w3.grownBy wc3 (some g) := grownBy_trans hgw4 hgc
          have hbl5 := (hgc.block _ (Array.getElem?_eq_some_iff.1 hbl4).1 (by simp; omega)).trans hbl4
          refine hK.out _ _ ((hgw5.cell c0 (by simp; omega))) (fun hHeld => ?_)
          clear hK K hgc
          (try simp only [Act.put, List.setIfInBounds_toArray, List.set_cons_zero, List.set_cons_succ])
          refine wpAnyH_take (i := 12) (v := ?_) rfl (by kernel_rfl) (by kernel_rfl) (by kernel_rfl) (fun _ _ _ h => h) (Or.inl ⟨by rfl, ?_⟩) (by assumption) ?_
          rotate_left
          · (intro w hSw; (try dsimp only at hSw); go_simp; try with_reducible rfl)
          (try simp only [Act.put, List.setIfInBounds_toArray, List.set_cons_zero, List.set_cons_succ])
          refine wpAnyH_take (i := 13) (v := ?_) rfl (by kernel_rfl) (by kernel_rfl) (by kernel_rfl) (fun _ _ _ h => h) (Or.inl ⟨by rfl, ?_⟩) (by assumption) ?_
          rotate_left
          · (intro w hSw; (try dsimp only at hSw); go_simp; try with_reducible rfl)
          (try simp only [Act.put, List.setIfInBounds_toArray, List.set_cons_zero, List.set_cons_succ])
          refine wpAnyH_ready (rs := [15]) (by kernel_rfl) (by simp) ?_
          refine AllReadyH.cons rfl (fun K hK => ?_) AllReadyH.nil
          have s0 := cell_of_row _ _ 0 _ _ _ hbl5
          have s1 := cell_of_row _ _ 1 _ _ _ hbl5
          have s2 := cell_of_row _ _ 2 _ _ _ hbl5
          have s3 := cell_of_row _ _ 3 _ _ _ hbl5
          have s4 := cell_of_row _ _ 4 _ _ _ hbl5
          have t0 := frozen_of_row _ _ 0 _ _ hbl5
          have t1 := frozen_of_row _ _ 1 _ _ hbl5
          have t2 := frozen_of_row _ _ 2 _ _ hbl5
          have t3 := frozen_of_row _ _ 3 _ _ hbl5
          have t4 := frozen_of_row _ _ 4 _ _ hbl5
          go_simp
          obtain ⟨na, rfl⟩ := Int.eq_ofNat_of_zero_le xa0
          obtain ⟨nb, rfl⟩ := Int.eq_ofNat_of_zero_le xb0
          have hw : IntKind.i64.wrap (xd - 4) = xd - 4 := by rw [IntKind.wrap_i64]; omega
          rw [hw]
          clear hw
          have q1 : na < V := by omega
          have q2 : nb < V := by omega
          have q3 : 0 ≤ xc ∧ xc ≤ 5 := by omega
          have q4 : -4 ≤ xd - 4 ∧ xd - 4 ≤ 4 := by omega
          have hDC := DC.put (V := V) (r := ⟨na, nb, 0, xc, xd - 4⟩) hbl5 hcod5 hgw5 hbn (by omega) ⟨q1, q2, rfl, q3.1, q3.2, q4.1, q4.2⟩ (by have := hcod5.lt; omega)
          clear s0 s1 s2 s3 s4 t0 t1 t2 t3 t4
          refine hK.out _ _ (hDC.gr.cell c0 (by simp; omega)) (fun hHeld => ?_)
          clear hK K
          refine wpAnyH_done (by kernel_rfl) ?_ _
          go_wp2_with fail
          go_meet
          exact ⟨_, _, rfl, hDC⟩
      case rest =>
        obtain ⟨b5, r, rfl, hDC⟩ := hcut
        have hT4 : DT V g gn w v l b5 r wc := ⟨(hDC.gr.block gn hgnl (by simp; omega)).trans HN.out, (hDC.gr.block w.heap.size (by omega) (by simp; omega)).trans HR.out, hDC.blk, HOWN.out.kept hDC.gr (own_row_ne HOWN.out hg), hDC.cod, grownBy_trans HC2.out.2 hDC.gr, fun q hq e => by have := (HOWN.out.lt q hq).2; have := hDC.nb; omega, by have := hDC.nb; omega⟩
        have hgn : g < gn ∧ gn ≠ w.heap.size ∧ w.heap.size ≤ gn ∧ gn ≠ b5 ∧ b5 ≠ w.heap.size ∧ g < b5 := by have := hDC.nb; omega
        have hgn2 : w.heap.size < w3.heap.size := by omega
        have HT4 := Lib.hid hT4
        have hok4 := hDC.ok
        clear hDC hcod c0 hT4
        go_wp2_with fail
        refine (Next_any g 4 (by omega) _ HT4.out.cod).mono ?_
        rintro e w5 ⟨y, rfl, y0, y1, hc5, hg5⟩
        have HT5 := Lib.hid (HT4.out.next hg hgn hc5 hg5)
        clear hg5 hc5 HT4
        by_cases hy : y = 0
        · subst hy
          have u3 : w5.cell? ⟨b5, 3, none⟩ = some (.int .i64 r.u) := cell_of_row _ _ 3 _ _ _ HT5.out.hb
          have hb5l := block_lt_of_cell u3
          go_wp2_with fail
          refine (Next_any g (r.u + 1) (by omega) _ HT5.out.cod).mono ?_
          rintro e w6 ⟨q, rfl, q0, q1, hc6, hg6⟩
          have hT6 := HT5.out.next hg hgn hc6 hg6
          have u2 := cell_of_row _ _ 2 _ _ _ hT6.hb
          have u2f := frozen_of_row _ _ 2 _ _ hT6.hb
          have hb6l := block_lt_of_cell u2
          have HT7 := Lib.hid (hT6.lower hgn q)
          have HOK : Hid (r.f < V ∧ r.t < V ∧ 0 ≤ q ∧ q ≤ r.u ∧ r.u ≤ 5 ∧ -4 ≤ r.c ∧ r.c ≤ 4) := Lib.hid (by omega)
          clear hT6 hc6 hg6 HT5 u3
          go_upto_region 8 with fail
          generalize (w6.setCell ⟨b5, 2, none⟩ (.int .i64 q)) = w7 at *
          clear u2 u2f hb6l
          have HT := HT7
          have c1 := cell_of_row _ _ 1 _ _ _ (HT.out).hn
          have f1 := frozen_of_row _ _ 1 _ _ (HT.out).hn
          have e0 := cell_of_row _ _ 0 _ _ _ (HT.out).hb
          have e1 := cell_of_row _ _ 1 _ _ _ (HT.out).hb
          have e2 := cell_of_row _ _ 2 _ _ _ (HT.out).hb
          have e3 := cell_of_row _ _ 3 _ _ _ (HT.out).hb
          have e4 := cell_of_row _ _ 4 _ _ _ (HT.out).hb
          have hgl := block_lt_of_cell c1
          have hbl := block_lt_of_cell e0
          have hwl := HT.out.gr.size
          have HOA := Lib.hid (HT.out.own.alloc (.cells (arv ⟨r.f, r.t, q, r.u, r.c⟩).toArray 46))
          go_wp2_with (at_builtin; refine wpList_append_own _ rfl _ _ _ rfl w.heap.size 46 i0 _ 5 40 Try.underlying23 HI.out HZ0.out HZ1.out HZ2.out rfl (by omega) _ _ _ rfl HOA.out ⟨w7.heap.size, 0, none⟩ 1 1 (arv ⟨r.f, r.t, q, r.u, r.c⟩) rfl rfl (World.news_of_block (cs := (arv ⟨r.f, r.t, q, r.u, r.c⟩).toArray) (t := 46) (fr := (0, 0)) (heap_alloc_new w7 _)) (by simp [Value.oneCell']) (by unfold maxLen; omega) (by omega) (by simp; omega) ?_; intro v' w9 hown9 hgrow9 _; obtain ⟨r1, r2, r3⟩ := HT.out.after hgrow9; clear c1 f1 e0 e1 e2 e3 e4; obtain ⟨va, vc, rfl, _⟩ := Cells.of_own hown9)
          have hT9 := HT.out.fin hg hgn hgrow9 hown9
          have hkk : (k : Int) - 1 = ((k - 1 : Nat) : Int) := by omega
          exact ⟨⟨k - 1, l ++ [⟨r.f, r.t, q, r.u, r.c⟩], _, by rw [hkk], by simp; omega, Lib.hid hT9.1, Lib.hid hT9.2.1, Lib.hid (by rw [List.length_append, arvs_append]; exact hT9.2.2.1), Lib.hid ⟨hT9.2.2.2.1, hT9.2.2.2.2⟩, Lib.hid (fun r' hr' => by
            rw [List.mem_append] at hr'
            rcases hr' with hr' | hr'
            · exact HOKS.out r' hr'
            · rw [List.mem_singleton.1 hr']; exact HOK.out)⟩, by simp [intOf]; omega⟩
        · have dy : (y == 0) = false := by simpa using hy
          have HOK : Hid (r.f < V ∧ r.t < V ∧ (0 : Int) ≤ 0 ∧ 0 ≤ r.u ∧ r.u ≤ 5 ∧ -4 ≤ r.c ∧ r.c ≤ 4) := Lib.hid (by omega)
          clear hy
          go_upto_region 8 with fail
          have hre : r = ⟨r.f, r.t, 0, r.u, r.c⟩ := by have hl := hok4.2.2.1; cases r; simp only at hl ⊢; rw [hl]
          have HT : Hid (DT V g gn w v l b5 ⟨r.f, r.t, 0, r.u, r.c⟩ w5) := Lib.hid (by rw [← hre]; exact HT5.out)
          clear hre
          have c1 := cell_of_row _ _ 1 _ _ _ (HT.out).hn
          have f1 := frozen_of_row _ _ 1 _ _ (HT.out).hn
          have e0 := cell_of_row _ _ 0 _ _ _ (HT.out).hb
          have e1 := cell_of_row _ _ 1 _ _ _ (HT.out).hb
          have e2 := cell_of_row _ _ 2 _ _ _ (HT.out).hb
          have e3 := cell_of_row _ _ 3 _ _ _ (HT.out).hb
          have e4 := cell_of_row _ _ 4 _ _ _ (HT.out).hb
          have hgl := block_lt_of_cell c1
          have hbl := block_lt_of_cell e0
          have hwl := HT.out.gr.size
          have HOA := Lib.hid (HT.out.own.alloc (.cells (arv ⟨r.f, r.t, 0, r.u, r.c⟩).toArray 46))
          go_wp2_with (at_builtin; refine wpList_append_own _ rfl _ _ _ rfl w.heap.size 46 i0 _ 5 40 Try.underlying23 HI.out HZ0.out HZ1.out HZ2.out rfl (by omega) _ _ _ rfl HOA.out ⟨w5.heap.size, 0, none⟩ 1 1 (arv ⟨r.f, r.t, 0, r.u, r.c⟩) rfl rfl (World.news_of_block (cs := (arv ⟨r.f, r.t, 0, r.u, r.c⟩).toArray) (t := 46) (fr := (0, 0)) (heap_alloc_new w5 _)) (by simp [Value.oneCell']) (by unfold maxLen; omega) (by omega) (by simp; omega) ?_; intro v' w9 hown9 hgrow9 _; obtain ⟨r1, r2, r3⟩ := HT.out.after hgrow9; clear c1 f1 e0 e1 e2 e3 e4; obtain ⟨va, vc, rfl, _⟩ := Cells.of_own hown9)
          have hT9 := HT.out.fin hg hgn hgrow9 hown9
          have hkk : (k : Int) - 1 = ((k - 1 : Nat) : Int) := by omega
          exact ⟨⟨k - 1, l ++ [⟨r.f, r.t, 0, r.u, r.c⟩], _, by rw [hkk], by simp; omega, Lib.hid hT9.1, Lib.hid hT9.2.1, Lib.hid (by rw [List.length_append, arvs_append]; exact hT9.2.2.1), Lib.hid ⟨hT9.2.2.2.1, hT9.2.2.2.2⟩, Lib.hid (fun r' hr' => by
            rw [List.mem_append] at hr'
            rcases hr' with hr' | hr'
            · exact HOKS.out r' hr'
            · rw [List.mem_singleton.1 hr']; exact HOK.out)⟩, by simp [intOf]; omega⟩
    · have hk0 : k = 0 := by omega
      subst hk0
      obtain ⟨va, vc, hv, _⟩ := Cells.of_own HOWN.out
      subst hv
      have s0 := cell_of_row _ _ 0 _ _ _ HN.out
      have s1 := cell_of_row _ _ 1 _ _ _ HN.out
      have t0 := cell_of_row _ _ 0 _ _ _ HR.out
      have t1 := cell_of_row _ _ 1 _ _ _ HR.out
      have t2 := frozen_of_row _ _ 0 _ _ HR.out
      have t3 := frozen_of_row _ _ 1 _ _ HR.out
      have hsz1 := block_lt_of_cell s0
      have hsz2 := block_lt_of_cell t0
      clear hk
      have HFIN : Hid (NetPost g w (.returned (.agg #[.int .i64 (V : Int), .slice va l.length vc])) ((w3.setCell ⟨w.heap.size, 0, none⟩ (.int .i64 (V : Int))).setCell ⟨w.heap.size, 1, none⟩ (.slice va l.length vc))) := Lib.hid (by
        have g1 := grownBy_set w3 w.heap.size 0 (.int .i64 (V : Int))
        have g2 := grownBy_set (w3.setCell ⟨w.heap.size, 0, none⟩ (.int .i64 (V : Int))) w.heap.size 1 (.slice va l.length vc)
        have h1 := heap_setCell_same w3 w.heap.size 0 _ _ (.int .i64 (V : Int)) HR.out
        have hg3 := grownBy_trans g1 g2
        exact ⟨V, l, _, rfl, ⟨hV1, hV5, by omega, fun r hr => HOKS.out r hr⟩, HOWN.out.kept hg3 (own_row_is HOWN.out HR.out (by decide)), HC2.out.1.grown hg3 (fun k hk => by injection hk with hk; omega), grownBy_own HC2.out.2 hg3 (fun k hk => by injection hk with hk; omega)⟩)
      go_wp2_with fail
      exact bodyPost_ret (v := .agg #[.int .i64 (V : Int), .slice va l.length vc]) (by simp [results, Try.results12, go_sem, *]) rfl HFIN.out
end Go.Proofs.Ythoehobofdeifaa
