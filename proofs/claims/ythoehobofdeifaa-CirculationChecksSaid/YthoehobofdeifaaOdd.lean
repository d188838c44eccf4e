/-
  WALK of warmpathdice.OddNetwork: a network of any numbers. (Filled in from a template of this repo.)
-/
import Derived.Test.YthoehobofdeifaaDrN
import Derived.Test.YthoehobofdeifaaCirA
import Derived.Test.YthoehobofdeifaaDrawInt
import Derived.Test.YthoehobofdeifaaScP
namespace Go.Proofs.Ythoehobofdeifaa
open Go.ChangeShapes Go.WideShapes Go.ChangeAt Go.RowKit
set_option linter.unusedVariables false
set_option linter.unusedSimpArgs false

theorem arvs_ones (l : List Ar) : ∀ u ∈ arvs l, u.oneCell' = true := by
  intro u hu
  unfold arvs at hu
  rw [List.mem_flatMap] at hu
  obtain ⟨s, _, hs⟩ := hu
  simp at hs
  rcases hs with rfl | rfl | rfl | rfl | rfl <;> rfl
/-- the fields of an arc of any numbers -/
def rfd (r : Ra) (t : Nat) : Value := if t = 0 then .int .i64 r.f else if t = 1 then .int .i64 r.t else if t = 2 then .int .i64 r.l else if t = 3 then .int .i64 r.u else .int .i64 r.c
def Ar.ra (r : Ar) : Ra := ⟨(r.f : Int), (r.t : Int), r.l, r.u, r.c⟩
/-- block g begins with n arcs of any numbers -/
def RRow (w : World) (g n : Nat) (A : Nat → Ra) : Prop := ∃ cur, w.heap[g]? = some (.cells cur 46 (0, 0)) ∧ ∀ j, j < n → ∀ t, t < 5 → cur[j * 5 + t]? = some (rfd (A j) t)
theorem RRow.cell {w : World} {g n : Nat} {A : Nat → Ra} (h : RRow w g n A) {j t : Nat} (hj : j < n) (ht : t < 5) : w.cell? ⟨g, j * 5 + t, none⟩ = some (rfd (A j) t) := by
  obtain ⟨cur, h1, h2⟩ := h
  rw [cell_of_row _ _ _ _ _ _ h1]; exact h2 j hj t ht
theorem RRow.frozen {w : World} {g n : Nat} {A : Nat → Ra} (h : RRow w g n A) (o : Nat) : w.frozen? ⟨g, o, none⟩ = false := by
  obtain ⟨cur, h1, _⟩ := h
  exact frozen_of_row _ _ _ _ _ h1
theorem RRow.lt {w : World} {g n : Nat} {A : Nat → Ra} (h : RRow w g n A) : g < w.heap.size := by
  obtain ⟨cur, h1, _⟩ := h
  exact heap_lt h1
theorem RRow.keep {w w' : World} {g n : Nat} {A : Nat → Ra} (h : RRow w g n A) (hk : w'.heap[g]? = w.heap[g]?) : RRow w' g n A := by
  obtain ⟨cur, h1, h2⟩ := h
  exact ⟨cur, hk.trans h1, h2⟩
theorem RRow.set {w : World} {g n : Nat} {A B : Nat → Ra} (h : RRow w g n A) {i t : Nat} (hi : i < n) (ht : t < 5) (v : Value) (h1 : rfd (B i) t = v) (h2 : ∀ s, s < 5 → s ≠ t → rfd (B i) s = rfd (A i) s) (h3 : ∀ j, j ≠ i → B j = A j) : RRow (w.setCell ⟨g, i * 5 + t, none⟩ v) g n B := by
  obtain ⟨cur, k1, k2⟩ := h
  refine ⟨_, heap_setCell_same w g (i * 5 + t) cur _ v k1, fun j hj s hs => ?_⟩
  rw [Array.getElem?_setIfInBounds]
  have hsz : i * 5 + t < cur.size := by have := k2 i hi t ht; exact (Array.getElem?_eq_some_iff.1 this).1
  by_cases e : j = i
  · subst e
    by_cases e2 : s = t
    · subst e2; rw [if_pos rfl, if_pos hsz, h1]
    · rw [if_neg (by omega), h2 s hs e2]; exact k2 j hj s hs
  · rw [if_neg (by omega), h3 j e]; exact k2 j hj s hs
theorem RRow.ra {w : World} {g n : Nat} {A : Nat → Ra} (h : RRow w g n A) : RA w (some ⟨g, 0, none⟩) n A := fun i hi => by
  have c := fun t ht => h.cell (j := i) (t := t) hi ht
  refine ⟨g, 0, rfl, h.lt, ?_, ?_, ?_, ?_, ?_⟩
  · rw [Nat.zero_add]; exact c 0 (by omega)
  · rw [Nat.zero_add]; exact c 1 (by omega)
  · rw [Nat.zero_add]; exact c 2 (by omega)
  · rw [Nat.zero_add]; exact c 3 (by omega)
  · rw [Nat.zero_add]; exact c 4 (by omega)
theorem RRow.of_own {w : World} {base : Nat} {v : Value} {l : List Ar} (h : w.ownsRow base 46 5 v l.length (arvs l)) (hl : 0 < l.length) : ∃ g cap, v = .slice (some ⟨g, 0, none⟩) l.length cap ∧ base ≤ g ∧ l.length ≤ cap ∧ RRow w g l.length (fun j => (l.getD j default).ra) := by
  obtain ⟨g, cap, e, h1, h2, cur, h3, h4⟩ := ARow.of_own h hl
  exact ⟨g, cap, e, h1, h2, cur, h3, fun j hj t ht => by rw [h4 j hj t ht]; rfl⟩
/-- one field changed -/
def Ra.put (r : Ra) (t : Nat) (x : Int) : Ra := ⟨if t = 0 then x else r.f, if t = 1 then x else r.t, if t = 2 then x else r.l, if t = 3 then x else r.u, if t = 4 then x else r.c⟩
theorem RRow.put {w : World} {g n : Nat} {A : Nat → Ra} (h : RRow w g n A) {i t : Nat} (hi : i < n) (ht : t < 5) (x : Int) : RRow (w.setCell ⟨g, i * 5 + t, none⟩ (.int .i64 x)) g n (upd A i ((A i).put t x)) := by
  refine h.set hi ht _ ?_ (fun s hs hne => ?_) (fun j hj => upd_other _ _ hj)
  · rw [upd_same]
    have : t = 0 ∨ t = 1 ∨ t = 2 ∨ t = 3 ∨ t = 4 := by omega
    rcases this with rfl | rfl | rfl | rfl | rfl <;> rfl
  · rw [upd_same]
    have h1 : t = 0 ∨ t = 1 ∨ t = 2 ∨ t = 3 ∨ t = 4 := by omega
    have h2 : s = 0 ∨ s = 1 ∨ s = 2 ∨ s = 3 ∨ s = 4 := by omega
    rcases h1 with rfl | rfl | rfl | rfl | rfl <;> rcases h2 with rfl | rfl | rfl | rfl | rfl <;> first | rfl | exact absurd rfl hne
/-- what OddNetwork leaves -/
def OddPost (g : Nat) (w : World) (e : Ending) (w' : World) : Prop := ∃ (R : Rw) (a : Option Addr) (ca : Nat), e = .returned (R.val a ca) ∧ R.m ≤ 9 ∧ RA w' a R.m R.A ∧ (∀ x, a = some x → w.heap.size ≤ x.block) ∧ Cod w' g ∧ w.grownBy w' (some g)
/-- the worlds of OddNetwork -/
structure OW (g gn gr V : Nat) (l : List Ar) (v : Value) (w0 w : World) : Prop where
  hn : w.heap[gn]? = some (.cells #[.int .i64 (V : Int), v] 25 (0, 0))
  hr : w.heap[gr]? = some (.cells #[.int .i64 0, .slice none 0 0] 25 (0, 0))
  own : w.ownsRow w0.heap.size 46 5 v l.length (arvs l)
  cod : Cod w g
  gr' : w0.grownBy w (some g)
  lo : w0.heap.size ≤ gn ∧ w0.heap.size ≤ gr ∧ g < w0.heap.size ∧ gn ≠ gr
theorem OW.next {g gn gr V : Nat} {l : List Ar} {v : Value} {w0 w w' : World} (h : OW g gn gr V l v w0 w) (hc : Cod w' g) (hg : w.grownBy w' (some g)) : OW g gn gr V l v w0 w' := by
  obtain ⟨l1, l2, l3, l4⟩ := h.lo
  exact ⟨(hg.block gn (heap_lt h.hn) (fun e => by injection e with e; omega)).trans h.hn, (hg.block gr (heap_lt h.hr) (fun e => by injection e with e; omega)).trans h.hr, h.own.kept hg (own_row_ne h.own l3), hc, grownBy_trans h.gr' hg, h.lo⟩
/-- the network that is given back, whatever its numbers -/
structure OZ (g gn gr : Nat) (V : Int) (va : Option Addr) (n vc : Nat) (A : Nat → Ra) (w0 w : World) : Prop where
  hn : w.heap[gn]? = some (.cells #[.int .i64 V, .slice va n vc] 25 (0, 0))
  hr : w.heap[gr]? = some (.cells #[.int .i64 0, .slice none 0 0] 25 (0, 0))
  ra : RA w va n A
  far : ∀ x, va = some x → w0.heap.size ≤ x.block ∧ x.block ≠ gn ∧ x.block ≠ gr
  cod : Cod w g
  gr' : w0.grownBy w (some g)
  lo : w0.heap.size ≤ gn ∧ w0.heap.size ≤ gr ∧ g < w0.heap.size ∧ gn ≠ gr
theorem OW.far {g gn gr V : Nat} {l : List Ar} {va : Option Addr} {vc : Nat} {w0 w : World} (h : OW g gn gr V l (.slice va l.length vc) w0 w) : ∀ x, va = some x → w0.heap.size ≤ x.block ∧ x.block ≠ gn ∧ x.block ≠ gr := fun x hx => by
  subst hx
  have h1 := h.own.lt x.block rfl
  exact ⟨h1.1, fun e => own_type_ne h.own h.hn (by decide) (by rw [← e]; rfl), fun e => own_type_ne h.own h.hr (by decide) (by rw [← e]; rfl)⟩
theorem OW.ra {g gn gr V : Nat} {l : List Ar} {va : Option Addr} {vc : Nat} {w0 w : World} (h : OW g gn gr V l (.slice va l.length vc) w0 w) : RA w va l.length (fun j => (l.getD j default).ra) := by
  by_cases h0 : 0 < l.length
  · obtain ⟨gq, cap, e, _, _, hr⟩ := RRow.of_own h.own h0
    injection e with e1 e2 e3
    rw [e1]
    exact hr.ra
  · exact fun i hi => absurd hi (by omega)
theorem OW.oz {g gn gr V : Nat} {l : List Ar} {va : Option Addr} {vc : Nat} {w0 w : World} (h : OW g gn gr V l (.slice va l.length vc) w0 w) : OZ g gn gr (V : Int) va l.length vc (fun j => (l.getD j default).ra) w0 w :=
  ⟨h.hn, h.hr, h.ra, h.far, h.cod, h.gr', h.lo⟩
theorem OZ.next {g gn gr n vc : Nat} {V : Int} {va : Option Addr} {A : Nat → Ra} {w0 w w' : World} (h : OZ g gn gr V va n vc A w0 w) (hc : Cod w' g) (hg : w.grownBy w' (some g)) : OZ g gn gr V va n vc A w0 w' := by
  obtain ⟨l1, l2, l3, l4⟩ := h.lo
  exact ⟨(hg.block gn (heap_lt h.hn) (fun e => by injection e with e; omega)).trans h.hn, (hg.block gr (heap_lt h.hr) (fun e => by injection e with e; omega)).trans h.hr, h.ra.kp (Kp.of_grown (X := [g]) hg (.inl (by simp))) (fun _ x hx => by have := (h.far x hx).1; simp; omega), h.far, hc, grownBy_trans h.gr' hg, h.lo⟩
theorem OZ.vert {g gn gr n vc : Nat} {V : Int} {va : Option Addr} {A : Nat → Ra} {w0 w : World} (h : OZ g gn gr V va n vc A w0 w) (x : Int) : OZ g gn gr x va n vc A w0 (w.setCell ⟨gn, 0, none⟩ (.int .i64 x)) := by
  obtain ⟨l1, l2, l3, l4⟩ := h.lo
  exact ⟨heap_setCell_same w gn 0 _ _ _ h.hn, (heap_setCell_other _ ⟨gn, 0, none⟩ _ _ l4.symm).trans h.hr, h.ra.kp (X := [gn]) ((Kp.refl _ _).setCell _ _ (.inl (by simp))) (fun _ y hy => by have := (h.far y hy).2.1; simpa using this), h.far, h.cod.setCell (by show g < gn; omega) _, grownBy_own h.gr' (grownBy_set w gn 0 _) (fun k hk => by injection hk with hk; omega), h.lo⟩
theorem OZ.fin {g gn gr n vc : Nat} {V : Int} {va : Option Addr} {A : Nat → Ra} {w0 w : World} (h : OZ g gn gr V va n vc A w0 w) (hn : n ≤ 9) : OddPost g w0 (.returned (.agg #[.int .i64 V, .slice va n vc])) ((w.setCell ⟨gr, 0, none⟩ (.int .i64 V)).setCell ⟨gr, 1, none⟩ (.slice va n vc)) := by
  obtain ⟨l1, l2, l3, l4⟩ := h.lo
  have g1 := grownBy_trans (grownBy_set w gr 0 (.int .i64 V)) (grownBy_set (w.setCell ⟨gr, 0, none⟩ (.int .i64 V)) gr 1 (.slice va n vc))
  exact ⟨⟨V, n, A⟩, va, vc, rfl, hn, h.ra.kp (Kp.of_grown (X := [gr]) g1 (.inl (by simp))) (fun _ x hx => by have := (h.far x hx).2.2; simpa using this), fun x hx => (h.far x hx).1, h.cod.grown g1 (fun k hk => by injection hk with hk; omega), grownBy_own h.gr' g1 (fun k hk => by injection hk with hk; omega)⟩
/-- an arc changes -/
theorem OZ.put {g gn gr gq n vc : Nat} {V : Int} {A : Nat → Ra} {w0 w : World} (h : OZ g gn gr V (some ⟨gq, 0, none⟩) n vc A w0 w) (hr : RRow w gq n A) {i t : Nat} (hi : i < n) (ht : t < 5) (x : Int) :
    OZ g gn gr V (some ⟨gq, 0, none⟩) n vc (upd A i ((A i).put t x)) w0 (w.setCell ⟨gq, i * 5 + t, none⟩ (.int .i64 x)) := by
  obtain ⟨l1, l2, l3, l4⟩ := h.lo
  have hf : w0.heap.size ≤ gq ∧ gq ≠ gn ∧ gq ≠ gr := h.far _ rfl
  obtain ⟨f1, f2, f3⟩ := hf
  exact ⟨(heap_setCell_other _ ⟨gq, _, none⟩ _ _ f2.symm).trans h.hn, (heap_setCell_other _ ⟨gq, _, none⟩ _ _ f3.symm).trans h.hr, (hr.put hi ht x).ra, h.far, h.cod.setCell (by show g < gq; omega) _, grownBy_own h.gr' (grownBy_set w gq _ _) (fun k hk => by injection hk with hk; omega), h.lo⟩
set_option maxRecDepth 100000 in
set_option maxHeartbeats 4000000 in
theorem OddNetwork_any (g V : Nat) (l : List Ar) (hl : l.length ≤ 9) (av : Option Addr) (cv : Nat) (hlc : l.length ≤ cv) (hnil : av = none → cv = 0) (w : World) (h : Cod w g) (hcell : Cells w av (arvs l)) :
    Calls Try.prog 13 #[.pointer (some ⟨g, 0, none⟩), .agg #[.int .i64 (V : Int), .slice av l.length cv]] w (OddPost g w) := by
  have hgl := h.lt
  have HC := Lib.hid h
  have HCE : Hid (∀ W, Below w.heap.size w W → Cells W av (arvs l)) := Lib.hid (fun W hW => hcell.below hW)
  obtain ⟨i0, hi0, hz0, hz1, hz2⟩ := info_parts Try.infoArc
  have HI := Lib.hid hi0
  have HZ0 := Lib.hid hz0
  have HZ1 := Lib.hid hz1
  have HZ2 := Lib.hid hz2
  have HNIL := Lib.hid hnil
  have HLEN : Hid ((arvs l).length = l.length * 5) := Lib.hid (arvs_len l)
  clear h hi0 hz0 hz1 hz2 hcell hnil
  have hb0 : Below w.heap.size w ((w.alloc (.cells #[.int .i64 (V : Int), .slice av l.length cv] 25)).alloc (.cells #[.int .i64 0, .slice none 0 0] 25)) := ((Below.refl _ _).alloc (Nat.le_refl _) _).alloc (by simp) _
  have HCE2 := Lib.hid (HCE.out _ hb0)
  have HB0 := Lib.hid hb0
  clear hb0
  go_enter Try.func13, Try.ntmps13
  go_upto_region 2 with (at_builtin; refine wpList_append_src rfl _ _ _ rfl w.heap.size 46 i0 _ 5 40 Try.underlying23 HI.out HZ0.out HZ1.out HZ2.out rfl (by omega) (.slice none 0 0) 0 [] rfl (World.ownsRow_nil _ _ _ _) av l.length cv (arvs l) rfl hlc HNIL.out HLEN.out HCE2.out (arvs_ones l) (by unfold maxLen; omega) (by omega) (by simp; omega) ?_; intro v1 w1 hown1 hgr1; simp only [Nat.zero_add, List.nil_append] at hown1; obtain ⟨va, vc, rfl, hvo⟩ := Cells.of_own hown1; clear hvo; have hN1 : w1.heap[w.heap.size]? = some (.cells #[.int .i64 (V : Int), .slice av l.length cv] 25 (0, 0)) := (hgr1.block w.heap.size (by simp; omega) (by simp [Value.ownBlock])).trans ((Below.heap_alloc _ _ w.heap.size (by simp)).trans (heap_alloc_new w _)); have hR1 : w1.heap[w.heap.size + 1]? = some (.cells #[.int .i64 0, .slice none 0 0] 25 (0, 0)) := (hgr1.block (w.heap.size + 1) (by simp) (by simp [Value.ownBlock])).trans (blk_new _ _ (by simp)); have f1 := frozen_of_row _ _ 1 _ _ hN1; have f2 := cell_of_row _ _ 1 _ _ _ hN1; have f3 := heap_lt hN1; have HN1 := Lib.hid hN1; have HR1 := Lib.hid hR1; have HOWN1 := Lib.hid hown1; have HGR1 := Lib.hid hgr1; clear hN1 hR1 hown1 hgr1)
  have HW2 : Hid (OW g w.heap.size (w.heap.size + 1) V l (.slice va l.length vc) w (w1.setCell ⟨w.heap.size, 1, none⟩ (.slice va l.length vc))) := Lib.hid (by
    have hg0 : w.grownBy ((w.alloc (.cells #[.int .i64 (V : Int), .slice av l.length cv] 25)).alloc (.cells #[.int .i64 0, .slice none 0 0] 25)) (some g) := grownBy_trans (World.grownBy_alloc w _ (some g)) (World.grownBy_alloc _ _ (some g))
    have hg1 : w.grownBy w1 (some g) := grownBy_trans hg0 ⟨HGR1.out.os, HGR1.out.tape, HGR1.out.output, HGR1.out.size, fun k hk _ => HGR1.out.block k hk (by simp [Value.ownBlock])⟩
    have hg2 := grownBy_set w1 w.heap.size 1 (.slice va l.length vc)
    refine ⟨heap_setCell_same w1 w.heap.size 1 _ _ (.slice va l.length vc) HN1.out, (heap_setCell_other _ ⟨w.heap.size, 1, none⟩ _ _ (by simp)).trans HR1.out, HOWN1.out.kept hg2 (own_row_is HOWN1.out HN1.out (by decide)), ?_, grownBy_own hg1 hg2 (fun k hk => by injection hk with hk; omega), by omega⟩
    exact (HC.out.keep (fun k hk => (HGR1.out.block k (by simp; omega) (by simp [Value.ownBlock])).trans ((Below.heap_alloc _ _ k (by simp; omega)).trans (Below.heap_alloc w _ k (by omega))))).setCell (by show g < w.heap.size; exact hgl) _)
  obtain ⟨w2, hw2⟩ : ∃ w2, (w1.setCell ⟨w.heap.size, 1, none⟩ (.slice va l.length vc)) = w2 := ⟨_, rfl⟩
  rw [hw2] at HW2 ⊢
  obtain ⟨gn, hgn⟩ : ∃ gn, w.heap.size = gn := ⟨_, rfl⟩
  rw [hgn] at HW2 ⊢
  obtain ⟨gr, hgr⟩ : ∃ gr, gn + 1 = gr := ⟨_, rfl⟩
  rw [hgr] at HW2 ⊢
  clear hw2 hgn hgr f1 f2 f3 HN1 HR1 HOWN1 HGR1 HCE HCE2 HB0 HC HNIL HLEN HI HZ0 HZ1 HZ2
  clear w1
  have c0 := cell_of_row _ _ 0 _ _ _ HW2.out.hn
  have c1 := cell_of_row _ _ 1 _ _ _ HW2.out.hn
  have cl := heap_lt HW2.out.hn
  go_cut [18] from 10 to 18 (fun c wx => ∃ z : Bool, c = .bool z ∧ Hid ((z = false → 0 < l.length) ∧ OW g gn gr V l (.slice va l.length vc) w wx))
  case first =>
    by_cases h0 : l.length = 0
    · have d0 : ((l.length : Int) == 0) = true := by rw [h0]; rfl
      have HQ : Hid (∀ n, OW g gn gr V l (.slice va l.length vc) w (w2.drewN n)) := Lib.hid (fun n => HW2.out.next (HW2.out.cod) (grownBy_drewN _ _ _))
      clear h0
      go_wp2_with fail
      go_meet
      exact ⟨true, rfl, Lib.hid ⟨fun h => (by cases h), HW2.out⟩⟩
    · have d0 : ((l.length : Int) == 0) = false := by rw [beq_eq_false_iff_ne]; omega
      go_wp2_with fail
      refine (Next_any g 7 (by omega) _ HW2.out.cod).mono ?_
      rintro e w3 ⟨k, rfl, k0, k1, hc3, hg3⟩
      have HW3 := Lib.hid (HW2.out.next hc3 hg3)
      clear hc3 hg3 c0 c1 cl k0 k1
      go_wp2_with fail
      go_meet
      exact ⟨_, rfl, Lib.hid ⟨fun _ => by omega, HW3.out⟩⟩
  case rest =>
    obtain ⟨z, rfl, HZ⟩ := hcut
    clear c0 c1 cl HW2
    cases z
    · have h0 := HZ.out.1 rfl
      obtain ⟨gq, cq, e, hbq, _, hrq⟩ := RRow.of_own HZ.out.2.own h0
      injection e with e1 e2 e3
      subst e1 e3
      have HX := Lib.hid HZ.out.2.oz
      have HRQ := Lib.hid hrq
      have c1 := cell_of_row _ _ 1 _ _ _ HX.out.hn
      have cl := heap_lt HX.out.hn
      obtain ⟨f1, f2, f3⟩ := HX.out.far _ rfl
      obtain ⟨l1, l2, l3, l4⟩ := HX.out.lo
      simp only at f1 f2 f3
      have hgq : gq ≠ g := by omega
      clear hrq HZ e2
      go_wp2_with fail
      refine wp_region_held_drew (S := (fun w' => w'.cell? ⟨gn, 1, none⟩ = some (.slice (some ⟨gq, 0, none⟩) l.length vc))) (by kernel_rfl) c1 (fun hHeld => ?_)
      refine wpAnyH_take (i := 0) (v := ?_) rfl (by kernel_rfl) (by kernel_rfl) (by kernel_rfl) (fun _ _ _ h => h) (Or.inl ⟨by rfl, ?_⟩) (by assumption) ?_
      rotate_left
      · (intro w hSw; (try dsimp only at hSw); go_simp; try with_reducible rfl)
      (try simp only [Act.put, List.setIfInBounds_toArray, List.set_cons_zero, List.set_cons_succ])
      refine wpAnyH_take (i := 1) (v := ?_) rfl (by kernel_rfl) (by kernel_rfl) (by kernel_rfl) (fun _ _ _ h => h) (Or.inl ⟨by rfl, ?_⟩) (by assumption) ?_
      rotate_left
      · (intro w hSw; (try dsimp only at hSw); go_simp; try with_reducible rfl)
      (try simp only [Act.put, List.setIfInBounds_toArray, List.set_cons_zero, List.set_cons_succ])
      refine wpAnyH_take (i := 2) (v := ?_) rfl (by kernel_rfl) (by kernel_rfl) (by kernel_rfl) (fun _ _ _ h => h) (Or.inl ⟨by rfl, ?_⟩) (by assumption) ?_
      rotate_left
      · (intro w hSw; (try dsimp only at hSw); go_simp; try with_reducible rfl)
      (try simp only [Act.put, List.setIfInBounds_toArray, List.set_cons_zero, List.set_cons_succ])
      refine wpAnyH_take (i := 3) (v := ?_) rfl (by kernel_rfl) (by kernel_rfl) (by kernel_rfl) (fun _ _ _ h => h) (Or.inl ⟨by rfl, ?_⟩) (by assumption) ?_
      rotate_left
      · (intro w hSw; (try dsimp only at hSw); go_simp; try with_reducible rfl)
      (try simp only [Act.put, List.setIfInBounds_toArray, List.set_cons_zero, List.set_cons_succ])
      refine wpAnyH_take (i := 4) (v := ?_) rfl (by kernel_rfl) (by kernel_rfl) (by kernel_rfl) (fun _ _ _ h => h) (Or.inl ⟨by rfl, ?_⟩) (by assumption) ?_
      rotate_left
      · (intro w hSw; (try dsimp only at hSw); go_simp; try with_reducible rfl)
      (try simp only [Act.put, List.setIfInBounds_toArray, List.set_cons_zero, List.set_cons_succ])
      refine wpAnyH_take (i := 5) (v := ?_) rfl (by kernel_rfl) (by kernel_rfl) (by kernel_rfl) (fun _ _ _ h => h) (Or.inl ⟨by rfl, ?_⟩) (by assumption) ?_
      rotate_left
      · (intro w hSw; (try dsimp only at hSw); go_simp; try with_reducible rfl)
      (try simp only [Act.put, List.setIfInBounds_toArray, List.set_cons_zero, List.set_cons_succ])
      refine wpAnyH_ready (rs := [6]) (by kernel_rfl) (by simp) ?_
      refine AllReadyH.cons rfl (fun K hK => ?_) AllReadyH.nil
      go_simp
      refine (Next_any g _ (by omega) _ (HX.out.next (w' := wc.drew) HX.out.cod ⟨rfl, rfl, rfl, Nat.le_refl _, fun _ _ _ => rfl⟩).cod).mono ?_
      rintro e w3 ⟨k, rfl, k0, k1, hc3, hg3⟩
      have HX3 := Lib.hid ((HX.out.next (w' := wc.drew) HX.out.cod ⟨rfl, rfl, rfl, Nat.le_refl _, fun _ _ _ => rfl⟩).next hc3 hg3)
      have HRQ3 : Hid (RRow w3 gq l.length (fun j => (l.getD j default).ra)) := Lib.hid (HRQ.out.keep (hg3.block gq HRQ.out.lt (fun e => by injection e with e; omega)))
      refine hK.out _ _ (cell_of_row _ _ 1 _ _ _ HX3.out.hn) (fun hHeld => ?_)
      clear hK K hg3 hc3
      (try simp only [Act.put, List.setIfInBounds_toArray, List.set_cons_zero, List.set_cons_succ])
      obtain ⟨k, rfl⟩ := Int.eq_ofNat_of_zero_le k0
      have hkl : k < l.length := by omega
      have hk2 : (k : Int) < (l.length : Int) := by omega
      refine wpAnyH_take (i := 7) (v := ?_) rfl (by kernel_rfl) (by kernel_rfl) (by kernel_rfl) (fun _ _ _ h => h) (Or.inl ⟨by rfl, ?_⟩) (by assumption) ?_
      rotate_left
      · (intro w hSw; (try dsimp only at hSw); go_simp; try with_reducible rfl)
      (try simp only [Act.put, List.setIfInBounds_toArray, List.set_cons_zero, List.set_cons_succ])
      refine wpAnyH_ready (rs := [8]) (by kernel_rfl) (by simp) ?_
      refine AllReadyH.cons rfl (fun K hK => ?_) AllReadyH.nil
      go_simp
      refine hK.out _ _ hHeld (fun hHeld => ?_)
      clear hK K
      (try simp only [Act.put, List.setIfInBounds_toArray, List.set_cons_zero, List.set_cons_succ])
      refine wpAnyH_done (by kernel_rfl) ?_ _
      (try simp only [Act.put, List.setIfInBounds_toArray, List.set_cons_zero, List.set_cons_succ])
      go_wp2_with fail
      refine (Next_any g 5 (by omega) _ HX3.out.cod).mono ?_
      rintro e w4 ⟨y, rfl, y0, y1, hc4, hg4⟩
      have HX4 := Lib.hid (HX3.out.next hc4 hg4)
      have HRQ4 : Hid (RRow w4 gq l.length (fun j => (l.getD j default).ra)) := Lib.hid (HRQ3.out.keep (hg4.block gq HRQ3.out.lt (fun e => by injection e with e; omega)))
      clear hc4 hg4 hHeld HX3 HRQ3 HX HRQ
      have hy : y = 0 ∨ y = 1 ∨ y = 2 ∨ y = 3 ∨ y = 4 := by omega
      clear y0 y1 c1 cl
      rcases hy with rfl | rfl | rfl | rfl | rfl
      · go_wp2_with fail
        refine (Int_any g _ HX4.out.cod).mono ?_
        rintro e w5 ⟨x, rfl, x0, x1, hc5, hg5⟩
        have HX5 := Lib.hid (HX4.out.next hc5 hg5)
        have HRQ5 : Hid (RRow w5 gq l.length (fun j => (l.getD j default).ra)) := Lib.hid (HRQ4.out.keep (hg5.block gq HRQ4.out.lt (fun e => by injection e with e; omega)))
        clear hc5 hg5 HX4 HRQ4
        have q1 : w5.cell? ⟨gq, k * 5, none⟩ = some (.int .i64 (l.getD k default).ra.f) := HRQ5.out.cell hkl (t := 0) (by omega)
        have q2 := HRQ5.out.frozen (k * 5)
        have ql := HRQ5.out.lt
        have HX6 : Hid (OZ g gn gr (V : Int) (some ⟨gq, 0, none⟩) l.length vc (upd (fun j => (l.getD j default).ra) k ((l.getD k default).ra.put 0 x)) w (w5.setCell ⟨gq, k * 5, none⟩ (.int .i64 x))) := Lib.hid (HX5.out.put HRQ5.out hkl (t := 0) (by omega) x)
        go_upto_region 17 with fail
        obtain ⟨w6, hw6⟩ : ∃ w6, (w5.setCell ⟨gq, k * 5, none⟩ (.int .i64 x)) = w6 := ⟨_, rfl⟩
        rw [hw6] at HX6 ⊢
        clear hw6
        have c0 := cell_of_row _ _ 0 _ _ _ HX6.out.hn
        have c1 := cell_of_row _ _ 1 _ _ _ HX6.out.hn
        have cl := heap_lt HX6.out.hn
        have r0 := cell_of_row _ _ 0 _ _ _ HX6.out.hr
        have r1 := cell_of_row _ _ 1 _ _ _ HX6.out.hr
        have r2 := frozen_of_row _ _ 0 _ _ HX6.out.hr
        have r3 := frozen_of_row _ _ 1 _ _ HX6.out.hr
        have rl := heap_lt HX6.out.hr
        have HFIN := Lib.hid (HX6.out.fin hl)
        clear q1 q2 ql
        go_wp2_with fail
        exact bodyPost_ret (v := .agg #[.int .i64 (V : Int), .slice (some ⟨gq, 0, none⟩) l.length vc]) (by simp [results, Try.results13, go_sem, *]) rfl HFIN.out
      · go_wp2_with fail
        refine (Int_any g _ HX4.out.cod).mono ?_
        rintro e w5 ⟨x, rfl, x0, x1, hc5, hg5⟩
        have HX5 := Lib.hid (HX4.out.next hc5 hg5)
        have HRQ5 : Hid (RRow w5 gq l.length (fun j => (l.getD j default).ra)) := Lib.hid (HRQ4.out.keep (hg5.block gq HRQ4.out.lt (fun e => by injection e with e; omega)))
        clear hc5 hg5 HX4 HRQ4
        have q1 : w5.cell? ⟨gq, k * 5 + 1, none⟩ = some (.int .i64 (l.getD k default).ra.t) := HRQ5.out.cell hkl (t := 1) (by omega)
        have q2 := HRQ5.out.frozen (k * 5 + 1)
        have ql := HRQ5.out.lt
        have HX6 : Hid (OZ g gn gr (V : Int) (some ⟨gq, 0, none⟩) l.length vc (upd (fun j => (l.getD j default).ra) k ((l.getD k default).ra.put 1 x)) w (w5.setCell ⟨gq, k * 5 + 1, none⟩ (.int .i64 x))) := Lib.hid (HX5.out.put HRQ5.out hkl (t := 1) (by omega) x)
        go_upto_region 17 with fail
        obtain ⟨w6, hw6⟩ : ∃ w6, (w5.setCell ⟨gq, k * 5 + 1, none⟩ (.int .i64 x)) = w6 := ⟨_, rfl⟩
        rw [hw6] at HX6 ⊢
        clear hw6
        have c0 := cell_of_row _ _ 0 _ _ _ HX6.out.hn
        have c1 := cell_of_row _ _ 1 _ _ _ HX6.out.hn
        have cl := heap_lt HX6.out.hn
        have r0 := cell_of_row _ _ 0 _ _ _ HX6.out.hr
        have r1 := cell_of_row _ _ 1 _ _ _ HX6.out.hr
        have r2 := frozen_of_row _ _ 0 _ _ HX6.out.hr
        have r3 := frozen_of_row _ _ 1 _ _ HX6.out.hr
        have rl := heap_lt HX6.out.hr
        have HFIN := Lib.hid (HX6.out.fin hl)
        clear q1 q2 ql
        go_wp2_with fail
        exact bodyPost_ret (v := .agg #[.int .i64 (V : Int), .slice (some ⟨gq, 0, none⟩) l.length vc]) (by simp [results, Try.results13, go_sem, *]) rfl HFIN.out
      · go_wp2_with fail
        refine (Int_any g _ HX4.out.cod).mono ?_
        rintro e w5 ⟨x, rfl, x0, x1, hc5, hg5⟩
        have HX5 := Lib.hid (HX4.out.next hc5 hg5)
        have HRQ5 : Hid (RRow w5 gq l.length (fun j => (l.getD j default).ra)) := Lib.hid (HRQ4.out.keep (hg5.block gq HRQ4.out.lt (fun e => by injection e with e; omega)))
        clear hc5 hg5 HX4 HRQ4
        have q1 : w5.cell? ⟨gq, k * 5 + 2, none⟩ = some (.int .i64 (l.getD k default).ra.l) := HRQ5.out.cell hkl (t := 2) (by omega)
        have q2 := HRQ5.out.frozen (k * 5 + 2)
        have ql := HRQ5.out.lt
        have HX6 : Hid (OZ g gn gr (V : Int) (some ⟨gq, 0, none⟩) l.length vc (upd (fun j => (l.getD j default).ra) k ((l.getD k default).ra.put 2 x)) w (w5.setCell ⟨gq, k * 5 + 2, none⟩ (.int .i64 x))) := Lib.hid (HX5.out.put HRQ5.out hkl (t := 2) (by omega) x)
        go_upto_region 17 with fail
        obtain ⟨w6, hw6⟩ : ∃ w6, (w5.setCell ⟨gq, k * 5 + 2, none⟩ (.int .i64 x)) = w6 := ⟨_, rfl⟩
        rw [hw6] at HX6 ⊢
        clear hw6
        have c0 := cell_of_row _ _ 0 _ _ _ HX6.out.hn
        have c1 := cell_of_row _ _ 1 _ _ _ HX6.out.hn
        have cl := heap_lt HX6.out.hn
        have r0 := cell_of_row _ _ 0 _ _ _ HX6.out.hr
        have r1 := cell_of_row _ _ 1 _ _ _ HX6.out.hr
        have r2 := frozen_of_row _ _ 0 _ _ HX6.out.hr
        have r3 := frozen_of_row _ _ 1 _ _ HX6.out.hr
        have rl := heap_lt HX6.out.hr
        have HFIN := Lib.hid (HX6.out.fin hl)
        clear q1 q2 ql
        go_wp2_with fail
        exact bodyPost_ret (v := .agg #[.int .i64 (V : Int), .slice (some ⟨gq, 0, none⟩) l.length vc]) (by simp [results, Try.results13, go_sem, *]) rfl HFIN.out
      · go_wp2_with fail
        refine (Int_any g _ HX4.out.cod).mono ?_
        rintro e w5 ⟨x, rfl, x0, x1, hc5, hg5⟩
        have HX5 := Lib.hid (HX4.out.next hc5 hg5)
        have HRQ5 : Hid (RRow w5 gq l.length (fun j => (l.getD j default).ra)) := Lib.hid (HRQ4.out.keep (hg5.block gq HRQ4.out.lt (fun e => by injection e with e; omega)))
        clear hc5 hg5 HX4 HRQ4
        have q1 : w5.cell? ⟨gq, k * 5 + 3, none⟩ = some (.int .i64 (l.getD k default).ra.u) := HRQ5.out.cell hkl (t := 3) (by omega)
        have q2 := HRQ5.out.frozen (k * 5 + 3)
        have ql := HRQ5.out.lt
        have HX6 : Hid (OZ g gn gr (V : Int) (some ⟨gq, 0, none⟩) l.length vc (upd (fun j => (l.getD j default).ra) k ((l.getD k default).ra.put 3 x)) w (w5.setCell ⟨gq, k * 5 + 3, none⟩ (.int .i64 x))) := Lib.hid (HX5.out.put HRQ5.out hkl (t := 3) (by omega) x)
        go_upto_region 17 with fail
        obtain ⟨w6, hw6⟩ : ∃ w6, (w5.setCell ⟨gq, k * 5 + 3, none⟩ (.int .i64 x)) = w6 := ⟨_, rfl⟩
        rw [hw6] at HX6 ⊢
        clear hw6
        have c0 := cell_of_row _ _ 0 _ _ _ HX6.out.hn
        have c1 := cell_of_row _ _ 1 _ _ _ HX6.out.hn
        have cl := heap_lt HX6.out.hn
        have r0 := cell_of_row _ _ 0 _ _ _ HX6.out.hr
        have r1 := cell_of_row _ _ 1 _ _ _ HX6.out.hr
        have r2 := frozen_of_row _ _ 0 _ _ HX6.out.hr
        have r3 := frozen_of_row _ _ 1 _ _ HX6.out.hr
        have rl := heap_lt HX6.out.hr
        have HFIN := Lib.hid (HX6.out.fin hl)
        clear q1 q2 ql
        go_wp2_with fail
        exact bodyPost_ret (v := .agg #[.int .i64 (V : Int), .slice (some ⟨gq, 0, none⟩) l.length vc]) (by simp [results, Try.results13, go_sem, *]) rfl HFIN.out
      · go_wp2_with fail
        refine (Int_any g _ HX4.out.cod).mono ?_
        rintro e w5 ⟨x, rfl, x0, x1, hc5, hg5⟩
        have HX5 := Lib.hid (HX4.out.next hc5 hg5)
        have HRQ5 : Hid (RRow w5 gq l.length (fun j => (l.getD j default).ra)) := Lib.hid (HRQ4.out.keep (hg5.block gq HRQ4.out.lt (fun e => by injection e with e; omega)))
        clear hc5 hg5 HX4 HRQ4
        go_wp2_with fail
        refine (Next_any g 5 (by omega) _ (HX5.out.cod.alloc _)).mono ?_
        rintro e w6 ⟨y, rfl, y0, y1, hc6, hg6⟩
        have hgl6 : g < w5.heap.size := HX5.out.cod.lt
        have HB6 : Hid (w6.heap[w5.heap.size]? = some (.cells #[.int .i64 x, .int .i64 1000, .int .i64 1001, .int .i64 (-1000), .int .i64 (-1001)] 3 (0, 0))) := Lib.hid ((hg6.block w5.heap.size (by simp) (fun e => by injection e with e; omega)).trans (heap_alloc_new w5 _))
        have HX7 := Lib.hid (HX5.out.next hc6 (grownBy_trans (World.grownBy_alloc w5 _ (some g)) hg6))
        have HRQ7 : Hid (RRow w6 gq l.length (fun j => (l.getD j default).ra)) := Lib.hid (HRQ5.out.keep ((grownBy_trans (World.grownBy_alloc w5 _ (some g)) hg6).block gq HRQ5.out.lt (fun e => by injection e with e; omega)))
        have hbl := heap_lt HB6.out
        clear hc6 hg6 HX5 HRQ5
        have q1 : w6.cell? ⟨gq, k * 5 + 4, none⟩ = some (.int .i64 (l.getD k default).ra.c) := HRQ7.out.cell hkl (t := 4) (by omega)
        have q2 := HRQ7.out.frozen (k * 5 + 4)
        have ql := HRQ7.out.lt
        have hy : ∃ v : Int, ∃ n : Nat, y = (n : Int) ∧ n < 5 ∧ w6.cell? ⟨w5.heap.size, n, none⟩ = some (.int .i64 v) := by
          have h : y = 0 ∨ y = 1 ∨ y = 2 ∨ y = 3 ∨ y = 4 := by omega
          rcases h with rfl | rfl | rfl | rfl | rfl
          · exact ⟨_, 0, rfl, by omega, cell_of_row _ _ 0 _ _ _ HB6.out⟩
          · exact ⟨_, 1, rfl, by omega, cell_of_row _ _ 1 _ _ _ HB6.out⟩
          · exact ⟨_, 2, rfl, by omega, cell_of_row _ _ 2 _ _ _ HB6.out⟩
          · exact ⟨_, 3, rfl, by omega, cell_of_row _ _ 3 _ _ _ HB6.out⟩
          · exact ⟨_, 4, rfl, by omega, cell_of_row _ _ 4 _ _ _ HB6.out⟩
        obtain ⟨v, n, rfl, hn5, hcv⟩ := hy
        have HX6 : Hid (OZ g gn gr (V : Int) (some ⟨gq, 0, none⟩) l.length vc (upd (fun j => (l.getD j default).ra) k ((l.getD k default).ra.put 4 v)) w (w6.setCell ⟨gq, k * 5 + 4, none⟩ (.int .i64 v))) := Lib.hid (HX7.out.put HRQ7.out hkl (t := 4) (by omega) v)
        go_upto_region 17 with fail
        obtain ⟨w7, hw7⟩ : ∃ w7, (w6.setCell ⟨gq, k * 5 + 4, none⟩ (.int .i64 v)) = w7 := ⟨_, rfl⟩
        rw [hw7] at HX6 ⊢
        clear hw7 hcv hbl
        have c0 := cell_of_row _ _ 0 _ _ _ HX6.out.hn
        have c1 := cell_of_row _ _ 1 _ _ _ HX6.out.hn
        have cl := heap_lt HX6.out.hn
        have r0 := cell_of_row _ _ 0 _ _ _ HX6.out.hr
        have r1 := cell_of_row _ _ 1 _ _ _ HX6.out.hr
        have r2 := frozen_of_row _ _ 0 _ _ HX6.out.hr
        have r3 := frozen_of_row _ _ 1 _ _ HX6.out.hr
        have rl := heap_lt HX6.out.hr
        have HFIN := Lib.hid (HX6.out.fin hl)
        clear q1 q2 ql
        go_wp2_with fail
        exact bodyPost_ret (v := .agg #[.int .i64 (V : Int), .slice (some ⟨gq, 0, none⟩) l.length vc]) (by simp [results, Try.results13, go_sem, *]) rfl HFIN.out
    · have HR := Lib.hid HZ.out.2
      clear HZ
      go_wp2_with fail
      refine (Int_any g _ HR.out.cod).mono ?_
      rintro e w4 ⟨x, rfl, x0, x1, hc4, hg4⟩
      have HR4 := Lib.hid (HR.out.next hc4 hg4)
      clear hc4 hg4 HR
      have c0 := cell_of_row _ _ 0 _ _ _ HR4.out.hn
      have c1 := cell_of_row _ _ 1 _ _ _ HR4.out.hn
      have cf := frozen_of_row _ _ 0 _ _ HR4.out.hn
      have cl := heap_lt HR4.out.hn
      have r0 := cell_of_row _ _ 0 _ _ _ HR4.out.hr
      have r1 := cell_of_row _ _ 1 _ _ _ HR4.out.hr
      have r2 := frozen_of_row _ _ 0 _ _ HR4.out.hr
      have r3 := frozen_of_row _ _ 1 _ _ HR4.out.hr
      have rl := heap_lt HR4.out.hr
      have ne := HR4.out.lo.2.2.2
      have ne2 := ne.symm
      have HFIN := Lib.hid ((HR4.out.oz.vert x).fin hl)
      go_wp2_with fail
      exact bodyPost_ret (v := .agg #[.int .i64 x, .slice va l.length vc]) (by simp [results, Try.results13, go_sem, *]) rfl HFIN.out
end Go.Proofs.Ythoehobofdeifaa
