/-
  WALK of all, which goes through the circulations of a small network. (Filled in from a template of this repo.)
-/
import Derived.Test.YthoehobofdeifaaAlP
import Derived.Test.YthoehobofdeifaaRFeb
import Derived.Test.YthoehobofdeifaaCirT
import Derived.Test.YthoehobofdeifaaDrN
import Derived.Deep.DeepMust
namespace Go.Proofs.Ythoehobofdeifaa
open Go.ChangeShapes Go.WideShapes Go.ChangeAt Go.RowKit
set_option linter.unusedVariables false
set_option linter.unusedSimpArgs false

/-- what the variable best reads as -/
def BestAt (w : World) (v : Value) (m : Nat) (b : Option (Nat → Int)) : Prop := (b = none ∧ v = .slice none 0 0) ∨ ∃ x g c, b = some x ∧ v = .slice (some ⟨g, 0, none⟩) m c ∧ Rd w (some ⟨g, 0, none⟩) m x ∧ g < w.heap.size
/-- the worlds of all -/
structure LA (N : Nw) (gf gb gc gl : Nat) (w0 : World) (f : Nat → Int) (b : Option (Nat → Int)) (c left : Int) (w : World) : Prop where
  kp : Kp [gf, gb, gc, gl] w0 w
  f : IRow w gf N.m f
  b : ∃ v, w.heap[gb]? = some (.cells #[v] 26 (0, 0)) ∧ BestAt w v N.m b ∧ ∀ k, v.ownBlock = some k → k ≠ gf ∧ k ≠ gb ∧ k ≠ gc ∧ k ≠ gl
  c : w.heap[gc]? = some (.cells #[.int .i64 c] 3 (0, 0))
  l : w.heap[gl]? = some (.cells #[.int .i64 left] 3 (0, 0))
  lt : gf < w0.heap.size ∧ gb < w0.heap.size ∧ gc < w0.heap.size ∧ gl < w0.heap.size
  ne : (gf ≠ gb ∧ gf ≠ gc ∧ gf ≠ gl) ∧ (gb ≠ gc ∧ gb ≠ gl) ∧ gc ≠ gl
theorem Rd.keep1 {w w' : World} {g n : Nat} {x : Nat → Int} (h : Rd w (some ⟨g, 0, none⟩) n x) (hk : w'.heap[g]? = w.heap[g]?) (hs : w.heap.size ≤ w'.heap.size) : Rd w' (some ⟨g, 0, none⟩) n x := fun j hj => by
  obtain ⟨b, off, e, hb, hc⟩ := h j hj
  injection e with e
  injection e with e1 e2
  subst e1 e2
  exact ⟨g, 0, rfl, by omega, (World.cell?_of_block (a := ⟨g, 0 + j, none⟩) hk).trans hc⟩
theorem BestAt.keep {w w' : World} {v : Value} {m : Nat} {b : Option (Nat → Int)} (h : BestAt w v m b) (hk : ∀ k, v.ownBlock = some k → k < w.heap.size → w'.heap[k]? = w.heap[k]?) (hs : w.heap.size ≤ w'.heap.size) : BestAt w' v m b := by
  rcases h with h | ⟨x, g, c, h1, h2, h3, h5⟩
  · exact .inl h
  · exact .inr ⟨x, g, c, h1, h2, h3.keep1 (hk g (by rw [h2]; rfl) h5) hs, by omega⟩
section
variable {N : Nw} {gf gb gc gl : Nat} {w0 w w' : World} {f : Nat → Int} {b : Option (Nat → Int)} {c left : Int}
theorem LA.more (h : LA N gf gb gc gl w0 f b c left w) (hb : Below w.heap.size w w') : LA N gf gb gc gl w0 f b c left w' := by
  obtain ⟨v, h1, h2, h3⟩ := h.b
  exact ⟨h.kp.trans ((Kp.of_below (X := []) hb).mono (by simp)), VRow.below h.f hb h.f.lt, ⟨v, (hb.block gb (heap_lt h1)).trans h1, h2.keep (fun k _ hk => hb.block k hk) hb.size, h3⟩, (hb.block gc (heap_lt h.c)).trans h.c, (hb.block gl (heap_lt h.l)).trans h.l, h.lt, h.ne⟩
theorem LA.putf (h : LA N gf gb gc gl w0 f b c left w) (i : Nat) (x : Int) : LA N gf gb gc gl w0 (upd f i x) b c left (w.setCell ⟨gf, i, none⟩ (.int .i64 x)) := by
  obtain ⟨v, h1, h2, h3⟩ := h.b
  obtain ⟨⟨n1, n2, n3⟩, ⟨n4, n5⟩, n6⟩ := h.ne
  have ho : ∀ k, k ≠ gf → (w.setCell ⟨gf, i, none⟩ (.int .i64 x)).heap[k]? = w.heap[k]? := fun k hk => heap_setCell_other _ ⟨gf, i, none⟩ _ _ hk
  exact ⟨h.kp.setCell _ _ (.inl (by simp)), IRow.set h.f i x (upd_same _ _ _) (fun j hj => upd_other _ _ hj), ⟨v, (ho gb n1.symm).trans h1, h2.keep (fun k hk _ => ho k (h3 k hk).1) (by simp [World.setCell]), h3⟩, (ho gc n2.symm).trans h.c, (ho gl n3.symm).trans h.l, h.lt, h.ne⟩
theorem LA.putl (h : LA N gf gb gc gl w0 f b c left w) (x : Int) : LA N gf gb gc gl w0 f b c x (w.setCell ⟨gl, 0, none⟩ (.int .i64 x)) := by
  obtain ⟨v, h1, h2, h3⟩ := h.b
  obtain ⟨⟨n1, n2, n3⟩, ⟨n4, n5⟩, n6⟩ := h.ne
  have ho : ∀ k, k ≠ gl → (w.setCell ⟨gl, 0, none⟩ (.int .i64 x)).heap[k]? = w.heap[k]? := fun k hk => heap_setCell_other _ ⟨gl, 0, none⟩ _ _ hk
  exact ⟨h.kp.setCell _ _ (.inl (by simp)), VRow.keep h.f (ho gf n3), ⟨v, (ho gb n5).trans h1, h2.keep (fun k hk _ => ho k (h3 k hk).2.2.2) (by simp [World.setCell]), h3⟩, (ho gc n6).trans h.c, heap_setCell_same w gl 0 _ _ _ h.l, h.lt, h.ne⟩
end
theorem LA.base {N : Nw} {gf gb gc gl : Nat} {w0 w w' : World} {f f' : Nat → Int} {b b' : Option (Nat → Int)} {c c' left left' : Int} (h : LA N gf gb gc gl w0 f b c left w) (h' : LA N gf gb gc gl w f' b' c' left' w') : LA N gf gb gc gl w0 f' b' c' left' w' :=
  ⟨h.kp.trans h'.kp, h'.f, h'.b, h'.c, h'.l, h.lt, h.ne⟩
theorem LA.self {N : Nw} {gf gb gc gl : Nat} {w0 w : World} {f : Nat → Int} {b : Option (Nat → Int)} {c left : Int} (h : LA N gf gb gc gl w0 f b c left w) : LA N gf gb gc gl w f b c left w :=
  ⟨Kp.refl _ _, h.f, h.b, h.c, h.l, by have := h.kp.size; have := h.lt; omega, h.ne⟩
theorem LA.flow {N : Nw} {gf gb gc gl : Nat} {w0 w : World} {f : Nat → Int} {b : Option (Nat → Int)} {c left : Int} (h : LA N gf gb gc gl w0 f b c left w) {i : Nat} {x : Int} (hx : x = f i) : upd f i x = f := by
  funext j; subst hx
  by_cases e : j = i
  · subst e; rw [upd_same]
  · rw [upd_other _ _ e]
/-- a new best -/
theorem LA.best {N : Nw} {gf gb gc gl : Nat} {w0 w w1 : World} {f : Nat → Int} {b : Option (Nat → Int)} {c left : Int} (h : LA N gf gb gc gl w0 f b c left w) (hb : Below w.heap.size w w1) {g c1 : Nat} (hg : w.heap.size ≤ g) (hgl : g < w1.heap.size) (hr : Rd w1 (some ⟨g, 0, none⟩) N.m f) (x : Int) :
    LA N gf gb gc gl w0 f (some f) x left ((w1.setCell ⟨gb, 0, none⟩ (.slice (some ⟨g, 0, none⟩) N.m c1)).setCell ⟨gc, 0, none⟩ (.int .i64 x)) := by
  have h1 := h.more hb
  obtain ⟨v, h2, h3, h4⟩ := h1.b
  obtain ⟨⟨n1, n2, n3⟩, ⟨n4, n5⟩, n6⟩ := h.ne
  obtain ⟨m1, m2, m3, m4⟩ := h.lt
  have hs := h.kp.size
  have ho : ∀ k, k ≠ gb → k ≠ gc → ((w1.setCell ⟨gb, 0, none⟩ (.slice (some ⟨g, 0, none⟩) N.m c1)).setCell ⟨gc, 0, none⟩ (.int .i64 x)).heap[k]? = w1.heap[k]? := fun k hk hk2 => (heap_setCell_other _ ⟨gc, 0, none⟩ _ _ hk2).trans (heap_setCell_other _ ⟨gb, 0, none⟩ _ _ hk)
  refine ⟨(h1.kp.setCell _ _ (.inl (by simp))).setCell _ _ (.inl (by simp)), VRow.keep h1.f (ho gf n1 n2), ⟨_, (heap_setCell_other _ ⟨gc, 0, none⟩ _ _ n4).trans (heap_setCell_same w1 gb 0 _ _ _ h2), .inr ⟨f, g, c1, rfl, rfl, hr.keep1 (ho g (by omega) (by omega)) (by simp [World.setCell]), by simpa [World.setCell] using hgl⟩, fun k hk => by
    injection hk with hk
    have : g = k := hk
    omega⟩, heap_setCell_same _ gc 0 _ _ _ ((heap_setCell_other _ ⟨gb, 0, none⟩ _ _ n4.symm).trans h1.c), (ho gl n5.symm n6.symm).trans h1.l, h.lt, h.ne⟩
theorem LA.newb {N : Nw} {gf gb gc gl : Nat} {w0 w w4 : World} {f : Nat → Int} {b : Option (Nat → Int)} {c left : Int} (h : LA N gf gb gc gl w0 f b c left w) {g2 c2 n : Nat} (hn : n = N.m)
    (hown : w4.ownsRow w.heap.size 3 1 (.slice (some ⟨g2, 0, none⟩) n c2) n (vrow N.m fun j => .int .i64 (f j)).toList) (hgrow : (w.alloc (.cells #[] 3)).grownBy w4 (some w.heap.size)) (x : Int) :
    LA N gf gb gc gl w0 f (some f) x left ((w4.setCell ⟨gb, 0, none⟩ (.slice (some ⟨g2, 0, none⟩) n c2)).setCell ⟨gc, 0, none⟩ (.int .i64 x)) := by
  subst hn
  have hb0 : Below w.heap.size w (w.alloc (.cells #[] 3)) := (Below.refl _ _).alloc (Nat.le_refl _) _
  have hb : Below w.heap.size w w4 := ⟨hgrow.os.trans hb0.os, hgrow.tape.trans hb0.tape, hgrow.output.trans hb0.output, Nat.le_trans hb0.size hgrow.size, fun k hk => (hgrow.block k (by have := hb0.size; omega) (fun e => by injection e with e; omega)).trans (hb0.block k hk)⟩
  have hlt := hown.lt g2 rfl
  refine h.best hb hlt.1 hlt.2 (fun j hj => ⟨g2, 0, rfl, hlt.2, ?_⟩) x
  rw [Nat.zero_add, hown.cellAt j (by omega), Array.getElem?_toList, vrow_get _ _ _ hj]
theorem LA.newz {N : Nw} {gf gb gc gl : Nat} {w0 w : World} {f : Nat → Int} {b : Option (Nat → Int)} {c left : Int} (h : LA N gf gb gc gl w0 f b c left w) (hm : N.m = 0) (x : Int) :
    LA N gf gb gc gl w0 f (some f) x left (((w.setCell ⟨gb, 0, none⟩ (.slice (some ⟨w.heap.size, 0, none⟩) 0 0)).setCell ⟨gc, 0, none⟩ (.int .i64 x)).alloc (.cells #[] 3)) := by
  obtain ⟨v, hv, _⟩ := h.b
  have l1 := heap_lt hv
  have l2 := heap_lt h.c
  have hb0 : Below w.heap.size w (w.alloc (.cells #[] 3)) := (Below.refl _ _).alloc (Nat.le_refl _) _
  have := h.best (g := w.heap.size) (c1 := 0) hb0 (Nat.le_refl _) (by simp) (fun j hj => absurd hj (by omega)) x
  rw [hm] at this
  rw [World.setCell_alloc_past _ _ _ _ l1, World.setCell_alloc_past _ _ _ _ (by simpa [World.setCell] using l2)] at this
  exact this
theorem run_append_zero {P : Program} {w : World} (t ty e : TypeId) (i : TypeInfo) (ht : P.underlying t = some (.slice e)) (hi : P.info? e = some i) (ad ad' : Addr) (c c' : Nat) :
    (Builtin.append_ #[t, t] ty #[.slice (some ad) 0 c, .slice (some ad') 0 c']).run P w = .ok (.slice (some ad) 0 c) w := by
  simp [Builtin.append_, run_underlying ht, sizeOf, typeInfo, hi, Builtin.lenOf, Builtin.firstCells, loadCells, loadCellsFrom, storeCells]
theorem wpList_append_zero {P : Program} {w : World} {ops : Array Oper} {rest : List Oper} {o : Oper} {a : Act} {Q : Exit → Act → World → Prop} (hgd : o.guard = none) (s x : Operand) (t : TypeId)
    (ho : o.op = .call { callee := .builtin .append, args := #[s, x], argTypes := #[t, t] })
    (e : TypeId) (i : TypeInfo) (ht : P.underlying t = some (.slice e)) (hi : P.info? e = some i) (ad ad' : Addr) (c c' : Nat) (hs : a.eval s = .slice (some ad) 0 c) (hx : a.eval x = .slice (some ad') 0 c')
    (h : wpList P ops Q rest (a.put o.dst (.slice (some ad) 0 c)) w) : wpList P ops Q (o :: rest) a w := by
  refine wpList_plain hgd fun K hK => ?_
  have hrun := run_append_zero (P := P) (w := w) t o.type e i ht hi ad ad' c c'
  unfold Oper.wp
  simp [execOp, ho, resolve, invoke, builtin, hs, hx, hrun, Result.andThen]
  exact hK _ _ h
/-- a network, as one of any numbers -/
def rwN (N : Nw) : Rw := ⟨(N.V : Int), N.m, fun i => ⟨(N.fr i : Int), (N.to i : Int), N.lo i, N.up i, N.c i⟩⟩
theorem rwN_nw (N : Nw) : (rwN N).nw = N := rfl
theorem rwN_good {N : Nw} (h : N.valid) : (rwN N).good := by
  have h1 := h.V1
  have h2 := h.V2
  have h3 := h.m2
  refine ⟨⟨show (1 : Int) ≤ (N.V : Int) by omega, show (N.V : Int) ≤ 520 by omega, h3⟩, fun i hi => badA_false.2 ?_⟩
  have h4 := h.ok i hi
  have h5 := h.lo i hi
  have h6 := h.c i hi
  show (0 ≤ (N.fr i : Int) ∧ (N.fr i : Int) < (N.V : Int)) ∧ (0 ≤ (N.to i : Int) ∧ (N.to i : Int) < (N.V : Int)) ∧ 0 ≤ N.lo i ∧ N.lo i ≤ N.up i ∧ N.up i ≤ 1099511627776 ∧ -1000 ≤ N.c i ∧ N.c i ≤ 1000
  omega
theorem rwN_ra {N : Nw} {w : World} {a : Option Addr} (h : Arcs w a N) : RA w a (rwN N).m (rwN N).A := fun i hi => h i hi
theorem Arcs.la {N : Nw} {gf gb gc gl : Nat} {w0 w : World} {f : Nat → Int} {b : Option (Nat → Int)} {c left : Int} {a : Option Addr} (h : Arcs w0 a N) (hl : LA N gf gb gc gl w0 f b c left w) (hfar : 0 < N.m → ∀ x, a = some x → x.block ∉ [gf, gb, gc, gl]) : Arcs w a N := h.kp hl.kp hfar
/-- what all leaves -/
def AllPost (N : Nw) (gf gb gc gl : Nat) (w0 : World) (k t : Nat) (f : Nat → Int) (left : Int) (e : Ending) (w' : World) : Prop :=
  e = .returned (.tuple #[]) ∧ ∃ (f' : Nat → Int) (b' : Option (Nat → Int)) (c' left' : Int), (∀ j, j < t → f' j = f j) ∧ left - 4 ^ k ≤ left' ∧ left' ≤ left ∧ LA N gf gb gc gl w0 f' b' c' left' w' ∧ Bst N (Unt N t f) b' c'
set_option maxRecDepth 100000 in
set_option maxHeartbeats 8000000 in
theorem all_any (N : Nw) (hv : N.valid) (h3 : ∀ i, i < N.m → N.up i ≤ N.lo i + 3) (a : Option Addr) (ca gf gb gc gl : Nat) (hfar : 0 < N.m → ∀ x, a = some x → x.block ∉ [gf, gb, gc, gl]) :
    ∀ (k t : Nat) (ti : Int) (f : Nat → Int) (b : Option (Nat → Int)) (c left : Int) (w0 w : World), Arcs w0 a N → t + k = N.m → ti = (t : Int) → (4 : Int) ^ k ≤ left → left ≤ 5000 → LA N gf gb gc gl w0 f b c left w → Bst N (Ahd N t f) b c →
    Calls Try.prog 25 #[N.val a ca, .slice (some ⟨gf, 0, none⟩) N.m N.m, .int .i64 ti, .pointer (some ⟨gb, 0, none⟩), .pointer (some ⟨gc, 0, none⟩), .pointer (some ⟨gl, 0, none⟩)] w (AllPost N gf gb gc gl w0 k t f left) := by
  have hm2 := hv.m2
  have HV := Lib.hid hv
  have H3 := Lib.hid h3
  have HFAR := Lib.hid hfar
  clear hv h3 hfar
  intro k
  induction k with
  | zero =>
    intro t ti f b c left w0 w hA htk hti hl1 hl2 hL hB
    have HA := Lib.hid hA
    clear hA
    have htm : t = N.m := by omega
    subst htm
    subst hti
    have hl0 : 1 ≤ left := by simpa using hl1
    have HL := Lib.hid hL
    have HB := Lib.hid hB
    have HA1 := Lib.hid (Arcs.la HA.out hL HFAR.out)
    have hlc := cell_of_row _ _ 0 _ _ _ hL.l
    have hlf := frozen_of_row _ _ 0 _ _ hL.l
    have hll := heap_lt hL.l
    clear hL hB hl1 htk
    have hbx : Below w.heap.size w (w.alloc (.cells #[.int .i64 (N.V : Int), .slice a N.m ca] 25)) := (Below.refl _ _).alloc (Nat.le_refl _) _
    have HL1 := Lib.hid (HL.out.more hbx)
    have HA2 := Lib.hid (HA1.out.below hbx)
    have hgl : gl ≠ w.heap.size := by omega
    have d0 : decide (left < 0) = false := by rw [decide_eq_false_iff_not]; omega
    go_enter Try.func25, Try.ntmps25
    go_wp2_with fail
    have HL2 : Hid (∀ W, W = ((w.setCell ⟨gl, 0, none⟩ (.int .i64 (left - 1))).alloc (.cells #[.int .i64 (N.V : Int), .slice a N.m ca] 25)) → LA N gf gb gc gl w0 f b c (left - 1) W ∧ W.cell? ⟨w.heap.size, 0, none⟩ = some (.int .i64 (N.V : Int)) ∧ W.cell? ⟨w.heap.size, 1, none⟩ = some (.slice a N.m ca)) := Lib.hid (fun W hW => by
      subst hW
      exact ⟨(HL.out.putl (left - 1)).more ((Below.refl _ _).alloc (Nat.le_refl _) _), cell_mk _ _ _ (by simp [World.setCell]) rfl, cell_mk _ _ _ (by simp [World.setCell]) rfl⟩)
    obtain ⟨w1, hw1⟩ : ∃ w1, w1 = ((w.setCell ⟨gl, 0, none⟩ (.int .i64 (left - 1))).alloc (.cells #[.int .i64 (N.V : Int), .slice a N.m ca] 25)) := ⟨_, rfl⟩
    rw [← hw1]
    obtain ⟨hl1, n0, n1⟩ := HL2.out w1 hw1
    obtain ⟨gn, hgn⟩ : ∃ gn, w.heap.size = gn := ⟨_, rfl⟩
    have HLs := Lib.hid hl1
    rw [hgn] at n0 n1 ⊢
    clear hw1 hgn HL2 hl1 HA1 HA2 HL1 hbx hlc hlf hll hgl d0 HL
    clear w
    have hnl := block_lt_of_cell n0
    have HB1 := Lib.hid (Arcs.la HA.out HLs.out HFAR.out)
    have HFE := Lib.hid ((rwN N).feas_iff N.m f)
    refine (RFeasible_any (rwN N) a ca (show N.m ≤ _ by omega) (some ⟨gf, 0, none⟩) N.m N.m f (by omega) _ (rwN_ra HB1.out) (Rd.of_row HLs.out.f)).mono ?_
    rintro e w2 ⟨rfl, hb2⟩
    have HLt := Lib.hid (HLs.out.more hb2)
    replace n0 := (hb2.cell (p := ⟨gn, 0, none⟩) hnl).trans n0
    replace n1 := (hb2.cell (p := ⟨gn, 1, none⟩) hnl).trans n1
    replace hnl := block_lt_of_cell n0
    clear hb2 HLs HB1
    cases hf : (rwN N).feas N.m f
    · have HNC : Hid (¬ N.circ f) := Lib.hid (fun hc => by
        have := HFE.out.2 ⟨rwN_good HV.out, rfl, hc⟩
        rw [hf] at this; cases this)
      have HBN := Lib.hid (HB.out.leaf_no HNC.out)
      clear hf
      go_wp2_with fail
      refine bodyPost_ret (v := .tuple #[]) (by simp [results, Try.results25, go_sem]) rfl ?_
      exact ⟨rfl, f, b, c, left - 1, fun _ _ => rfl, by simp, by omega, HLt.out, HBN.out⟩
    · have HCI : Hid (N.circ f) := Lib.hid (HFE.out.1 hf).2.2
      clear hf HFE
      have hfl := HLt.out.f.lt
      go_wp2_with fail
      obtain ⟨w3, hw3⟩ : ∃ w3, w2 = w3 := ⟨_, rfl⟩
      subst hw3
      go_loopw [12, 13] (fun v12 v13 wr => ∃ i : Nat, i ≤ N.m ∧ v13 = .int .i64 i ∧ v12 = .int .i64 (ck N f i) ∧ Hid (Below w2.heap.size w2 wr)) (fun _ v _ => N.m - (intOf v).toNat)
      case atStart => exact ⟨0, by omega, rfl, rfl, Lib.hid (Below.refl _ _)⟩
      case round =>
        obtain ⟨i, hi, rfl, rfl, HBE⟩ := hrel
        have n1 := (HBE.out.cell (p := ⟨gn, 1, none⟩) hnl).trans n1
        have hnr := block_lt_of_cell n1
        have HLr := Lib.hid (HLt.out.more HBE.out)
        by_cases hlt : i < N.m
        · obtain ⟨bq, off, rfl, hbq, k0, k1, k2, k3, k4⟩ := (Arcs.la HA.out HLr.out HFAR.out) i hlt
          have p0 := HLr.out.f.cell i hlt
          have p1 := HLr.out.f.lt
          have hcb := ck_bd HV.out HCI.out.1 (k := i) (by omega)
          have hc := HV.out.c i hlt
          have hxb := flow_bd HV.out HCI.out.1 hlt
          have hpr := mul_bd hc.1 hc.2 hxb.1 hxb.2
          have HS : Hid (ck N f (i + 1) = ck N f i + N.c i * f i) := Lib.hid rfl
          clear k0 k1 k2 k3
          obtain ⟨s, hs⟩ : ∃ s, ck N f i = s := ⟨_, rfl⟩
          rw [hs] at hcb HS ⊢
          have hw1 : IntKind.i64.wrap (N.c i * f i) = N.c i * f i := by rw [IntKind.wrap_i64]; omega
          have hw2 : IntKind.i64.wrap (s + N.c i * f i) = s + N.c i * f i := by rw [IntKind.wrap_i64]; omega
          clear hs hcb hc hxb hpr HLr
          go_upto_region 9 with fail
          go_quiet (fail)
          clear hw1 hw2
          go_wp2
          exact ⟨⟨i + 1, by omega, by go_num, by rw [HS.out], Lib.hid (below_drewN HBE.out _)⟩, by simp [intOf]; omega⟩
        · obtain rfl : i = N.m := by omega
          have hcost : ck N f N.m = N.cost f := rfl
          rw [hcost]
          have hcb := ck_bd HV.out HCI.out.1 (k := N.m) (by omega)
          rw [hcost] at hcb
          obtain ⟨x, hx⟩ : ∃ x, N.cost f = x := ⟨_, rfl⟩
          rw [hx] at hcb ⊢
          have HX := Lib.hid hx
          obtain ⟨vb, b1, b2, b3⟩ := HLr.out.b
          have HB1 := Lib.hid b1
          have HB2 := Lib.hid b2
          have e1 := cell_of_row _ _ 0 _ _ _ b1
          have e2 := heap_lt b1
          have e3 := cell_of_row _ _ 0 _ _ _ HLr.out.c
          have e4 := heap_lt HLr.out.c
          clear hx hcost b1 b2 b3 hi hlt
          have kq := fun (w : World) (a : Option Addr) (n c : Nat) => Lib.run_eql_slice_nil (P := Try.prog) w 26 3 a n c 0 0 Try.underlying26
          obtain ⟨i0, hi0, hz0, hz1, hz2⟩ := info_parts Try.infoInt
          have HI0 := Lib.hid hi0
          have HZ0 := Lib.hid hz0
          have HZ1 := Lib.hid hz1
          have HZ2 := Lib.hid hz2
          clear hi0 hz0 hz1 hz2
          have HBW : Hid (∀ W b' c', LA N gf gb gc gl w0 f b' c' (left - 1) W → Bst N (Unt N N.m f) b' c' → AllPost N gf gb gc gl w0 0 N.m f left (.returned (.tuple #[])) W) := Lib.hid (fun W b' c' h1 h2 => ⟨rfl, f, b', c', left - 1, fun _ _ => rfl, by simp, by omega, h1, h2⟩)
          have ng := HLr.out.ne
          have nl := HLr.out.lt
          have ngc : gb ≠ gc := ng.2.1.1
          have ngc2 := ngc.symm
          have eb := frozen_of_row _ _ 0 _ _ HB1.out
          have ec := frozen_of_row _ _ 0 _ _ HLr.out.c
          have egf := HLr.out.f.lt
          have hz : ∀ W, (W = wr ∧ (b = none ∨ ∃ y, b = some y ∧ x < c)) → True := fun _ _ => trivial
          clear hz
          by_cases hnew : b = none ∨ x < c
          · have HBN := Lib.hid (HB.out.leaf_new HCI.out HX.out.symm hnew)
            have hcond : ∃ (va : Option Addr) (nb cb : Nat), vb = .slice va nb cb ∧ (va = none ∨ x < c) := by
              rcases HB2.out with ⟨h1, h2⟩ | ⟨y, g, cc, h1, h2, _⟩
              · exact ⟨none, 0, 0, h2, .inl rfl⟩
              · refine ⟨_, _, _, h2, .inr ?_⟩
                rcases hnew with h | h
                · rw [h] at h1; cases h1
                · exact h
            obtain ⟨va, nb, cb, rfl, hvx⟩ := hcond
            have HNEWZ := Lib.hid (fun h => HLr.out.newz h x)
            have HNEWB : Hid (∀ (w4 : World) (g2 c2 n : Nat), n = N.m → w4.ownsRow wr.heap.size 3 1 (.slice (some ⟨g2, 0, none⟩) n c2) n (vrow N.m fun j => .int .i64 (f j)).toList → (wr.alloc (.cells #[] 3)).grownBy w4 (some wr.heap.size) → LA N gf gb gc gl w0 f (some f) x (left - 1) ((w4.setCell ⟨gb, 0, none⟩ (.slice (some ⟨g2, 0, none⟩) n c2)).setCell ⟨gc, 0, none⟩ (.int .i64 x))) := Lib.hid (fun w4 g2 c2 n hn ho hg => HLr.out.newb hn ho hg x)
            have HROW : Hid ((wr.alloc (.cells #[] 3)).heap[gf]? = some (.cells (vrow N.m fun j => .int .i64 (f j)) 3 (0, 0))) := Lib.hid ((Below.heap_alloc wr _ gf egf).trans HLr.out.f)
            clear hnew
            have hway : va = none ∨ ∃ q, va = some q ∧ x < c := by
              rcases hvx with h | h
              · exact .inl h
              · cases va with
                | none => exact .inl rfl
                | some q => exact .inr ⟨q, rfl, h⟩
            clear hvx
            rcases hway with rfl | ⟨q, rfl, hxc⟩
            all_goals
              by_cases hm0 : N.m = 0
              · have HM0 := Lib.hid hm0
                clear hm0
                go_wp2_with (at_builtin; refine wpList_append_zero rfl _ _ _ rfl 3 i0 Try.underlying26 HI0.out ⟨wr.heap.size, 0, none⟩ ⟨gf, 0, none⟩ 0 N.m rfl (by show Value.slice (some ⟨gf, 0, none⟩) N.m N.m = _; rw [HM0.out]) ?_)
                refine bodyPost_ret (v := .tuple #[]) (by simp [results, Try.results25, go_sem]) rfl ?_
                exact HBW.out _ _ _ (HNEWZ.out HM0.out) HBN.out
              · have hm1 : 0 < N.m := by omega
                clear hm0
                go_wp2_with (at_builtin; go_must (refine wpList_append_lies _ rfl _ _ _ rfl wr.heap.size 3 i0 _ 1 8 Try.underlying26 HI0.out HZ0.out HZ1.out HZ2.out rfl (by omega) _ 0 [] rfl (World.ownsRow_lit wr #[] 0 (Nat.le_refl _) (by simp [maxLen]) rfl) ⟨gf, 0, none⟩ N.m N.m (vrow N.m fun j => .int .i64 (f j)).toList rfl (by simp [vrow_size]) (World.news_of_block HROW.out) (fun u hu => by simp [vrow] at hu; obtain ⟨_, _, rfl⟩ := hu; rfl) hm1 (by unfold maxLen; omega) (by omega) (by simp) _ rfl ?_; intro g2 cg2 w4 hown2 hgrow hat2 hlt2; simp only [Nat.zero_add, List.nil_append] at hown2; have b4 := (hgrow.block gb (by simp; omega) (fun e => by injection e with e; have e' : gb = wr.heap.size := e; omega)).trans ((Below.heap_alloc wr _ gb e2).trans HB1.out); have c4 := (hgrow.block gc (by simp; omega) (fun e => by injection e with e; have e' : gc = wr.heap.size := e; omega)).trans ((Below.heap_alloc wr _ gc e4).trans HLr.out.c); have q1 := cell_of_row _ _ 0 _ _ _ b4; have q2 := frozen_of_row _ _ 0 _ _ b4; have q3 := heap_lt b4; have r1 := cell_of_row _ _ 0 _ _ _ c4; have r2 := frozen_of_row _ _ 0 _ _ c4; have r3 := heap_lt c4; have HFIN := Lib.hid (HNEWB.out w4 g2 cg2 N.m rfl hown2 hgrow); clear b4 c4 hown2 hgrow hat2 hlt2))
                refine bodyPost_ret (v := .tuple #[]) (by simp [results, Try.results25, go_sem]) rfl ?_
                exact HBW.out _ _ _ HFIN.out HBN.out
          · rcases HB2.out with ⟨h1, _⟩ | ⟨y, g, cc, h1, h2, _⟩
            · exact absurd (.inl h1) hnew
            · have hcx : c ≤ x := by
                apply Classical.byContradiction
                intro h
                exact hnew (.inr (by omega))
              subst h1
              have HBN := Lib.hid (HB.out.leaf_keep HX.out.symm hcx)
              subst h2
              have d1 : decide (x < c) = false := by rw [decide_eq_false_iff_not]; omega
              clear hnew hcx
              go_wp2_with fail
              refine bodyPost_ret (v := .tuple #[]) (by simp [results, Try.results25, go_sem]) rfl ?_
              exact HBW.out _ _ _ HLr.out HBN.out
  | succ k ih =>
    intro t ti f b c left w0 w hA htk hti hl1 hl2 hL hB
    have HA := Lib.hid hA
    clear hA
    have htm : t < N.m := by omega
    subst hti
    obtain ⟨p, hp⟩ : ∃ p : Int, (4 : Int) ^ k = p := ⟨_, rfl⟩
    have hp4 : (4 : Int) ^ (k + 1) = 4 * p := by rw [Int.pow_succ, hp]; omega
    have hp0 : 0 < p := by rw [← hp]; exact Int.pow_pos (by omega)
    rw [hp4] at hl1
    rw [hp] at ih
    have HIH := Lib.hid ih
    have HPOST : Hid (∀ W f' b' c' left', (∀ j, j < t → f' j = f j) → left - 4 * p ≤ left' → left' ≤ left → LA N gf gb gc gl w0 f' b' c' left' W → Bst N (Unt N t f) b' c' → AllPost N gf gb gc gl w0 (k + 1) t f left (.returned (.tuple #[])) W) := Lib.hid (fun W f' b' c' left' h1 h2 h3 h4 h5 => ⟨rfl, f', b', c', left', h1, by rw [hp4]; exact h2, h3, h4, h5⟩)
    have HIHP : Hid (∀ (t : Nat) (ti : Int) (f : Nat → Int) (b : Option (Nat → Int)) (c left : Int) (w : World), Arcs w a N → t + k = N.m → ti = (t : Int) → p ≤ left → left ≤ 5000 → LA N gf gb gc gl w f b c left w → Bst N (Ahd N t f) b c →
      Calls Try.prog 25 #[N.val a ca, .slice (some ⟨gf, 0, none⟩) N.m N.m, .int .i64 ti, .pointer (some ⟨gb, 0, none⟩), .pointer (some ⟨gc, 0, none⟩), .pointer (some ⟨gl, 0, none⟩)] w fun e w' => e = .returned (.tuple #[]) ∧ ∃ (f' : Nat → Int) (b' : Option (Nat → Int)) (c' left' : Int), (∀ j, j < t → f' j = f j) ∧ left - p ≤ left' ∧ left' ≤ left ∧ LA N gf gb gc gl w f' b' c' left' w' ∧ Bst N (Unt N t f) b' c') := Lib.hid (fun t ti f b c left w h0 h1 h2 h3 h4 h5 h6 => (HIH.out t ti f b c left w w h0 h1 h2 h3 h4 h5 h6).mono (fun e w' h => by
        obtain ⟨h1, f', b', c', left', h2, h3, h4, h5, h6⟩ := h
        exact ⟨h1, f', b', c', left', h2, by rw [hp] at h3; exact h3, h4, h5, h6⟩))
    clear ih HIH hp4 hp
    have HL := Lib.hid hL
    have HB := Lib.hid hB
    have hlc := cell_of_row _ _ 0 _ _ _ hL.l
    have hll := heap_lt hL.l
    have d0 : decide (left < 0) = false := by rw [decide_eq_false_iff_not]; omega
    have d1 : ((t : Int) == (N.m : Int)) = false := by simp; omega
    have hbx : Below w.heap.size w (w.alloc (.cells #[.int .i64 (N.V : Int), .slice a N.m ca] 25)) := (Below.refl _ _).alloc (Nat.le_refl _) _
    have HL1 : Hid (∀ W, W = (w.alloc (.cells #[.int .i64 (N.V : Int), .slice a N.m ca] 25)) → LA N gf gb gc gl w0 f b c left W ∧ W.cell? ⟨w.heap.size, 0, none⟩ = some (.int .i64 (N.V : Int)) ∧ W.cell? ⟨w.heap.size, 1, none⟩ = some (.slice a N.m ca)) := Lib.hid (fun W hW => by
      subst hW
      exact ⟨HL.out.more hbx, cell_mk _ _ _ rfl rfl, cell_mk _ _ _ rfl rfl⟩)
    have hw0 : w0.heap.size ≤ w.heap.size := hL.kp.size
    clear hL hB
    go_enter Try.func25, Try.ntmps25
    go_upto_region 12 with fail
    obtain ⟨w1, hw1⟩ : ∃ w1, w1 = (w.alloc (.cells #[.int .i64 (N.V : Int), .slice a N.m ca] 25)) := ⟨_, rfl⟩
    rw [← hw1]
    obtain ⟨hl1', n0, n1⟩ := HL1.out w1 hw1
    obtain ⟨gn, hgn⟩ : ∃ gn, w.heap.size = gn := ⟨_, rfl⟩
    have HLs := Lib.hid hl1'
    rw [hgn] at n0 n1 hw0 ⊢
    clear hw1 hgn HL1 hl1' hbx hlc hll d0 d1 HL
    clear w
    have HKN : Hid (∀ W, Kp [gf, gb, gc, gl] w1 W → W.cell? ⟨gn, 0, none⟩ = some (.int .i64 (N.V : Int)) ∧ W.cell? ⟨gn, 1, none⟩ = some (.slice a N.m ca)) := Lib.hid (fun W hk => by
      have := HLs.out.lt
      exact ⟨hk.cell n0 (by simp; omega), hk.cell n1 (by simp; omega)⟩)
    have nl := block_lt_of_cell n1
    obtain ⟨bq, off, rfl, hbq, k0, k1, k2, k3, k4⟩ := (Arcs.la HA.out HLs.out HFAR.out) t htm
    obtain ⟨lo, hlo⟩ : ∃ y, N.lo t = y := ⟨_, rfl⟩
    obtain ⟨up, hup⟩ : ∃ y, N.up t = y := ⟨_, rfl⟩
    have hv1 := HV.out.lo t htm
    have hv2 := H3.out t htm
    rw [hlo, hup] at hv1 hv2
    rw [hlo] at k2
    have HLO := Lib.hid hlo
    have HUP := Lib.hid hup
    have HBS : Hid (Bst N (Ahd N (t + 1) (upd f t lo)) b c) := Lib.hid (HB.out.congr (fun g => ahd_down htm hlo.symm))
    clear hlo hup HB
    obtain ⟨v1, v2, v3⟩ := hv1
    go_wp2_with fail
    clear k0 k1 k2 k3 k4 n0 n1 nl hbq
    go_loopg [14] (up + 1 - lo).toNat (fun n v14 wr => ∃ (d : Nat) (v : Int) (f1 : Nat → Int) (b1 : Option (Nat → Int)) (c1 left1 : Int), n = (up + 1 - v).toNat ∧ v ≤ lo + d ∧ lo + d ≤ v ∧ v ≤ up + 1 ∧ v14 = .int .i64 v ∧ left - d * p ≤ left1 ∧ left1 ≤ left ∧ Hid (∀ j, j < t → f1 j = f j) ∧ Hid (LA N gf gb gc gl w0 f1 b1 c1 left1 wr) ∧ Hid (Kp [gf, gb, gc, gl] w1 wr) ∧ Hid (Bst N (Ahd N (t + 1) (upd f t v)) b1 c1))
    case atStart => exact ⟨0, lo, f, b, c, left, rfl, by simp, by simp, by omega, rfl, by simp, by omega, Lib.hid (fun _ _ => rfl), HLs, Lib.hid (Kp.refl _ _), HBS⟩
    case round =>
      obtain ⟨d, v, f1, b1, c1, left1, hgk, hda, hdb, hvu, rfl, hleft, hleft2, HF1, HL1, HK1, HB1⟩ := hrel
      have hgk2 := Lib.hid hgk
      clear hgk HLs HBS
      have n1 := (HKN.out _ HK1.out).2
      have nl := block_lt_of_cell n1
      obtain ⟨bq', off', e', hbq, k0, k1, k2, k3, k4⟩ := (Arcs.la HA.out HL1.out HFAR.out) t htm
      injection e' with e'
      injection e' with e1 e2
      subst e1 e2
      rw [HUP.out] at k3
      by_cases hvl : v ≤ up
      · have hd3 : d ≤ 3 := by omega
        have hdp : (d : Int) * p ≤ 3 * p := Int.mul_le_mul_of_nonneg_right (by omega) (by omega)
        have hpl : p ≤ left1 := by omega
        have r1 := HL1.out.f.cell t htm
        have r2 := HL1.out.f.frozen t
        have r3 := HL1.out.f.lt
        have HL2 := Lib.hid (HL1.out.putf t v)
        have HK2 : Hid (Kp [gf, gb, gc, gl] w1 (wr.setCell ⟨gf, t, none⟩ (.int .i64 v))) := Lib.hid (HK1.out.setCell _ _ (.inl (by simp)))
        have HB2 : Hid (Bst N (Ahd N (t + 1) (upd f1 t v)) b1 c1) := Lib.hid (HB1.out.congr (fun g => Ahd.congr (fun j hj => by
          by_cases e : j = t
          · subst e; rw [upd_same, upd_same]
          · rw [upd_other _ _ e, upd_other _ _ e]; exact HF1.out j (by omega))))
        clear k0 k1 k2 k4
        go_upto_region 16 with fail
        obtain ⟨w2, hw2⟩ : ∃ w2, (wr.setCell ⟨gf, t, none⟩ (.int .i64 v)) = w2 := ⟨_, rfl⟩
        rw [hw2] at HL2 HK2 ⊢
        clear hw2 r1 r2 r3 k3 n1 nl hbq
        have n0 := (HKN.out _ HK2.out).1
        have n1 := (HKN.out _ HK2.out).2
        have nl := block_lt_of_cell n1
        go_wp2_with fail
        refine (HIHP.out (t + 1) _ (upd f1 t v) b1 c1 left1 _ (Arcs.la HA.out HL2.out HFAR.out) (by omega) (by omega) hpl (by omega) HL2.out.self HB2.out).mono ?_
        rintro e w3 ⟨rfl, f2, b2, c2, left2, h1, h2, h3, h4, h5⟩
        have HF3 : Hid (∀ j, j < t → f2 j = f j) := Lib.hid (fun j hj => by rw [h1 j (by omega), upd_other _ _ (by omega)]; exact HF1.out j hj)
        have HL3 := Lib.hid (HL2.out.base h4)
        have HK3 : Hid (Kp [gf, gb, gc, gl] w1 w3) := Lib.hid (HK2.out.trans h4.kp)
        have HB3 : Hid (Bst N (Ahd N (t + 1) (upd f t (v + 1))) b2 c2) := Lib.hid ((h5.congr (fun g => unt_next)).congr (fun g => Ahd.congr (fun j hj => by
          by_cases e : j = t
          · subst e; rw [upd_same, upd_same]
          · rw [upd_other _ _ e, upd_other _ _ e]; exact (HF1.out j (by omega)).symm)))
        have hdp1 : ((d + 1 : Nat) : Int) * p = d * p + p := by push_cast; rw [Int.add_mul]; omega
        have HDP : Hid (left - ((d + 1 : Nat) : Int) * p ≤ left2) := Lib.hid (by rw [hdp1]; omega)
        have HL2B : Hid (left2 ≤ left) := Lib.hid (by omega)
        have hvb : v ≤ 1099511627776 := by omega
        clear hdp1 h1 h2 h3 h4 h5 n0 n1 nl
        go_wp2_with fail
        go_roundg (up + 1 - (v + 1)).toNat
        case rel => exact ⟨d + 1, v + 1, f2, b2, c2, left2, rfl, by push_cast; omega, by push_cast; omega, by omega, rfl, HDP.out, HL2B.out, HF3, HL3, HK3, HB3⟩
        case measure => rw [hgk2.out]; omega
      · have hvu2 : v = up + 1 := by omega
        subst hvu2
        have HBE : Hid (Bst N (Unt N t f) b1 c1) := Lib.hid (HB1.out.congr (fun g => unt_end htm (by rw [HUP.out])))
        have hd4 : d ≤ 4 := by omega
        have hdp : (d : Int) * p ≤ 4 * p := Int.mul_le_mul_of_nonneg_right (by omega) (by omega)
        have d1 : decide (up + 1 ≤ up) = false := by rw [decide_eq_false_iff_not]; omega
        clear k0 k1 k2 k4
        go_wp2_with fail
        go_end0
        exact HPOST.out _ f1 b1 c1 left1 HF1.out (by omega) (by omega) HL1.out HBE.out
end Go.Proofs.Ythoehobofdeifaa
