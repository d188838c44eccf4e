/-
  WALKS of the reference's reader: in memory; now, is, accept. (Filled in from a template of this repo, printed by mk_qsw.py.)
-/
import Derived.Test.YtlbjdglgnkajnaaDoorPsX
namespace Go.Proofs.YtlbjdglgnkajnaaDoor
open Go.ChangeShapes Go.WideShapes Go.ChangeAt Go.RowKit
set_option linter.unusedVariables false
set_option linter.unusedSimpArgs false

/-- the parser in memory; what is left of its tokens -/
structure RAt (w : World) (K : PC) (at_ : Nat) (bad : Bool) (rest : List Tk) : Prop where
  row : w.heap[K.g]? = some (.cells #[.slice K.al K.ts.length K.cl, .int .i64 (at_ : Int), .bool bad, .int .i64 K.wr] 63 (0, 0))
  tk : Tks w K.al K.ts
  ne : ∀ x, K.al = some x → x.block ≠ K.g
  dr : K.ts.drop at_ = rest
  en : EndT rest
  cap : K.ts.length ≤ K.cl ∧ K.cl ≤ maxLen
  n : K.ts.length ≤ 100000
theorem RAt.lt {w : World} {K : PC} {at_ : Nat} {bad : Bool} {rest : List Tk} (h : RAt w K at_ bad rest) : at_ < K.ts.length ∧ K.ts.length = at_ + rest.length := by
  obtain ⟨x, r, e⟩ := h.en.cons
  have h1 := h.dr
  rw [e] at h1
  have h2 := congrArg List.length h1
  rw [List.length_drop, List.length_cons] at h2
  rw [e, List.length_cons]
  omega
theorem RAt.glt {w : World} {K : PC} {at_ : Nat} {bad : Bool} {rest : List Tk} (h : RAt w K at_ bad rest) : K.g < w.heap.size := heap_lt h.row
theorem RAt.grown {w w' : World} {K : PC} {at_ : Nat} {bad : Bool} {rest : List Tk} {r : Option Nat} (h : RAt w K at_ bad rest) (hg : w.grownBy w' r) (hr : ∀ k, r = some k → k ≠ K.g ∧ ∀ x, K.al = some x → x.block ≠ k) : RAt w' K at_ bad rest :=
  { h with
    row := (hg.block K.g h.glt (fun e => (hr K.g e.symm).1 rfl)).trans h.row
    tk := fun j x hj => by
      obtain ⟨b, off, e, hb, h0, h1, h2, h3⟩ := h.tk j x hj
      have key : w'.heap[b]? = w.heap[b]? := hg.block b hb (fun e2 => (hr b e2.symm).2 _ e rfl)
      have kc : ∀ o, w'.cell? ⟨b, o, none⟩ = w.cell? ⟨b, o, none⟩ := fun o => World.cell?_of_block (a := ⟨b, o, none⟩) key
      exact ⟨b, off, e, by have := hg.size; omega, (kc _).trans h0, (kc _).trans h1, (kc _).trans h2, (kc _).trans h3⟩ }
theorem RAt.below {w w' : World} {K : PC} {at_ : Nat} {bad : Bool} {rest : List Tk} (h : RAt w K at_ bad rest) (hb : Below w.heap.size w w') : RAt w' K at_ bad rest := h.grown (grownBy_of_below hb none) (fun k e => by cases e)
/-- the token that comes next, in memory -/
theorem RAt.tok {w : World} {K : PC} {at_ : Nat} {bad : Bool} {rest : List Tk} (h : RAt w K at_ bad rest) : ∃ x r b off, rest = x :: r ∧ K.al = some ⟨b, off, none⟩ ∧ b < w.heap.size ∧ b ≠ K.g ∧
    w.cell? ⟨b, off + at_ * 4, none⟩ = some (.int .i64 x.k) ∧ w.cell? ⟨b, off + at_ * 4 + 1, none⟩ = some (.int .i64 x.n) ∧ w.cell? ⟨b, off + at_ * 4 + 2, none⟩ = some (.int .i64 x.v) ∧ w.cell? ⟨b, off + at_ * 4 + 3, none⟩ = some (.string (st x.t)) := by
  obtain ⟨x, r, e⟩ := h.en.cons
  have h1 := h.dr
  rw [e] at h1
  have hx : K.ts[at_]? = some x := by
    have := congrArg (fun l => l[0]?) h1
    simpa using this
  obtain ⟨b, off, e2, hb, h0, h2, h3, h4⟩ := h.tk at_ x hx
  exact ⟨x, r, b, off, e, e2, hb, h.ne _ e2, h0, h2, h3, h4⟩
/-- one token on -/
theorem RAt.step {w : World} {K : PC} {at_ : Nat} {bad : Bool} {rest : List Tk} (h : RAt w K at_ bad rest) (hk : kOf rest ≠ 0) : RAt (w.setCell ⟨K.g, 1, none⟩ (.int .i64 ((at_ : Int) + 1))) K (at_ + 1) bad rest.tail :=
  have hset := grownBy_set w K.g 1 (.int .i64 ((at_ : Int) + 1))
  { row := heap_setCell_same w K.g 1 _ _ _ h.row
    tk := fun j x hj => by
      obtain ⟨b, off, e, hb, h0, h1, h2, h3⟩ := h.tk j x hj
      have key : (w.setCell ⟨K.g, 1, none⟩ (.int .i64 ((at_ : Int) + 1))).heap[b]? = w.heap[b]? := hset.block b hb (fun e2 => by injection e2 with e2; exact h.ne _ e e2)
      have kc : ∀ o, (w.setCell ⟨K.g, 1, none⟩ (.int .i64 ((at_ : Int) + 1))).cell? ⟨b, o, none⟩ = w.cell? ⟨b, o, none⟩ := fun o => World.cell?_of_block (a := ⟨b, o, none⟩) key
      exact ⟨b, off, e, by have := hset.size; omega, (kc _).trans h0, (kc _).trans h1, (kc _).trans h2, (kc _).trans h3⟩
    ne := h.ne
    dr := by rw [← h.dr, List.tail_drop]
    en := h.en.kOf hk
    cap := h.cap
    n := h.n }
/-- what a walk reads of the parser -/
theorem RAt.cells {w : World} {K : PC} {at_ : Nat} {bad : Bool} {rest : List Tk} (h : RAt w K at_ bad rest) : w.cell? ⟨K.g, 0, none⟩ = some (.slice K.al K.ts.length K.cl) ∧ w.cell? ⟨K.g, 1, none⟩ = some (.int .i64 (at_ : Int)) ∧ w.cell? ⟨K.g, 2, none⟩ = some (.bool bad) ∧
    w.frozen? ⟨K.g, 1, none⟩ = false ∧ w.frozen? ⟨K.g, 2, none⟩ = false ∧ K.g < w.heap.size :=
  ⟨cell_of_row _ _ 0 _ _ _ h.row, cell_of_row _ _ 1 _ _ _ h.row, cell_of_row _ _ 2 _ _ _ h.row, frozen_of_row _ _ 1 _ _ h.row, frozen_of_row _ _ 2 _ _ h.row, h.glt⟩
set_option maxRecDepth 100000 in
set_option maxHeartbeats 4000000 in
theorem now_any (K : PC) (at_ : Nat) (bad : Bool) (rest : List Tk) (w : World) (h : RAt w K at_ bad rest) : Calls Tryd.prog 36 #[.pointer (some ⟨K.g, 0, none⟩)] w fun e w' => e = .returned (tokv (hdT rest)) ∧ Below w.heap.size w w' := by
  have hlt := h.lt.1
  have hcap := h.cap
  have hn := h.n
  have hr := heap_alloc_new w (.cells #[.int .i64 0, .int .i64 0, .int .i64 0, .string ⟨#[]⟩] 59)
  have hbA := below_alloc w (.cells #[.int .i64 0, .int .i64 0, .int .i64 0, .string ⟨#[]⟩] 59)
  have hglt := h.glt
  obtain ⟨x, r, b, off, rfl, hal, hb, hbg, t0, t1, t2, t3⟩ := h.tok
  obtain ⟨p0, p1, -, -, -, -⟩ := h.cells
  rw [hal] at p0
  have q0 := (hbA.cell (p := ⟨K.g, 0, none⟩) hglt).trans p0
  have q1 := (hbA.cell (p := ⟨K.g, 1, none⟩) hglt).trans p1
  have s0 := (hbA.cell (p := ⟨b, off + at_ * 4, none⟩) hb).trans t0
  have s1 := (hbA.cell (p := ⟨b, off + at_ * 4 + 1, none⟩) hb).trans t1
  have s2 := (hbA.cell (p := ⟨b, off + at_ * 4 + 2, none⟩) hb).trans t2
  have s3 := (hbA.cell (p := ⟨b, off + at_ * 4 + 3, none⟩) hb).trans t3
  obtain ⟨k, n, v, tt⟩ := x
  dsimp only at *
  obtain ⟨g, hg⟩ : ∃ g, K.g = g := ⟨_, rfl⟩
  obtain ⟨N, hN⟩ : ∃ N, K.ts.length = N := ⟨_, rfl⟩
  obtain ⟨cl, hcl⟩ : ∃ c, K.cl = c := ⟨_, rfl⟩
  rw [hN, hcl] at hcap q0
  rw [hN] at hlt hn
  rw [hg] at q0 q1 hglt hbg ⊢
  have hcl2 : cl ≤ 9223372036854775807 := by have := hcap.2; unfold maxLen at this; omega
  have hlt2 : (at_ : Int) < (N : Int) := by omega
  clear h hal p0 p1 t0 t1 t2 t3 hN hcl hg
  go_enter Tryd.func36, Tryd.ntmps36
  go_upto_region 1 with fail
  obtain ⟨w1, hw1⟩ : ∃ W, w.alloc (.cells #[.int .i64 0, .int .i64 0, .int .i64 0, .string ⟨#[]⟩] 59) = W := ⟨_, rfl⟩
  obtain ⟨gr, hgr⟩ : ∃ x, w.heap.size = x := ⟨_, rfl⟩
  rw [hw1] at hr hbA q0 q1 s0 s1 s2 s3 ⊢
  rw [hgr] at hr hglt hb
  (try rw [hgr])
  have HB := Lib.hid (And.intro hbA hgr)
  have HR := Lib.hid hr
  have n1 : gr ≠ g := by omega
  have n2 : gr ≠ b := by omega
  clear hw1 hgr hbA hr
  refine wp_region_held_drew (S := (fun w' => w'.cell? ⟨g, 0, none⟩ = some (.slice (some ⟨b, off, none⟩) N cl) ∧ w'.cell? ⟨g, 1, none⟩ = some (.int .i64 (at_ : Int)) ∧ w'.cell? ⟨b, off + at_ * 4, none⟩ = some (.int .i64 k) ∧ w'.cell? ⟨b, off + at_ * 4 + 1, none⟩ = some (.int .i64 n) ∧ w'.cell? ⟨b, off + at_ * 4 + 2, none⟩ = some (.int .i64 v) ∧ w'.cell? ⟨b, off + at_ * 4 + 3, none⟩ = some (.string (st tt)))) (by kernel_rfl) ⟨q0, q1, s0, s1, s2, s3⟩ (fun hHeld => ?_)
  refine wpAnyH_takeD (i := 0) (d := some 3) (v := ?_) rfl (by kernel_rfl) (by kernel_rfl) (by kernel_rfl) (by kernel_rfl) (fun _ _ _ h => h) (Or.inl ⟨by kernel_rfl, ?_⟩) (by assumption) ?_
  rotate_left
  · (intro w hSw; (try dsimp only at hSw); go_simp; try with_reducible rfl)
  (try simp only [Act.put, List.setIfInBounds_toArray, List.set_cons_zero, List.set_cons_succ])
  refine wpAnyH_takeD (i := 1) (d := some 4) (v := ?_) rfl (by kernel_rfl) (by kernel_rfl) (by kernel_rfl) (by kernel_rfl) (fun _ _ _ h => h) (Or.inl ⟨by kernel_rfl, ?_⟩) (by assumption) ?_
  rotate_left
  · (intro w hSw; (try dsimp only at hSw); go_simp; try with_reducible rfl)
  (try simp only [Act.put, List.setIfInBounds_toArray, List.set_cons_zero, List.set_cons_succ])
  refine wpAnyH_takeD (i := 2) (d := some 5) (v := ?_) rfl (by kernel_rfl) (by kernel_rfl) (by kernel_rfl) (by kernel_rfl) (fun _ _ _ h => h) (Or.inl ⟨by kernel_rfl, ?_⟩) (by assumption) ?_
  rotate_left
  · (intro w hSw; (try dsimp only at hSw); go_simp; try with_reducible rfl)
  (try simp only [Act.put, List.setIfInBounds_toArray, List.set_cons_zero, List.set_cons_succ])
  refine wpAnyH_takeD (i := 3) (d := some 6) (v := ?_) rfl (by kernel_rfl) (by kernel_rfl) (by kernel_rfl) (by kernel_rfl) (fun _ _ _ h => h) (Or.inl ⟨by kernel_rfl, ?_⟩) (by assumption) ?_
  rotate_left
  · (intro w hSw; (try dsimp only at hSw); go_simp; try with_reducible rfl)
  (try simp only [Act.put, List.setIfInBounds_toArray, List.set_cons_zero, List.set_cons_succ])
  refine wpAnyH_takeD (i := 4) (d := some 7) (v := ?_) rfl (by kernel_rfl) (by kernel_rfl) (by kernel_rfl) (by kernel_rfl) (fun _ _ _ h => h) (Or.inl ⟨by kernel_rfl, ?_⟩) (by assumption) ?_
  rotate_left
  · (intro w hSw; (try dsimp only at hSw); go_simp; try with_reducible rfl)
  (try simp only [Act.put, List.setIfInBounds_toArray, List.set_cons_zero, List.set_cons_succ])
  refine wpAnyH_takeD (i := 5) (d := some 8) (v := ?_) rfl (by kernel_rfl) (by kernel_rfl) (by kernel_rfl) (by kernel_rfl) (fun _ _ _ h => h) (Or.inl ⟨by kernel_rfl, ?_⟩) (by assumption) ?_
  rotate_left
  · (intro w hSw; (try dsimp only at hSw); go_simp; try with_reducible rfl)
  (try simp only [Act.put, List.setIfInBounds_toArray, List.set_cons_zero, List.set_cons_succ])
  refine wpAnyH_takeD (i := 6) (d := some 9) (v := ?_) rfl (by kernel_rfl) (by kernel_rfl) (by kernel_rfl) (by kernel_rfl) (fun _ _ _ h => h) (Or.inl ⟨by kernel_rfl, ?_⟩) (by assumption) ?_
  rotate_left
  · (intro w hSw; (try dsimp only at hSw); go_simp; try with_reducible rfl)
  (try simp only [Act.put, List.setIfInBounds_toArray, List.set_cons_zero, List.set_cons_succ])
  refine wpAnyH_takeD (i := 7) (d := some 10) (v := ?_) rfl (by kernel_rfl) (by kernel_rfl) (by kernel_rfl) (by kernel_rfl) (fun _ _ _ h => h) (Or.inl ⟨by kernel_rfl, ?_⟩) (by assumption) ?_
  rotate_left
  · (intro w hSw; (try dsimp only at hSw); go_simp; try with_reducible rfl)
  (try simp only [Act.put, List.setIfInBounds_toArray, List.set_cons_zero, List.set_cons_succ])
  refine wpAnyH_takeD (i := 8) (d := some 11) (v := ?_) rfl (by kernel_rfl) (by kernel_rfl) (by kernel_rfl) (by kernel_rfl) (fun _ _ _ h => h) (Or.inl ⟨by kernel_rfl, ?_⟩) (by assumption) ?_
  rotate_left
  · (intro w hSw; (try dsimp only at hSw); go_simp; try with_reducible rfl)
  (try simp only [Act.put, List.setIfInBounds_toArray, List.set_cons_zero, List.set_cons_succ])
  refine wpAnyH_takeD (i := 9) (d := some 12) (v := ?_) rfl (by kernel_rfl) (by kernel_rfl) (by kernel_rfl) (by kernel_rfl) (fun _ _ _ h => h) (Or.inl ⟨by kernel_rfl, ?_⟩) (by assumption) ?_
  rotate_left
  · (intro w hSw; (try dsimp only at hSw); go_simp; try with_reducible rfl)
  (try simp only [Act.put, List.setIfInBounds_toArray, List.set_cons_zero, List.set_cons_succ])
  refine wpAnyH_ready (rs := [10]) (by kernel_rfl) (by simp) ?_
  refine AllReadyH.cons rfl (fun K0 hK => ?_) AllReadyH.nil
  have c0 := cell_of_row _ _ 0 _ _ _ HR.out
  have c1 := cell_of_row _ _ 1 _ _ _ HR.out
  have c2 := cell_of_row _ _ 2 _ _ _ HR.out
  have c3 := cell_of_row _ _ 3 _ _ _ HR.out
  have f0 := frozen_of_row _ gr 0 _ _ HR.out
  have f1 := frozen_of_row _ gr 1 _ _ HR.out
  have f2 := frozen_of_row _ gr 2 _ _ HR.out
  have f3 := frozen_of_row _ gr 3 _ _ HR.out
  have jl := heap_lt HR.out
  go_simp
  refine hK.out _ _ ⟨cell_set4 n1 hHeld.1, cell_set4 n1 hHeld.2.1, cell_set4 n2 hHeld.2.2.1, cell_set4 n2 hHeld.2.2.2.1, cell_set4 n2 hHeld.2.2.2.2.1, cell_set4 n2 hHeld.2.2.2.2.2⟩ (fun hHeld => ?_)
  clear hK K0
  (try simp only [Act.put, List.setIfInBounds_toArray, List.set_cons_zero, List.set_cons_succ])
  refine wpAnyH_done (by kernel_rfl) ?_ _
  (try simp only [Act.put, List.setIfInBounds_toArray, List.set_cons_zero, List.set_cons_succ])
  have hfin := heap_set4 (w := w1) (v0 := .int .i64 k) (v1 := .int .i64 n) (v2 := .int .i64 v) (v3 := .string (st tt)) HR.out
  have hbel := (below_set4 (w := w1) (B := w.heap.size) (w0 := w) (b := gr) (v0 := .int .i64 k) (v1 := .int .i64 n) (v2 := .int .i64 v) (v3 := .string (st tt)) HB.out.1 (by rw [HB.out.2]; exact Nat.le_refl _)).drew
  have hfin : (set4 w1 gr (.int .i64 k) (.int .i64 n) (.int .i64 v) (.string (st tt))).drew.heap[gr]? = some (.cells #[.int .i64 k, .int .i64 n, .int .i64 v, .string (st tt)] 59 (0, 0)) := hfin
  have d0 := cell_of_row _ _ 0 _ _ _ hfin
  have d1 := cell_of_row _ _ 1 _ _ _ hfin
  have d2 := cell_of_row _ _ 2 _ _ _ hfin
  have d3 := cell_of_row _ _ 3 _ _ _ hfin
  have HBEL := Lib.hid hbel
  obtain ⟨wn, hwn⟩ : ∃ wn, (set4 w1 gr (.int .i64 k) (.int .i64 n) (.int .i64 v) (.string (st tt))).drew = wn := ⟨_, rfl⟩
  have hwn2 := hwn
  unfold set4 at hwn2
  rw [hwn2]
  rw [hwn] at HBEL d0 d1 d2 d3
  clear hwn hwn2 hfin hbel c0 c1 c2 c3 f0 f1 f2 f3 jl hHeld q0 q1 s0 s1 s2 s3
  go_wp2_with fail
  refine bodyPost_ret (v := .agg #[.int .i64 k, .int .i64 n, .int .i64 v, .string (st tt)]) (by simp [results, Tryd.results36, go_sem, d0, d1, d2, d3]) rfl ?_
  exact ⟨rfl, HBEL.out⟩
theorem now_at (K : PC) (at_ : Nat) (bad : Bool) (k n v : Int) (tt : Bt) (r : List Tk) (w : World) (h : RAt w K at_ bad (⟨k, n, v, tt⟩ :: r)) : Calls Tryd.prog 36 #[.pointer (some ⟨K.g, 0, none⟩)] w fun e w' => e = .returned (.agg #[.int .i64 k, .int .i64 n, .int .i64 v, .string (st tt)]) ∧ Below w.heap.size w w' := now_any K at_ bad _ w h

set_option maxRecDepth 100000 in
set_option maxHeartbeats 4000000 in
theorem ris_any (K : PC) (at_ : Nat) (bad : Bool) (rest : List Tk) (t : Bt) (w : World) (h : RAt w K at_ bad rest) : Calls Tryd.prog 35 #[.pointer (some ⟨K.g, 0, none⟩), .string (st t)] w fun e w' => e = .returned (.bool (!bad && isT t rest)) ∧ Below w.heap.size w w' := by
  obtain ⟨⟨k, n, v, tt⟩, r, rfl⟩ := h.en.cons
  have HP := Lib.hid h
  clear h
  go_enter Tryd.func35, Tryd.ntmps35
  go_wp2_with fail
  refine (now_at K at_ bad k n v tt r _ HP.out).mono ?_
  rintro e w2 ⟨rfl, hb2⟩
  have hb3 := below_alloc w2 (.cells #[.int .i64 k, .int .i64 n, .int .i64 v, .string (st tt)] 59)
  have hr := heap_alloc_new w2 (.cells #[.int .i64 k, .int .i64 n, .int .i64 v, .string (st tt)] 59)
  go_upto_region 2 with fail
  obtain ⟨w3, hw3⟩ : ∃ W, w2.alloc (.cells #[.int .i64 k, .int .i64 n, .int .i64 v, .string (st tt)] 59) = W := ⟨_, rfl⟩
  obtain ⟨gr, hgr⟩ : ∃ x, w2.heap.size = x := ⟨_, rfl⟩
  rw [hw3] at hr hb3 ⊢
  rw [hgr] at hr
  (try rw [hgr])
  have HB := Lib.hid (hb2.trans (hb3.mono hb2.size))
  have c0 := cell_of_row _ _ 0 _ _ _ hr
  have c3 := cell_of_row _ _ 3 _ _ _ hr
  have hl := heap_lt hr
  obtain ⟨-, -, p2, -, -, hlp⟩ := (HP.out.below HB.out).cells
  clear hw3 hgr hr hb3 hb2
  cases bad
  · cases h3 : (k == 3)
    · cases h4 : (k == 4)
      · have HE : Hid (isT t ({ k := k, n := n, v := v, t := tt } :: r) = false) := Lib.hid (by simp [isT, h3, h4])
        go_wp2_with fail
        go_ret
        exact ⟨by rw [HE.out]; try rfl, HB.out⟩
      · have HE : Hid (isT t ({ k := k, n := n, v := v, t := tt } :: r) = (tt == t)) := Lib.hid (by simp [isT, h3, h4])
        go_wp2_with fail
        go_ret
        exact ⟨by rw [HE.out]; try rfl, HB.out⟩
    · have HE : Hid (isT t ({ k := k, n := n, v := v, t := tt } :: r) = (tt == t)) := Lib.hid (by simp [isT, h3])
      go_wp2_with fail
      go_ret
      exact ⟨by rw [HE.out]; try rfl, HB.out⟩
  · go_wp2_with fail
    go_ret
    exact ⟨by try rfl, HB.out⟩
/-- what accept leaves -/
def RcPost (K : PC) (at_ : Nat) (bad : Bool) (rest : List Tk) (t : Bt) (w : World) (e : Ending) (w' : World) : Prop :=
  ∃ at2 rest2, e = .returned (.bool (!bad && isT t rest)) ∧ RAt w' K at2 bad rest2 ∧ w.grownBy w' (some K.g) ∧ ((bad = false ∧ isT t rest = true ∧ at2 = at_ + 1 ∧ rest2 = rest.tail) ∨ ((!bad && isT t rest) = false ∧ at2 = at_ ∧ rest2 = rest))
set_option maxRecDepth 100000 in
set_option maxHeartbeats 4000000 in
theorem raccept_any (K : PC) (at_ : Nat) (bad : Bool) (rest : List Tk) (t : Bt) (w : World) (h : RAt w K at_ bad rest) : Calls Tryd.prog 120 #[.pointer (some ⟨K.g, 0, none⟩), .string (st t)] w (RcPost K at_ bad rest t w) := by
  have HP := Lib.hid h
  clear h
  go_enter Tryd.func120, Tryd.ntmps120
  go_wp2_with fail
  refine (ris_any K at_ bad rest t _ HP.out).mono ?_
  rintro e w2 ⟨rfl, hb2⟩
  have HP2 := Lib.hid (HP.out.below hb2)
  have HG2 := Lib.hid (grownBy_of_below hb2 (some K.g))
  clear hb2
  cases hT : (!bad && isT t rest)
  · have HT := Lib.hid hT
    clear hT
    go_wp2_with fail
    go_ret
    exact ⟨at_, rest, by rw [HT.out]; rfl, HP2.out, HG2.out, .inr ⟨HT.out, rfl, rfl⟩⟩
  · obtain ⟨rfl, hT2⟩ : bad = false ∧ isT t rest = true := by simpa using hT
    have HT := Lib.hid hT2
    obtain ⟨-, p1, -, f1, -, hl⟩ := HP2.out.cells
    have hn := HP2.out.n
    have hlt := HP2.out.lt.1
    have hw1 : IntKind.i64.wrap ((at_ : Int) + 1) = (at_ : Int) + 1 := by rw [IntKind.wrap_i64]; omega
    have HF := Lib.hid (And.intro (HP2.out.step (isT_k HT.out).2.2.1) (grownBy_trans HG2.out (grownBy_set w2 K.g 1 (.int .i64 ((at_ : Int) + 1)))))
    clear hn hlt hT hT2
    go_wp2_with fail
    go_ret
    exact ⟨at_ + 1, rest.tail, by rw [HT.out]; rfl, HF.out.1, HF.out.2, .inl ⟨rfl, HT.out, rfl, rfl⟩⟩

end Go.Proofs.YtlbjdglgnkajnaaDoor
