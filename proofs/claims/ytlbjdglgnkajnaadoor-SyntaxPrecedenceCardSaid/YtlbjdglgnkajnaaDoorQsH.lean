/-
  WORDS of the reference's reader's called: a call's arguments in a row of their own. (Filled in from a template of this repo.)
-/
import Derived.Test.YtlbjdglgnkajnaaDoorQsP
import Derived.Test.YtlbjdglgnkajnaaDoorPsC
namespace Go.Proofs.YtlbjdglgnkajnaaDoor
open Go.ChangeShapes Go.WideShapes Go.ChangeAt Go.RowKit
set_option linter.unusedVariables false
set_option linter.unusedSimpArgs false

theorem isT_eq {s t : Bt} {ts : List Tk} (h : isT s ts = true) (k : isT t ts = true) : s = t := by
  cases ts with
  | nil => cases h
  | cons x r =>
    simp only [isT, Bool.and_eq_true, beq_iff_eq] at h k
    exact h.2.symm.trans k.2
theorem isT_no {s t : Bt} {ts : List Tk} (h : isT s ts = true) (hn : s ≠ t) : isT t ts = false := by
  cases hk : isT t ts
  · rfl
  · exact absurd (isT_eq h hk) hn
/-- what comes next behind a primary -/
def CLc (rest : List Tk) (x : Fo) (r : List Tk) : Prop := ∀ z, Ps (.caL ((hdOf x).k == 13 && kOf rest == 1) x) r z → Ps .ca rest z
theorem RS.own {K : PC} {w wx wy : World} {at2 : Nat} {bad : Bool} {r : List Tk} {row : Option Nat} (h : RS K w wx at2 bad r) (hg : wx.grownBy wy row) (hrow : ∀ k, row = some k → w.heap.size ≤ k) : RS K w wy at2 bad r :=
  ⟨h.pat.grown hg (fun k e => ⟨by have := hrow k e; have := h.gl; omega, fun x hx => by have := hrow k e; have := h.tl x hx; omega⟩),
   ⟨hg.os.trans h.gr.os, hg.tape.trans h.gr.tape, hg.output.trans h.gr.output, Nat.le_trans h.gr.size hg.size, fun k hk hn => (hg.block k (by have := h.gr.size; omega) (fun e => by have := hrow k e.symm; omega)).trans (h.gr.block k hk hn)⟩, h.gl, h.tl⟩
theorem Lt.grw {wx wy : World} {b : Nat} {x : Tk} {row : Option Nat} (k : Lt wx b x) (hg : wx.grownBy wy row) (hn : row ≠ some b) : Lt wy b x := (hg.block b k.lt (fun e => hn e.symm)).trans k
theorem Lt.s6o {wx : World} {b g : Nat} {x : Tk} {v0 v1 v2 v3 v4 v5 : Value} (k : Lt wx b x) (hn : b ≠ g) : Lt (set6 wx g v0 v1 v2 v3 v4 v5) b x := (other_set6 b hn).trans k
/-- where the trees lie while the arguments' row v grows -/
abbrev TBj (w : World) (gR gx : Nat) (v : Value) : Nat → Prop := fun b => TBk w gR gx b ∧ some b ≠ v.ownBlock
/-- called, in midst of the arguments -/
structure CJ (K : PC) (w : World) (gR gt gx : Nat) (x0 : Tk) (h : Hd) (sl : Value) (ar : Fo) (v : Value) (nn : Nat) (xs : List Value) (at2 : Nat) (bad2 : Bool) (r : List Tk) (wx : World) : Prop where
  ms : RS K w wx at2 bad2 r
  rc : Lc wx gR zhd (.slice none 0 0)
  tc : Lt wx gt x0
  xc : Lc wx gx h sl
  own : wx.ownsRow w.heap.size 31 6 v nn xs
  ne : w.heap.size ≤ gR ∧ gR < gt ∧ gt < gx ∧ v.ownBlock ≠ some gR ∧ v.ownBlock ≠ some gt ∧ v.ownBlock ≠ some gx
  ax : ArgsAt wx (TBj w gR gx v) ar sl
/-- the trees of the arguments -/
def FJ (w : World) (gR gx : Nat) (v : Value) (nn : Nat) (xs : List Value) (F : Fo) (wx : World) : Prop := FoAt wx (TBj w gR gx v) F xs ∧ F.len = nn
section
variable {K : PC} {w wx wy : World} {gR gt gx : Nat} {x0 : Tk} {h : Hd} {sl : Value} {ar : Fo} {v : Value} {nn : Nat} {xs : List Value} {at2 at3 : Nat} {bad2 bad3 : Bool} {r r3 : List Tk} {F : Fo}
theorem CJ.gr (k : CJ K w gR gt gx x0 h sl ar v nn xs at2 bad2 r wx) (hp : RAt wy K at3 bad3 r3) (hg : wx.grownBy wy (some K.g)) : CJ K w gR gt gx x0 h sl ar v nn xs at3 bad3 r3 wy := by
  have hl := k.ms.gl
  obtain ⟨n1, n2, n3, n4, n5, n6⟩ := k.ne
  exact ⟨k.ms.call hp hg, k.rc.gr hg (by omega), k.tc.gr hg (by omega), k.xc.gr hg (by omega), own_grown k.own hg hl, k.ne, args_gr k.ax hg (fun b hb => by have := hb.1.1; omega)⟩
theorem CJ.be (k : CJ K w gR gt gx x0 h sl ar v nn xs at2 bad2 r wx) (hb : Below wx.heap.size wx wy) : CJ K w gR gt gx x0 h sl ar v nn xs at2 bad2 r wy :=
  k.gr (k.ms.be hb).pat (grownBy_of_below hb _)
theorem FJ.gr (f : FJ w gR gx v nn xs F wx) {g : Nat} (hg : wx.grownBy wy (some g)) (h0 : g < w.heap.size) : FJ w gR gx v nn xs F wy :=
  ⟨f.1.keep (fun b hb hlt => ⟨hg.block b hlt (fun e => by injection e with e; have := hb.1.1; omega), hb⟩) hg.size, f.2⟩
theorem FJ.nil (w : World) (gR gx : Nat) (wx : World) : FJ w gR gx (.slice none 0 0) 0 [] .nil wx := ⟨rfl, rfl⟩
/-- one more argument -/
theorem CJ.push (k : CJ K w gR gt gx x0 h sl ar v nn xs at2 bad2 r wx) {ob : Obj} {g9 c9 : Nat} {w9 : World} {xs9 : List Value} (hg9 : (wx.alloc ob).grownBy w9 v.ownBlock) (h9 : v.ownBlock = some g9 ∨ g9 = (wx.alloc ob).heap.size)
    (ho : w9.ownsRow w.heap.size 31 6 (.slice (some ⟨g9, 0, none⟩) (nn + 1) c9) (nn + 1) xs9) :
    CJ K w gR gt gx x0 h sl ar (.slice (some ⟨g9, 0, none⟩) (nn + 1) c9) (nn + 1) xs9 at2 bad2 r w9 := by
  have ka := k.be (below_alloc wx ob)
  obtain ⟨n1, n2, n3, n4, n5, n6⟩ := k.ne
  have l1 := ka.rc.lt
  have l2 := ka.tc.lt
  have l3 := ka.xc.lt
  have hsA : (wx.alloc ob).heap.size = wx.heap.size + 1 := by simp
  have q7 : g9 ≠ gR := by rcases h9 with e | e; (intro e2; rw [e, e2] at n4; exact n4 rfl); omega
  have q8 : g9 ≠ gt := by rcases h9 with e | e; (intro e2; rw [e, e2] at n5; exact n5 rfl); omega
  have q9 : g9 ≠ gx := by rcases h9 with e | e; (intro e2; rw [e, e2] at n6; exact n6 rfl); omega
  refine ⟨ka.ms.own hg9 (fun k2 e => (k.own.lt k2 e).1), ka.rc.grw hg9 n4, ka.tc.grw hg9 n5, ka.xc.grw hg9 n6, ho, ⟨n1, n2, n3, ?_, ?_, ?_⟩, ?_⟩
  · show some g9 ≠ some gR; simp; exact q7
  · show some g9 ≠ some gt; simp; exact q8
  · show some g9 ≠ some gx; simp; exact q9
  · refine k.ax.keep (fun b hb hlt => ⟨(hg9.block b (by omega) hb.2).trans (Below.heap_alloc wx ob b hlt), hb.1, ?_⟩) (by have := hg9.size; omega)
    show some b ≠ some g9
    rcases h9 with e | e
    · rw [← e]; exact hb.2
    · simp; omega
theorem FJ.push (f : FJ w gR gx v nn xs F wx) {h2 : Hd} {s2 : Value} {ar2 : Fo} (ha : ArgsAt wx (TBj w gR gx v) ar2 s2) {ob : Obj} {g9 c9 : Nat} {w9 : World} (hg9 : (wx.alloc ob).grownBy w9 v.ownBlock) (h9 : v.ownBlock = some g9 ∨ g9 = (wx.alloc ob).heap.size) :
    FJ w gR gx (.slice (some ⟨g9, 0, none⟩) (nn + 1) c9) (nn + 1) (xs ++ hdc h2 s2) (F.app (one1 h2 ar2)) w9 := by
  have hsA : (wx.alloc ob).heap.size = wx.heap.size + 1 := by simp
  have hs9 := hg9.size
  have key : ∀ b, TBj w gR gx v b → b < wx.heap.size → w9.heap[b]? = wx.heap[b]? ∧ TBj w gR gx (.slice (some ⟨g9, 0, none⟩) (nn + 1) c9) b := fun b hb hlt =>
    ⟨(hg9.block b (by omega) hb.2).trans (Below.heap_alloc wx ob b hlt), hb.1, by
      show some b ≠ some g9
      rcases h9 with e | e
      · rw [← e]; exact hb.2
      · simp; omega⟩
  exact ⟨FoAt.app (f.1.keep key (by omega)) (ArgsAt.one (ha.keep key (by omega))), by rw [Fo.len_app, f.2]; rfl⟩
theorem CJ.shape (k : CJ K w gR gt gx x0 h sl ar v nn xs at2 bad2 r wx) : ∃ a c, v = .slice a nn c := by
  rcases k.own.2 with ⟨e, e2⟩ | ⟨g9, cap, cur, e, _⟩
  · exact ⟨none, 0, by rw [e, e2]⟩
  · exact ⟨_, _, e⟩
/-- the arguments' row is the list of these trees -/
theorem CJ.args (k : CJ K w gR gt gx x0 h sl ar v nn xs at2 bad2 r wx) (f : FJ w gR gx v nn xs F wx) : ArgsAt wx (TBk w gR gx) F v :=
  ArgsAt.of_own (e := 31) (size := 6) (base := w.heap.size) (by rw [f.2]; exact k.own) (f.1.keep (fun b hb _ => ⟨rfl, hb.1⟩) (Nat.le_refl _)) (fun b hb => ⟨(k.own.lt b hb).1, fun e => k.ne.2.2.2.1 (by rw [hb, e]), fun e => k.ne.2.2.2.2.2 (by rw [hb, e])⟩)
/-- behind the arguments -/
def JRes (K : PC) (w : World) (gR gx : Nat) (r0 : List Tk) (v : Value) (nn : Nat) (xs : List Value) (bad3 : Bool) (r3 : List Tk) (wx : World) : Prop :=
  (bad3 = false ∧ ∃ F, FJ w gR gx v nn xs F wx ∧ Ps (.ag true .nil) r0.tail (.ok F r3) ∧ r3.length < r0.tail.length) ∨ (bad3 = true ∧ Ps (.ag true .nil) r0.tail (.bad r3))
/-- the call of a name -/
theorem CJ.name (k : CJ K w gR gt gx x0 h sl ar v nn xs at2 bad2 r wx) {rest r0 : List Tk} {at_ : Nat} {bad : Bool} {a : Option Addr} {c : Nat} {ln : Int} (hv : v = .slice a nn c) (hle : r.length ≤ rest.length) (hr0 : r0.length < rest.length) (hj : JRes K w gR gx r0 v nn xs bad2 r wx) (hT : isT [40] r0 = true) (hc : CLc rest (one1 h ar) r0) (h13 : h.k = 13) (hk1 : kOf rest = 1) (hln : lnOf r0 = ln) :
    LQ K w gR gx .ca (CLc rest) at_ false rest ⟨9, 0, 0, ln, h.nm⟩ a nn c bad2 at2 r (set6 wx gx (.int .i64 9) (.int .i64 0) (.int .i64 0) (.int .i64 ln) (.string (st h.nm)) (.slice a nn c)) ∧ Lt (set6 wx gx (.int .i64 9) (.int .i64 0) (.int .i64 0) (.int .i64 ln) (.string (st h.nm)) (.slice a nn c)) gt x0 := by
  obtain ⟨n1, n2, n3, n4, n5, n6⟩ := k.ne
  refine ⟨⟨k.ms.s6 (by omega) _ _ _ _ _ _, k.rc.s6o (by omega), k.xc.s6 ⟨9, 0, 0, ln, h.nm⟩ _, hle, ?_⟩, k.tc.s6o (by omega)⟩
  have hpl : ((hdOf (one1 h ar)).k == 13 && kOf rest == 1) = true := by rw [hk1]; show (h.k == 13 && _) = true; rw [h13]; rfl
  rcases hj with ⟨h1, F, h2, h3, h4⟩ | ⟨h1, h2⟩
  · refine .inl ⟨rfl, h1, F, fun z hz => hc z ?_, args_s6 (hv ▸ k.args h2) (fun b hb => hb.2.2), by have : r0.tail.length ≤ r0.length := (by simp); omega⟩
    rw [hpl]
    refine Ps.caL_call hT h3 ?_
    have : ((hdOf (one1 ⟨9, 0, 0, ln, h.nm⟩ F)).k == 13 && kOf rest == 1) = false := rfl
    rw [this] at hz
    rw [hln]
    exact hz
  · refine .inr (.inl ⟨rfl, h1, hc _ ?_⟩)
    exact Ps.caL_bad hT h2
/-- the call of a value -/
theorem CJ.value (k : CJ K w gR gt gx x0 h sl ar v nn xs at2 bad2 r wx) {rest r0 : List Tk} {at_ : Nat} {bad : Bool} {ln : Int} {g9 c9 : Nat} {w9 : World} (hle : r.length ≤ rest.length) (hr0 : r0.length < rest.length) (hj : JRes K w gR gx r0 v nn xs bad2 r wx) (hT : isT [40] r0 = true) (hc : CLc rest (one1 h ar) r0) (hpl : (h.k == 13 && kOf rest == 1) = false) (hln : lnOf r0 = ln)
    (hg9 : (wx.alloc (.cells #[.int .i64 h.k, .int .i64 h.op, .int .i64 h.v, .int .i64 h.ln, .string (st h.nm), sl] 31)).grownBy w9 (some wx.heap.size)) (h9 : some wx.heap.size = some g9 ∨ g9 = (wx.alloc (.cells #[.int .i64 h.k, .int .i64 h.op, .int .i64 h.v, .int .i64 h.ln, .string (st h.nm), sl] 31)).heap.size)
    (ho : w9.ownsRow w.heap.size 31 6 (.slice (some ⟨g9, 0, none⟩) (1 + nn) c9) (1 + nn) (hdc h sl ++ xs)) :
    LQ K w gR gx .ca (CLc rest) at_ false rest ⟨10, 0, 0, ln, []⟩ (some ⟨g9, 0, none⟩) (1 + nn) c9 bad2 at2 r (set6 w9 gx (.int .i64 10) (.int .i64 0) (.int .i64 0) (.int .i64 ln) (.string { data := #[] }) (.slice (some ⟨g9, 0, none⟩) (1 + nn) c9)) ∧ Lt (set6 w9 gx (.int .i64 10) (.int .i64 0) (.int .i64 0) (.int .i64 ln) (.string { data := #[] }) (.slice (some ⟨g9, 0, none⟩) (1 + nn) c9)) gt x0 ∧
    Lc w9 gx h sl := by
  obtain ⟨n1, n2, n3, n4, n5, n6⟩ := k.ne
  have ka := k.be (below_alloc wx (.cells #[.int .i64 h.k, .int .i64 h.op, .int .i64 h.v, .int .i64 h.ln, .string (st h.nm), sl] 31))
  have hsA : (wx.alloc (.cells #[.int .i64 h.k, .int .i64 h.op, .int .i64 h.v, .int .i64 h.ln, .string (st h.nm), sl] 31)).heap.size = wx.heap.size + 1 := by simp
  have l1 := k.rc.lt
  have l2 := k.tc.lt
  have l3 := k.xc.lt
  have hs9 := hg9.size
  have hsw := k.ms.gr.size
  have hgw : w.heap.size ≤ g9 := by rcases h9 with e | e; (injection e with e; omega); omega
  have hgx : gx < g9 := by rcases h9 with e | e; (injection e with e; omega); omega
  have key : ∀ b, TBj w gR gx v b → b < wx.heap.size → w9.heap[b]? = wx.heap[b]? ∧ TBk w gR gx b := fun b hb hlt =>
    ⟨(hg9.block b (by omega) (fun e => by injection e with e; omega)).trans (Below.heap_alloc wx _ b hlt), hb.1⟩
  refine ⟨⟨(ka.ms.own hg9 (fun k2 e => by injection e with e; omega)).s6 (by omega) _ _ _ _ _ _, (ka.rc.gr hg9 (by omega)).s6o (by omega), (ka.xc.gr hg9 (by omega)).s6 ⟨10, 0, 0, ln, []⟩ _, hle, ?_⟩, (ka.tc.gr hg9 (by omega)).s6o (by omega), ka.xc.gr hg9 (by omega)⟩
  rcases hj with ⟨h1, F, h2, h3, h4⟩ | ⟨h1, h2⟩
  · refine .inl ⟨rfl, h1, (one1 h ar).app F, fun z hz => hc z ?_, ?_, by have : r0.tail.length ≤ r0.length := (by simp); omega⟩
    · have e1 : ((hdOf (one1 h ar)).k == 13 && kOf rest == 1) = false := hpl
      rw [e1]
      refine Ps.caL_value hT h3 ?_
      have : ((hdOf (one1 ⟨10, 0, 0, ln, []⟩ ((one1 h ar).app F))).k == 13 && kOf rest == 1) = false := rfl
      rw [this] at hz
      rw [hln]
      exact hz
    · refine args_s6 (ArgsAt.of_own (e := 31) (size := 6) (base := w.heap.size) (xs := hdc h sl ++ xs) ?_ ?_ ?_) (fun b hb => hb.2.2)
      · have : ((one1 h ar).app F).len = 1 + nn := by rw [Fo.len_app, h2.2]; rfl
        rw [this]
        exact ho
      · exact FoAt.app (ArgsAt.one (k.ax.keep key (by omega))) (h2.1.keep key (by omega))
      · intro b hb
        have hb2 : g9 = b := by have hb3 : some g9 = some b := hb; injection hb3
        rw [← hb2]
        exact ⟨hgw, by omega, by omega⟩
  · exact .inr (.inl ⟨rfl, h1, hc _ (Ps.caL_bad hT h2)⟩)
end
end Go.Proofs.YtlbjdglgnkajnaaDoor
