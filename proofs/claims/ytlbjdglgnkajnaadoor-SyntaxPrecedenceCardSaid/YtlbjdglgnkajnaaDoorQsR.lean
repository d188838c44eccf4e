/-
  WORDS of the reference's reader's walks: the world within its functions; its loops. (Filled in from a template of this repo.)
-/
import Derived.Test.YtlbjdglgnkajnaaDoorQsF
namespace Go.Proofs.YtlbjdglgnkajnaaDoor
open Go.ChangeShapes Go.WideShapes Go.ChangeAt Go.RowKit
set_option linter.unusedVariables false
set_option linter.unusedSimpArgs false

/-- the world in the midst of a function of the reader -/
structure RS (K : PC) (w wx : World) (at_ : Nat) (bad : Bool) (r : List Tk) : Prop where
  pat : RAt wx K at_ bad r
  gr : w.grownBy wx (some K.g)
  gl : K.g < w.heap.size
  tl : ∀ x, K.al = some x → x.block < w.heap.size
section
variable {K : PC} {w wx wy : World} {at_ at2 : Nat} {bad bad2 : Bool} {r r2 : List Tk}
theorem RS.init (h : RAt w K at_ bad r) : RS K w w at_ bad r := by
  refine ⟨h, ⟨rfl, rfl, rfl, Nat.le_refl _, fun _ _ _ => rfl⟩, h.glt, fun x hx => ?_⟩
  obtain ⟨y, s, b, off, _, e, hb, _⟩ := h.tok
  rw [e] at hx
  injection hx with hx
  subst hx
  exact hb
theorem RS.be (h : RS K w wx at_ bad r) (hb : Below wx.heap.size wx wy) : RS K w wy at_ bad r := ⟨h.pat.below hb, grownBy_trans h.gr (grownBy_of_below hb _), h.gl, h.tl⟩
theorem RS.al (h : RS K w wx at_ bad r) (o : Obj) : RS K w (wx.alloc o) at_ bad r := h.be (below_alloc wx o)
theorem RS.sc (h : RS K w wx at_ bad r) {p : Addr} (hp : w.heap.size ≤ p.block) (v : Value) : RS K w (wx.setCell p v) at_ bad r :=
  have hg : wx.grownBy (wx.setCell p v) (some p.block) := ⟨rfl, rfl, rfl, by simp [World.setCell], fun k hk hn => heap_setCell_other wx p k v (fun e => hn (by rw [e]))⟩
  ⟨h.pat.grown hg (fun k e => by injection e with e; subst e; exact ⟨by have := h.gl; omega, fun x hx => by have := h.tl x hx; omega⟩), grown_set1 h.gr hp, h.gl, h.tl⟩
theorem RS.s6 (h : RS K w wx at_ bad r) {b : Nat} (hb : w.heap.size ≤ b) (v0 v1 v2 v3 v4 v5 : Value) : RS K w (set6 wx b v0 v1 v2 v3 v4 v5) at_ bad r :=
  (((((h.sc (p := ⟨b, 0, none⟩) hb v0).sc (p := ⟨b, 1, none⟩) hb v1).sc (p := ⟨b, 2, none⟩) hb v2).sc (p := ⟨b, 3, none⟩) hb v3).sc (p := ⟨b, 4, none⟩) hb v4).sc (p := ⟨b, 5, none⟩) hb v5
theorem RS.step (h : RS K w wx at_ bad r) (hk : kOf r ≠ 0) : RS K w (wx.setCell ⟨K.g, 1, none⟩ (.int .i64 ((at_ : Int) + 1))) (at_ + 1) bad r.tail := ⟨h.pat.step hk, grownBy_trans h.gr (grownBy_set wx K.g 1 _), h.gl, h.tl⟩
theorem RS.call (h : RS K w wx at_ bad r) (hp : RAt wy K at2 bad2 r2) (hg : wx.grownBy wy (some K.g)) : RS K w wy at2 bad2 r2 := ⟨hp, grownBy_trans h.gr hg, h.gl, h.tl⟩
theorem RS.w1 (h : RS K w wx at_ bad r) : IntKind.i64.wrap ((at_ : Int) + 1) = (at_ : Int) + 1 := by
  have := h.pat.lt.1
  have := h.pat.n
  rw [IntKind.wrap_i64]; omega
end
theorem RAt.natAt {w : World} {K : PC} {at_ : Nat} {bad : Bool} {rest : List Tk} (h : RAt w K at_ bad rest) : Go.Proofs.YtlbjdglgnkajnaaDoor.natAt w K.g = at_ := by
  unfold Go.Proofs.YtlbjdglgnkajnaaDoor.natAt
  rw [h.cells.2.1]
  simp
theorem CQ.mono {f : FuncId} {lv : Lv} {m n : Nat} (h : CQ f lv m) (hn : n ≤ m) : CQ f lv n := fun K at_ bad rest w hp hl => h K at_ bad rest w hp (Nat.le_trans hl hn)
/-- what comes next in a loop of this level -/
def CL (lv : Lv) (L : Fo → Lv) (rest : List Tk) (x : Fo) (r : List Tk) : Prop := ∀ z, Ps (L x) r z → Ps lv rest z
/-- the loops of the reader: an expression x so far -/
structure LQ (K : PC) (w : World) (gR gx : Nat) (lv : Lv) (C : Fo → List Tk → Prop) (at_ : Nat) (bad : Bool) (rest : List Tk) (h : Hd) (a : Option Addr) (n c : Nat) (bad2 : Bool) (at2 : Nat) (r : List Tk) (wr : World) : Prop where
  ms : RS K w wr at2 bad2 r
  rc : Lc wr gR zhd (.slice none 0 0)
  xc : Lc wr gx h (.slice a n c)
  le : r.length ≤ rest.length
  res : (bad = false ∧ bad2 = false ∧ ∃ ar, C (one1 h ar) r ∧ ArgsAt wr (TBk w gR gx) ar (.slice a n c) ∧ r.length < rest.length) ∨ (bad = false ∧ bad2 = true ∧ Ps lv rest (.bad r)) ∨ (bad = true ∧ bad2 = true ∧ at2 = at_ ∧ r = rest)
/-- the same behind an operator's sign -/
structure LN (K : PC) (w : World) (gR gx : Nat) (lv : Lv) (C : Fo → List Tk → Prop) (rest : List Tk) (h : Hd) (a : Option Addr) (n c : Nat) (at2 : Nat) (r : List Tk) (ar : Fo) (wd : World) : Prop where
  ms : RS K w wd (at2 + 1) false r.tail
  rc : Lc wd gR zhd (.slice none 0 0)
  xc : Lc wd gx h (.slice a n c)
  co : C (one1 h ar) r
  ar : ArgsAt wd (TBk w gR gx) ar (.slice a n c)
  lt : r.length < rest.length
  tl : r.tail.length < r.length
  b1 : w.heap.size ≤ gR
  b2 : gR < gx
section
variable {K : PC} {w wr wz : World} {gR gx : Nat} {lv : Lv} {C : Fo → List Tk → Prop} {at_ : Nat} {bad : Bool} {rest : List Tk} {h : Hd} {a : Option Addr} {n c : Nat} {bad2 : Bool} {at2 : Nat} {r : List Tk}
theorem LQ.be (H : LQ K w gR gx lv C at_ bad rest h a n c bad2 at2 r wr) (hz : Below wr.heap.size wr wz) : LQ K w gR gx lv C at_ bad rest h a n c bad2 at2 r wz :=
  ⟨H.ms.be hz, H.rc.be hz, H.xc.be hz, H.le, by
    rcases H.res with ⟨h1, h2, ar, h3, h4, h5⟩ | hr
    · exact .inl ⟨h1, h2, ar, h3, h4.keep (fun b hb hlt => ⟨hz.block b hlt, hb⟩) hz.size, h5⟩
    · exact .inr hr⟩
/-- at the loop's end -/
theorem LQ.fin (H : LQ K w gR gx lv C at_ bad rest h a n c bad2 at2 r wr) (b1 : w.heap.size ≤ gR) (hend : bad2 = false → ∀ F, C F r → Ps lv rest (.ok F r)) :
    EQ K lv at_ bad rest w (.returned (exv h (.slice a n c))) (set6 wr gR (.int .i64 h.k) (.int .i64 h.op) (.int .i64 h.v) (.int .i64 h.ln) (.string (st h.nm)) (.slice a n c)) ∧
    Lc (set6 wr gR (.int .i64 h.k) (.int .i64 h.op) (.int .i64 h.v) (.int .i64 h.ln) (.string (st h.nm)) (.slice a n c)) gR h (.slice a n c) := by
  have hms := H.ms.s6 b1 (.int .i64 h.k) (.int .i64 h.op) (.int .i64 h.v) (.int .i64 h.ln) (.string (st h.nm)) (.slice a n c)
  refine ⟨⟨h, a, n, c, bad2, at2, r, rfl, hms.pat, H.le, hms.gr, Lib.hid ?_⟩, H.rc.s6 h (.slice a n c)⟩
  rcases H.res with ⟨h1, h2, ar, h3, h4, h5⟩ | hr | hr
  · exact .inl ⟨h1, h2, ar, hend h2 _ h3, args_mono (args_s6 h4 (fun b hb => hb.2.1)) (fun b hb _ => hb.1), h5⟩
  · exact .inr (.inl hr)
  · exact .inr (.inr hr)
/-- one sign on -/
theorem LQ.stp (H : LQ K w gR gx lv C at_ bad rest h a n c false at2 r wr) (b1 : w.heap.size ≤ gR) (b2 : gR < gx) (hk : kOf r ≠ 0) : bad = false ∧ ∃ ar, LN K w gR gx lv C rest h a n c at2 r ar ((wr.setCell ⟨K.g, 1, none⟩ (.int .i64 ((at2 : Int) + 1))).drew) := by
  have hgl := H.ms.gl
  rcases H.res with ⟨h1, h2, ar, h3, h4, h5⟩ | ⟨_, h2, _⟩ | ⟨_, h2, _⟩
  · refine ⟨h1, ar, (H.ms.step hk).be (Below.refl _ _).drew, (H.rc.s1 (p := ⟨K.g, 1, none⟩) (v := .int .i64 ((at2 : Int) + 1)) (by show gR ≠ K.g; omega)).be (Below.refl _ _).drew, (H.xc.s1 (p := ⟨K.g, 1, none⟩) (v := .int .i64 ((at2 : Int) + 1)) (by show gx ≠ K.g; omega)).be (Below.refl _ _).drew, h3, ?_, h5, ?_, b1, b2⟩
    · exact (args_s1 (p := ⟨K.g, 1, none⟩) (v := .int .i64 ((at2 : Int) + 1)) h4 (fun b hb => by show b ≠ K.g; have := hb.1; omega)).keep (fun b hb hlt => ⟨rfl, hb⟩) (Nat.le_refl _)
    · cases r with
      | nil => exact absurd rfl hk
      | cons x r => simp
  · cases h2
  · cases h2
/-- one round -/
theorem LN.fin {ar : Fo} {wd w7 w8 : World} {lvc : Lv} {h2 : Hd} {a2 : Option Addr} {n2 c2 : Nat} {bad7 : Bool} {at7 g : Nat} {r7 : List Tk} {k op ln : Int} (H : LN K w gR gx lv C rest h a n c at2 r ar wd) (hp7 : RAt w7 K at7 bad7 r7) (hle7 : r7.length ≤ r.tail.length) (hg7 : wd.grownBy w7 (some K.g))
    (hres : (false = false ∧ bad7 = false ∧ ∃ ar2, Ps lvc r.tail (.ok (one1 h2 ar2) r7) ∧ ArgsAt w7 (fun b => wd.heap.size ≤ b) ar2 (.slice a2 n2 c2) ∧ r7.length < r.tail.length) ∨ (false = false ∧ bad7 = true ∧ Ps lvc r.tail (.bad r7)) ∨ (false = true ∧ bad7 = true ∧ at7 = at2 + 1 ∧ r7 = r.tail))
    (hb8 : Below w7.heap.size w7 w8) (hargs : ∀ (P : Nat → Prop) (b1 b2 : Fo), ArgsAt w7 P b1 (.slice a n c) → ArgsAt w7 P b2 (.slice a2 n2 c2) → ArgsAt w8 (UpB w7 P) ((one1 h b1).app (one1 h2 b2)) (.slice (some ⟨g, 0, none⟩) 2 2))
    (hok : ∀ ar2, Ps lvc r.tail (.ok (one1 h2 ar2) r7) → C (one1 h ar) r → C (one1 ⟨k, op, 0, ln, []⟩ ((one1 h ar).app (one1 h2 ar2))) r7) (hbad : Ps lvc r.tail (.bad r7) → C (one1 h ar) r → Ps lv rest (.bad r7)) :
    LQ K w gR gx lv C at_ false rest ⟨k, op, 0, ln, []⟩ (some ⟨g, 0, none⟩) 2 2 bad7 at7 r7 (set6 w8 gx (.int .i64 k) (.int .i64 op) (.int .i64 0) (.int .i64 ln) (.string { data := #[] }) (.slice (some ⟨g, 0, none⟩) 2 2)) ∧ at2 < at7 := by
  have hgl := H.ms.gl
  have hb1 := H.b1
  have hb2 := H.b2
  have hw7 := H.ms.call hp7 hg7
  have xc7 := H.xc.gr hg7 (by omega)
  have rc7 := H.rc.gr hg7 (by omega)
  have hsz7 := hg7.size
  have hlx := H.xc.lt
  have htl := H.tl
  have hlt := H.lt
  refine ⟨⟨(hw7.be hb8).s6 (b := gx) (by omega) _ _ _ _ _ _, (rc7.be hb8).s6o (by omega), (xc7.be hb8).s6 ⟨k, op, 0, ln, []⟩ (.slice (some ⟨g, 0, none⟩) 2 2), by omega, ?_⟩, ?_⟩
  · rcases hres with ⟨_, h1, ar2, h2', h3, h4⟩ | ⟨_, h1, h2'⟩ | ⟨h1, _⟩
    · refine .inl ⟨rfl, h1, (one1 h ar).app (one1 h2 ar2), hok ar2 h2' H.co, ?_, by omega⟩
      have m1 := args_gr H.ar hg7 (fun b hb => by have := hb.1; omega)
      have m2 := args_mono (Q := TBk w gR gx) h3 (fun b hb _ => ⟨by have := H.ms.gr.size; omega, by omega, by omega⟩)
      have m := hargs (TBk w gR gx) ar ar2 m1 m2
      exact args_s6 (args_mono m (fun b hb _ => by
        rcases hb with ⟨hb, _⟩ | hb
        · exact hb
        · exact ⟨by have := hw7.gr.size; omega, by omega, by omega⟩)) (fun b hb => hb.2.2)
    · exact .inr (.inl ⟨rfl, h1, hbad h2' H.co⟩)
    · cases h1
  · have e1 := hp7.lt.2
    have e2 := H.ms.pat.lt.2
    have : at2 + 1 ≤ at7 := by omega
    omega
/-- the operator's sign is there -/
theorem LQ.yes {w4 : World} (H : LQ K w gR gx lv C at_ bad rest h a n c false at2 r wr) (hp : RAt w4 K (at2 + 1) false r.tail) (hg : wr.grownBy w4 (some K.g)) (b1 : w.heap.size ≤ gR) (b2 : gR < gx) (hk : kOf r ≠ 0) : bad = false ∧ ∃ ar, LN K w gR gx lv C rest h a n c at2 r ar w4 := by
  have hgl := H.ms.gl
  rcases H.res with ⟨h1, h2, ar, h3, h4, h5⟩ | ⟨_, h2, _⟩ | ⟨_, h2, _⟩
  · refine ⟨h1, ar, H.ms.call hp hg, H.rc.gr hg (by omega), H.xc.gr hg (by omega), h3, args_gr h4 hg (fun b hb => by have := hb.1; omega), h5, ?_, b1, b2⟩
    cases r with
    | nil => exact absurd rfl hk
    | cons x r => simp
  · cases h2
  · cases h2
theorem LQ.no {w4 : World} (H : LQ K w gR gx lv C at_ bad rest h a n c bad2 at2 r wr) (hp : RAt w4 K at2 bad2 r) (hg : wr.grownBy w4 (some K.g)) (b1 : w.heap.size ≤ gR) (b2 : gR < gx) : LQ K w gR gx lv C at_ bad rest h a n c bad2 at2 r w4 := by
  have hgl := H.ms.gl
  refine ⟨H.ms.call hp hg, H.rc.gr hg (by omega), H.xc.gr hg (by omega), H.le, ?_⟩
  rcases H.res with ⟨h1, h2, ar, h3, h4, h5⟩ | hr
  · exact .inl ⟨h1, h2, ar, h3, args_gr h4 hg (fun b hb => by have := hb.1; omega), h5⟩
  · exact .inr hr
theorem LN.be {ar : Fo} {wd we : World} (H : LN K w gR gx lv C rest h a n c at2 r ar wd) (hz : Below wd.heap.size wd we) : LN K w gR gx lv C rest h a n c at2 r ar we :=
  ⟨H.ms.be hz, H.rc.be hz, H.xc.be hz, H.co, H.ar.keep (fun b hb hlt => ⟨hz.block b hlt, hb⟩) hz.size, H.lt, H.tl, H.b1, H.b2⟩
/-- two operands are the result -/
theorem LN.ret {ar : Fo} {wd w7 w8 : World} {lvc : Lv} {h2 : Hd} {a2 : Option Addr} {n2 c2 : Nat} {bad7 : Bool} {at7 g : Nat} {r7 : List Tk} {k op ln : Int} (H : LN K w gR gx lv C rest h a n c at2 r ar wd) (hp7 : RAt w7 K at7 bad7 r7) (hle7 : r7.length ≤ r.tail.length) (hg7 : wd.grownBy w7 (some K.g))
    (hres : (false = false ∧ bad7 = false ∧ ∃ ar2, Ps lvc r.tail (.ok (one1 h2 ar2) r7) ∧ ArgsAt w7 (fun b => wd.heap.size ≤ b) ar2 (.slice a2 n2 c2) ∧ r7.length < r.tail.length) ∨ (false = false ∧ bad7 = true ∧ Ps lvc r.tail (.bad r7)) ∨ (false = true ∧ bad7 = true ∧ at7 = at2 + 1 ∧ r7 = r.tail))
    (hb8 : Below w7.heap.size w7 w8) (hargs : ∀ (P : Nat → Prop) (b1 b2 : Fo), ArgsAt w7 P b1 (.slice a n c) → ArgsAt w7 P b2 (.slice a2 n2 c2) → ArgsAt w8 (UpB w7 P) ((one1 h b1).app (one1 h2 b2)) (.slice (some ⟨g, 0, none⟩) 2 2))
    (hok : ∀ ar2, Ps lvc r.tail (.ok (one1 h2 ar2) r7) → C (one1 h ar) r → Ps lv rest (.ok (one1 ⟨k, op, 0, ln, []⟩ ((one1 h ar).app (one1 h2 ar2))) r7)) (hbad : Ps lvc r.tail (.bad r7) → C (one1 h ar) r → Ps lv rest (.bad r7)) :
    EQ K lv at_ false rest w (.returned (exv ⟨k, op, 0, ln, []⟩ (.slice (some ⟨g, 0, none⟩) 2 2))) (set6 w8 gR (.int .i64 k) (.int .i64 op) (.int .i64 0) (.int .i64 ln) (.string { data := #[] }) (.slice (some ⟨g, 0, none⟩) 2 2)) ∧
    Lc (set6 w8 gR (.int .i64 k) (.int .i64 op) (.int .i64 0) (.int .i64 ln) (.string { data := #[] }) (.slice (some ⟨g, 0, none⟩) 2 2)) gR ⟨k, op, 0, ln, []⟩ (.slice (some ⟨g, 0, none⟩) 2 2) := by
  have hgl := H.ms.gl
  have hb1 := H.b1
  have hb2 := H.b2
  have hw7 := H.ms.call hp7 hg7
  have rc7 := H.rc.gr hg7 (by omega)
  have hsz7 := hg7.size
  have hlr := H.rc.lt
  have htl := H.tl
  have hlt := H.lt
  have hms := (hw7.be hb8).s6 (b := gR) hb1 (.int .i64 k) (.int .i64 op) (.int .i64 0) (.int .i64 ln) (.string { data := #[] }) (.slice (some ⟨g, 0, none⟩) 2 2)
  refine ⟨⟨⟨k, op, 0, ln, []⟩, some ⟨g, 0, none⟩, 2, 2, bad7, at7, r7, rfl, hms.pat, by omega, hms.gr, Lib.hid ?_⟩, (rc7.be hb8).s6 ⟨k, op, 0, ln, []⟩ _⟩
  rcases hres with ⟨_, h1, ar2, h2', h3, h4⟩ | ⟨_, h1, h2'⟩ | ⟨h1, _⟩
  · refine .inl ⟨rfl, h1, (one1 h ar).app (one1 h2 ar2), hok ar2 h2' H.co, ?_, by omega⟩
    have m1 := args_gr H.ar hg7 (fun b hb => by have := hb.1; omega)
    have m2 := args_mono (Q := TBk w gR gx) h3 (fun b hb _ => ⟨by have := H.ms.gr.size; omega, by omega, by have := H.xc.lt; omega⟩)
    have m := hargs (TBk w gR gx) ar ar2 m1 m2
    refine args_mono (args_s6 (args_mono (Q := fun b => w.heap.size ≤ b ∧ b ≠ gR) m (fun b hb _ => ?_)) (fun b hb => hb.2)) (fun b hb _ => hb.1)
    rcases hb with ⟨hb, _⟩ | hb
    · exact ⟨hb.1, hb.2.1⟩
    · exact ⟨by have := hw7.gr.size; omega, by omega⟩
  · exact .inr (.inl ⟨rfl, h1, hbad h2' H.co⟩)
  · cases h1
end
theorem opin_yes {x o : Int} (h : (if x = 0 then none else some x) = some o) : x ≠ 0 ∧ x = o := by
  split at h
  · cases h
  · rename_i hx
    injection h with h
    exact ⟨hx, h⟩
theorem opin_no {x : Int} (h : (if x = 0 then none else some x) = none) : x = 0 := by
  split at h
  · assumption
  · cases h
/-- signs and operations in two new rows -/
theorem Sgn.new (w : World) (l : List (Bt × Int)) (ts ti : TypeId) : Sgn ((w.alloc (.cells (l.map (fun x => Value.string (st x.1))).toArray ts)).alloc (.cells (l.map (fun x => Value.int .i64 x.2)).toArray ti)) w.heap.size (w.heap.size + 1) l := by
  refine ⟨by simp; omega, by simp, fun j x hj => ⟨?_, ?_⟩⟩
  · exact cell_ml _ (cell_mk w _ ts rfl (by simp [hj]))
  · exact cell_mk _ _ ti (by simp) (by simp [hj])
end Go.Proofs.YtlbjdglgnkajnaaDoor
