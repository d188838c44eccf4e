/-
  WALKS of the reference's reader: expect, kind. (Filled in from a template of this repo.)
-/
import Derived.Test.YtlbjdglgnkajnaaDoorQsW
import Derived.Test.YtlbjdglgnkajnaaDoorPsZ
namespace Go.Proofs.YtlbjdglgnkajnaaDoor
open Go.ChangeShapes Go.WideShapes Go.ChangeAt Go.RowKit
set_option linter.unusedVariables false
set_option linter.unusedSimpArgs false

/-- the flag is set -/
theorem RAt.setBad {w : World} {K : PC} {at_ : Nat} {bad : Bool} {rest : List Tk} (h : RAt w K at_ bad rest) : RAt (w.setCell ⟨K.g, 2, none⟩ (.bool true)) K at_ true rest :=
  have hset := grownBy_set w K.g 2 (.bool true)
  { row := heap_setCell_same w K.g 2 _ _ _ h.row
    tk := fun j x hj => by
      obtain ⟨b, off, e, hb, h0, h1, h2, h3⟩ := h.tk j x hj
      have key : (w.setCell ⟨K.g, 2, none⟩ (.bool true)).heap[b]? = w.heap[b]? := hset.block b hb (fun e2 => by injection e2 with e2; exact h.ne _ e e2)
      have kc : ∀ o, (w.setCell ⟨K.g, 2, none⟩ (.bool true)).cell? ⟨b, o, none⟩ = w.cell? ⟨b, o, none⟩ := fun o => World.cell?_of_block (a := ⟨b, o, none⟩) key
      exact ⟨b, off, e, by have := hset.size; omega, (kc _).trans h0, (kc _).trans h1, (kc _).trans h2, (kc _).trans h3⟩
    ne := h.ne
    dr := h.dr
    en := h.en
    cap := h.cap
    n := h.n }
/-- what expect leaves -/
def RxPost (K : PC) (at_ : Nat) (bad : Bool) (rest : List Tk) (t : Bt) (w : World) (e : Ending) (w' : World) : Prop :=
  ∃ at2 bad2 rest2, e = .returned (.tuple #[]) ∧ RAt w' K at2 bad2 rest2 ∧ w.grownBy w' (some K.g) ∧ ((bad = false ∧ bad2 = false ∧ isT t rest = true ∧ at2 = at_ + 1 ∧ rest2 = rest.tail) ∨ ((!bad && isT t rest) = false ∧ bad2 = true ∧ at2 = at_ ∧ rest2 = rest))
set_option maxRecDepth 100000 in
set_option maxHeartbeats 4000000 in
theorem rexpect_any (K : PC) (at_ : Nat) (bad : Bool) (rest : List Tk) (t : Bt) (w : World) (h : RAt w K at_ bad rest) : Calls Tryd.prog 121 #[.pointer (some ⟨K.g, 0, none⟩), .string (st t)] w (RxPost K at_ bad rest t w) := by
  have HP := Lib.hid h
  clear h
  go_enter Tryd.func121, Tryd.ntmps121
  go_wp2_with fail
  refine (raccept_any K at_ bad rest t _ HP.out).mono ?_
  rintro e w2 ⟨at2, rest2, rfl, hp2, hg2, hc⟩
  have HP2 := Lib.hid hp2
  have HG2 := Lib.hid hg2
  clear hp2 hg2
  rcases hc with ⟨rfl, hT, rfl, rfl⟩ | ⟨hT, rfl, rfl⟩
  · have HT := Lib.hid hT
    (try rw [hT])
    clear hT
    go_wp2_with fail
    refine bodyPost_end (results_none rfl _ _ _) rfl ?_
    exact ⟨_, false, _, rfl, HP2.out, HG2.out, .inl ⟨rfl, rfl, HT.out, rfl, rfl⟩⟩
  · have HT := Lib.hid hT
    (try rw [hT])
    clear hT
    obtain ⟨-, -, p2, -, f2, hl⟩ := HP2.out.cells
    have HF := Lib.hid (And.intro HP2.out.setBad (grownBy_trans HG2.out (grownBy_set w2 K.g 2 (.bool true))))
    go_wp2_with fail
    refine bodyPost_end (results_none rfl _ _ _) rfl ?_
    exact ⟨_, true, _, rfl, HF.out.1, HF.out.2, .inr ⟨HT.out, rfl, rfl, rfl⟩⟩
/-- what kind leaves -/
def KdPost (K : PC) (at_ : Nat) (bad : Bool) (rest : List Tk) (k : Int) (w : World) (e : Ending) (w' : World) : Prop :=
  ∃ at2 bad2 rest2, RAt w' K at2 bad2 rest2 ∧ w.grownBy w' (some K.g) ∧ ((bad = false ∧ bad2 = false ∧ kOf rest = k ∧ e = .returned (tokv (hdT rest)) ∧ at2 = at_ + 1 ∧ rest2 = rest.tail) ∨ ((bad = true ∨ kOf rest ≠ k) ∧ bad2 = true ∧ e = .returned (tokv ⟨0, 0, 0, []⟩) ∧ at2 = at_ ∧ rest2 = rest))
theorem RAt.sc1 {w : World} {K : PC} {at_ : Nat} {bad : Bool} {rest : List Tk} (h : RAt w K at_ bad rest) {b o : Nat} (hb : b ≠ K.g ∧ ∀ x, K.al = some x → x.block ≠ b) (v : Value) : RAt (w.setCell ⟨b, o, none⟩ v) K at_ bad rest :=
  h.grown (grownBy_set w b o v) (fun k e => by injection e with e; subst e; exact hb)
theorem RAt.s4 {w : World} {K : PC} {at_ : Nat} {bad : Bool} {rest : List Tk} (h : RAt w K at_ bad rest) {b : Nat} (hb : b ≠ K.g ∧ ∀ x, K.al = some x → x.block ≠ b) (v0 v1 v2 v3 : Value) : RAt ((((w.setCell ⟨b, 0, none⟩ v0).setCell ⟨b, 1, none⟩ v1).setCell ⟨b, 2, none⟩ v2).setCell ⟨b, 3, none⟩ v3) K at_ bad rest :=
  (((h.sc1 hb v0).sc1 hb v1).sc1 hb v2).sc1 hb v3
theorem grown_s4 {w0 w : World} {b : Nat} {row : Option Nat} {v0 v1 v2 v3 : Value} (h : w0.grownBy w row) (hb : w0.heap.size ≤ b) : w0.grownBy ((((w.setCell ⟨b, 0, none⟩ v0).setCell ⟨b, 1, none⟩ v1).setCell ⟨b, 2, none⟩ v2).setCell ⟨b, 3, none⟩ v3) row :=
  grown_set1 (p := ⟨b, 3, none⟩) (grown_set1 (p := ⟨b, 2, none⟩) (grown_set1 (p := ⟨b, 1, none⟩) (grown_set1 (p := ⟨b, 0, none⟩) h hb) hb) hb) hb
theorem Lt.froz {wx : World} {b : Nat} {x : Tk} (k : Lt wx b x) : wx.frozen? ⟨b, 0, none⟩ = false ∧ wx.frozen? ⟨b, 1, none⟩ = false ∧ wx.frozen? ⟨b, 2, none⟩ = false ∧ wx.frozen? ⟨b, 3, none⟩ = false :=
  ⟨frozen_of_row _ b 0 _ _ k, frozen_of_row _ b 1 _ _ k, frozen_of_row _ b 2 _ _ k, frozen_of_row _ b 3 _ _ k⟩
theorem Lt.s4 {wx : World} {b : Nat} {x : Tk} (k : Lt wx b x) (y : Tk) : Lt ((((wx.setCell ⟨b, 0, none⟩ (.int .i64 y.k)).setCell ⟨b, 1, none⟩ (.int .i64 y.n)).setCell ⟨b, 2, none⟩ (.int .i64 y.v)).setCell ⟨b, 3, none⟩ (.string (st y.t))) b y :=
  heap_setCell_same _ b 3 _ _ _ (heap_setCell_same _ b 2 _ _ _ (heap_setCell_same _ b 1 _ _ _ (heap_setCell_same _ b 0 _ _ _ k)))
set_option maxRecDepth 100000 in
set_option maxHeartbeats 4000000 in
theorem kind_any (K : PC) (at_ : Nat) (bad : Bool) (rest : List Tk) (k : Int) (w : World) (h : RAt w K at_ bad rest) (hk0 : k ≠ 0) : Calls Tryd.prog 122 #[.pointer (some ⟨K.g, 0, none⟩), .int .i64 k] w (KdPost K at_ bad rest k w) := by
  obtain ⟨⟨rk, rn, rv, rt⟩, r, hxr⟩ := h.en.cons
  have HX := Lib.hid hxr
  have HAL : Hid (K.g < w.heap.size ∧ ∀ x, K.al = some x → x.block ≠ w.heap.size) := Lib.hid ⟨h.glt, fun x hx => by
    obtain ⟨b, off, e, hb, _⟩ := h.tk at_ ⟨rk, rn, rv, rt⟩ (by have h1 := h.dr; rw [hxr] at h1; have := congrArg (fun l => l[0]?) h1; simpa using this)
    rw [e] at hx
    injection hx with hx
    subst hx
    show b ≠ _
    omega⟩
  have HP := Lib.hid (h.below (below_alloc w (.cells #[.int .i64 0, .int .i64 0, .int .i64 0, .string ⟨#[]⟩] 59)))
  have HR1 := Lib.hid (Lt.new w ⟨0, 0, 0, []⟩)
  have HG1 := Lib.hid (grownBy_of_below (below_alloc w (.cells #[.int .i64 0, .int .i64 0, .int .i64 0, .string ⟨#[]⟩] 59)) (some K.g))
  have HK0 := Lib.hid hk0
  clear h hxr hk0
  go_enter Tryd.func122, Tryd.ntmps122
  go_upto_region 1 with fail
  obtain ⟨w1, hw1⟩ : ∃ W, w.alloc (.cells #[.int .i64 0, .int .i64 0, .int .i64 0, .string ⟨#[]⟩] 59) = W := ⟨_, rfl⟩
  obtain ⟨gr, hgr⟩ : ∃ x, w.heap.size = x := ⟨_, rfl⟩
  have HR1' : Hid (Lt w1 gr ⟨0, 0, 0, []⟩) := Lib.hid (by rw [← hw1, ← hgr]; exact HR1.out)
  rw [hw1] at HP HG1 ⊢
  rw [hgr] at HAL
  (try rw [hgr])
  have HGR := Lib.hid hgr
  clear hw1 hgr HR1
  go_wp2_with fail
  refine (now_at K at_ bad rk rn rv rt r _ (HX.out ▸ HP.out)).mono ?_
  rintro e w2 ⟨rfl, hb2⟩
  have hb3 := below_alloc w2 (.cells #[.int .i64 rk, .int .i64 rn, .int .i64 rv, .string (st rt)] 59)
  have HB := Lib.hid (hb2.trans (hb3.mono hb2.size))
  have HT3 := Lib.hid (Lt.new w2 ⟨rk, rn, rv, rt⟩)
  have HS2 : Hid (gr < w2.heap.size) := Lib.hid (by have := HR1'.out.lt; have := hb2.size; omega)
  go_upto_region 2 with fail
  obtain ⟨w3, hw3⟩ : ∃ W, w2.alloc (.cells #[.int .i64 rk, .int .i64 rn, .int .i64 rv, .string (st rt)] 59) = W := ⟨_, rfl⟩
  obtain ⟨gt, hgt⟩ : ∃ x, w2.heap.size = x := ⟨_, rfl⟩
  have HT4 : Hid (Lt w3 gt ⟨rk, rn, rv, rt⟩) := Lib.hid (by rw [← hw3, ← hgt]; exact HT3.out)
  rw [hw3] at HB ⊢
  rw [hgt] at HS2
  (try rw [hgt])
  clear hw3 hgt hb2 hb3 HT3
  have HP3 := Lib.hid (HP.out.below HB.out)
  have HR3 := Lib.hid (HR1'.out.be HB.out)
  have HG3 := Lib.hid (grownBy_trans HG1.out (grownBy_of_below HB.out (some K.g)))
  have hgl := HAL.out.1
  have hgrt := HS2.out
  obtain ⟨t0, t1, t2, t3⟩ := HT4.out.cells
  obtain ⟨y0, y1, y2, y3⟩ := HR3.out.cells
  obtain ⟨g0, g1, g2, g3⟩ := HR3.out.froz
  have hlR := HR3.out.lt
  have hlT := HT4.out.lt
  (try dsimp only at t0 t1 t2 t3 y0 y1 y2 y3)
  obtain ⟨-, p1, p2, f1, f2, hlp⟩ := HP3.out.cells
  have HBAD : Hid (∀ W, W = (((((w3.setCell ⟨K.g, 2, none⟩ (.bool true)).setCell ⟨gr, 0, none⟩ (.int .i64 0)).setCell ⟨gr, 1, none⟩ (.int .i64 0)).setCell ⟨gr, 2, none⟩ (.int .i64 0)).setCell ⟨gr, 3, none⟩ (.string ⟨#[]⟩)) → Lt W gr ⟨0, 0, 0, []⟩ ∧ RAt W K at_ true rest ∧ w.grownBy W (some K.g)) := Lib.hid (fun W hW => by
    subst hW
    exact ⟨(HR3.out.s1 (p := ⟨K.g, 2, none⟩) (v := .bool true) (by show gr ≠ K.g; omega)).s4 ⟨0, 0, 0, []⟩, HP3.out.setBad.s4 ⟨by omega, HAL.out.2⟩ _ _ _ _, grown_s4 (grownBy_trans HG3.out (grownBy_set w3 K.g 2 (.bool true))) (by have := HGR.out; omega)⟩)
  cases bad
  · by_cases hk : rk = k
    · subst hk
      have HK : Hid (kOf rest = rk ∧ hdT rest = ⟨rk, rn, rv, rt⟩) := Lib.hid (by rw [HX.out]; exact ⟨rfl, rfl⟩)
      have hn := HP3.out.n
      have hlt := HP3.out.lt.1
      have hw1 : IntKind.i64.wrap ((at_ : Int) + 1) = (at_ : Int) + 1 := by rw [IntKind.wrap_i64]; omega
      have HOK : Hid (∀ W, W = (((((w3.setCell ⟨K.g, 1, none⟩ (.int .i64 ((at_ : Int) + 1))).setCell ⟨gr, 0, none⟩ (.int .i64 rk)).setCell ⟨gr, 1, none⟩ (.int .i64 rn)).setCell ⟨gr, 2, none⟩ (.int .i64 rv)).setCell ⟨gr, 3, none⟩ (.string (st rt))) → Lt W gr ⟨rk, rn, rv, rt⟩ ∧ RAt W K (at_ + 1) false rest.tail ∧ w.grownBy W (some K.g)) := Lib.hid (fun W hW => by
        subst hW
        exact ⟨(HR3.out.s1 (p := ⟨K.g, 1, none⟩) (v := .int .i64 ((at_ : Int) + 1)) (by show gr ≠ K.g; omega)).s4 ⟨rk, rn, rv, rt⟩, (HP3.out.step (by rw [HK.out.1]; exact HK0.out)).s4 ⟨by omega, HAL.out.2⟩ _ _ _ _, grown_s4 (grownBy_trans HG3.out (grownBy_set w3 K.g 1 (.int .i64 ((at_ : Int) + 1)))) (by have := HGR.out; omega)⟩)
      clear hn hlt
      go_wp2_with fail
      obtain ⟨wz, hwz⟩ : ∃ W, (((((w3.setCell ⟨K.g, 1, none⟩ (.int .i64 ((at_ : Int) + 1))).setCell ⟨gr, 0, none⟩ (.int .i64 rk)).setCell ⟨gr, 1, none⟩ (.int .i64 rn)).setCell ⟨gr, 2, none⟩ (.int .i64 rv)).setCell ⟨gr, 3, none⟩ (.string (st rt))) = W := ⟨_, rfl⟩
      (try rw [hwz])
      obtain ⟨hd, hr, hg⟩ := HOK.out wz hwz.symm
      obtain ⟨d0, d1, d2, d3⟩ := hd.cells
      (try dsimp only at d0 d1 d2 d3)
      refine bodyPost_ret (v := tokv ⟨rk, rn, rv, rt⟩) (by simp [results, Tryd.results122, go_sem, d0, d1, d2, d3]) rfl ?_
      exact ⟨at_ + 1, false, rest.tail, hr, hg, .inl ⟨rfl, rfl, HK.out.1, by rw [HK.out.2], rfl, rfl⟩⟩
    · have dk : (rk == k) = false := by rw [beq_eq_false_iff_ne]; exact hk
      have dk2 : (rk != k) = true := by rw [bne_iff_ne]; exact hk
      have HK : Hid (kOf rest ≠ k) := Lib.hid (by rw [HX.out]; exact hk)
      clear hk
      go_wp2_with fail
      obtain ⟨wz, hwz⟩ : ∃ W, (((((w3.setCell ⟨K.g, 2, none⟩ (.bool true)).setCell ⟨gr, 0, none⟩ (.int .i64 0)).setCell ⟨gr, 1, none⟩ (.int .i64 0)).setCell ⟨gr, 2, none⟩ (.int .i64 0)).setCell ⟨gr, 3, none⟩ (.string ⟨#[]⟩)) = W := ⟨_, rfl⟩
      (try rw [hwz])
      obtain ⟨hd, hr, hg⟩ := HBAD.out wz hwz.symm
      obtain ⟨d0, d1, d2, d3⟩ := hd.cells
      (try dsimp only at d0 d1 d2 d3)
      refine bodyPost_ret (v := tokv ⟨0, 0, 0, []⟩) (by simp [results, Tryd.results122, go_sem, d0, d1, d2, d3]) rfl ?_
      exact ⟨at_, true, rest, hr, hg, .inr ⟨.inr HK.out, rfl, rfl, rfl, rfl⟩⟩
  · go_wp2_with fail
    obtain ⟨wz, hwz⟩ : ∃ W, (((((w3.setCell ⟨K.g, 2, none⟩ (.bool true)).setCell ⟨gr, 0, none⟩ (.int .i64 0)).setCell ⟨gr, 1, none⟩ (.int .i64 0)).setCell ⟨gr, 2, none⟩ (.int .i64 0)).setCell ⟨gr, 3, none⟩ (.string ⟨#[]⟩)) = W := ⟨_, rfl⟩
    (try rw [hwz])
    obtain ⟨hd, hr, hg⟩ := HBAD.out wz hwz.symm
    obtain ⟨d0, d1, d2, d3⟩ := hd.cells
    (try dsimp only at d0 d1 d2 d3)
    refine bodyPost_ret (v := tokv ⟨0, 0, 0, []⟩) (by simp [results, Tryd.results122, go_sem, d0, d1, d2, d3]) rfl ?_
    exact ⟨at_, true, rest, hr, hg, .inr ⟨.inl rfl, rfl, rfl, rfl, rfl⟩⟩
end Go.Proofs.YtlbjdglgnkajnaaDoor
