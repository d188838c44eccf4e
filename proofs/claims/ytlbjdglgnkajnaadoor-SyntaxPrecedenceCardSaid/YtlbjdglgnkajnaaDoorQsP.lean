/-
  WALK of the reference's reader: primary. (Filled in from a template of this repo, printed by mk_qsp.py.)
-/
import Derived.Test.YtlbjdglgnkajnaaDoorQsU
namespace Go.Proofs.YtlbjdglgnkajnaaDoor
open Go.ChangeShapes Go.WideShapes Go.ChangeAt Go.RowKit
set_option linter.unusedVariables false
set_option linter.unusedSimpArgs false

section
variable {K : PC} {w wx wy : World} {gR gt : Nat} {x : Tk} {lv : Lv} {at_ at2 at3 : Nat} {bad bad2 bad3 : Bool} {rest r r3 : List Tk}
/-- the result's block is written, and the function ends -/
theorem rq_fin {h0 : Hd} {s0 : Value} (M : RS K w wx at2 bad2 r) (R : Lc wx gR h0 s0) (b1 : w.heap.size ≤ gR) (hl : r.length ≤ rest.length) (h : Hd) (a : Option Addr) (n c : Nat)
    (hres : (bad = false ∧ bad2 = false ∧ ∃ ar, Ps lv rest (.ok (one1 h ar) r) ∧ ArgsAt wx (fun b => w.heap.size ≤ b ∧ b ≠ gR) ar (.slice a n c) ∧ r.length < rest.length) ∨ (bad = false ∧ bad2 = true ∧ Ps lv rest (.bad r)) ∨ (bad = true ∧ bad2 = true ∧ at2 = at_ ∧ r = rest)) (W : World)
    (hW : W = set6 wx gR (.int .i64 h.k) (.int .i64 h.op) (.int .i64 h.v) (.int .i64 h.ln) (.string (st h.nm)) (.slice a n c)) :
    Lc W gR h (.slice a n c) ∧ EQ K lv at_ bad rest w (.returned (exv h (.slice a n c))) W := by
  subst hW
  have h2 := M.s6 b1 (.int .i64 h.k) (.int .i64 h.op) (.int .i64 h.v) (.int .i64 h.ln) (.string (st h.nm)) (.slice a n c)
  refine ⟨R.s6 h _, h, a, n, c, bad2, at2, r, rfl, h2.pat, hl, h2.gr, Lib.hid ?_⟩
  rcases hres with ⟨e1, e1', ar, e2, e3, e4⟩ | e | e
  · exact .inl ⟨e1, e1', ar, e2, args_mono (args_s6 e3 (fun b hb => hb.2)) (fun b hb _ => hb.1), e4⟩
  · exact .inr (.inl e)
  · exact .inr (.inr e)
/-- one operand in a new row is the result -/
theorem rq_one {h : Hd} {a : Option Addr} {n c : Nat} {k op ln : Int} {nm : Bt} (M : RS K w wx at2 bad2 r) (R : Lc wx gR zhd (.slice none 0 0)) (b1 : w.heap.size ≤ gR) (hl : r.length ≤ rest.length)
    (hres : (bad = false ∧ bad2 = false ∧ ∃ ar, Ps lv rest (.ok (nd k op 0 ln nm (one1 h ar)) r) ∧ ArgsAt wx (fun b => w.heap.size ≤ b ∧ b ≠ gR) ar (.slice a n c) ∧ r.length < rest.length) ∨ (bad = false ∧ bad2 = true ∧ Ps lv rest (.bad r))) (W : World)
    (hW : W = (set6 wx gR (.int .i64 k) (.int .i64 op) (.int .i64 0) (.int .i64 ln) (.string (st nm)) (.slice (some ⟨wx.heap.size, 0, none⟩) 1 1)).alloc (.cells #[.int .i64 h.k, .int .i64 h.op, .int .i64 h.v, .int .i64 h.ln, .string (st h.nm), .slice a n c] 31)) :
    Lc W gR ⟨k, op, 0, ln, nm⟩ (.slice (some ⟨wx.heap.size, 0, none⟩) 1 1) ∧ EQ K lv at_ bad rest w (.returned (exv ⟨k, op, 0, ln, nm⟩ (.slice (some ⟨wx.heap.size, 0, none⟩) 1 1))) W := by
  rw [← set6_alloc _ R.lt] at hW
  have hA := R.al (.cells #[.int .i64 h.k, .int .i64 h.op, .int .i64 h.v, .int .i64 h.ln, .string (st h.nm), .slice a n c] 31)
  subst hW
  have hms := (M.al (.cells #[.int .i64 h.k, .int .i64 h.op, .int .i64 h.v, .int .i64 h.ln, .string (st h.nm), .slice a n c] 31)).s6 b1 (.int .i64 k) (.int .i64 op) (.int .i64 0) (.int .i64 ln) (.string (st nm)) (.slice (some ⟨wx.heap.size, 0, none⟩) 1 1)
  refine ⟨hA.s6 ⟨k, op, 0, ln, nm⟩ _, ⟨k, op, 0, ln, nm⟩, some ⟨wx.heap.size, 0, none⟩, 1, 1, bad2, at2, r, rfl, hms.pat, hl, hms.gr, Lib.hid ?_⟩
  have hsw := M.gr.size
  rcases hres with ⟨e1, e1', ar, e2, e3, e4⟩ | e
  · exact .inl ⟨e1, e1', one1 h ar, e2, args_mono (args_s6 (one_made (Q := fun b => w.heap.size ≤ b ∧ b ≠ gR) e3 (fun b hb _ => hb) ⟨hsw, by have := R.lt; omega⟩) (fun b hb => hb.2)) (fun b hb _ => hb.1), e4⟩
  · exact .inr (.inl e)
/-- within primary: the result's block and the first token -/
structure PD (K : PC) (w : World) (gR gt : Nat) (x : Tk) (at2 : Nat) (bad2 : Bool) (r : List Tk) (wx : World) : Prop where
  ms : RS K w wx at2 bad2 r
  rc : Lc wx gR zhd (.slice none 0 0)
  tc : Lt wx gt x
  b1 : w.heap.size ≤ gR
  b2 : gR < gt
theorem PD.be (d : PD K w gR gt x at2 bad2 r wx) (hb : Below wx.heap.size wx wy) : PD K w gR gt x at2 bad2 r wy := ⟨d.ms.be hb, d.rc.be hb, d.tc.be hb, d.b1, d.b2⟩
theorem PD.call (d : PD K w gR gt x at2 bad2 r wx) (hp : RAt wy K at3 bad3 r3) (hg : wx.grownBy wy (some K.g)) : PD K w gR gt x at3 bad3 r3 wy :=
  have h := d.ms.gl
  have h1 := d.b1
  have h2 := d.b2
  ⟨d.ms.call hp hg, d.rc.gr hg (by omega), d.tc.gr hg (by omega), d.b1, d.b2⟩
theorem PD.step (d : PD K w gR gt x at2 bad2 r wx) (hk : kOf r ≠ 0) : PD K w gR gt x (at2 + 1) bad2 r.tail (wx.setCell ⟨K.g, 1, none⟩ (.int .i64 ((at2 : Int) + 1))) :=
  d.call (d.ms.step hk).pat (grownBy_set wx K.g 1 _)
theorem mu_le (b : Bool) (ts : List Tk) : mu b ts ≤ ts.length := by
  cases b
  · exact Nat.le_refl _
  · exact Nat.zero_le _
end
set_option maxRecDepth 100000 in
set_option maxHeartbeats 16000000 in
theorem rprimary_of (m : Nat) (hE : ∀ j, j < m → CQ 21 .ex j) : CQ 119 .pr m := by
  intro K at_ bad rest w hP hm
  have HM1 := Lib.hid ((RS.init hP).al zex)
  have HR1 := Lib.hid (Lc.zero w)
  have HMm := Lib.hid hm
  have HE : Hid (∀ (w2 : World) (at2 : Nat) (bad2 : Bool) (r : List Tk), RAt w2 K at2 bad2 r → (bad = false ∧ r.length < rest.length) ∨ (bad = false ∧ bad2 = true) → Calls Tryd.prog 21 #[.pointer (some ⟨K.g, 0, none⟩)] w2 (EQ K .ex at2 bad2 r w2)) := Lib.hid (fun w2 at2 bad2 r hp hl => by
    rcases hl with ⟨hb, hl⟩ | ⟨hb, hl⟩
    · subst hb
      have h3 : rest.length ≤ m := hm
      exact hE r.length (by omega) K at2 bad2 r w2 hp (mu_le _ _)
    · subst hb hl
      have h3 : rest.length ≤ m := hm
      have h4 : 0 < rest.length := by obtain ⟨x, r5, e⟩ := hP.en.cons; rw [e]; simp
      exact hE 0 (by omega) K at2 true r w2 hp (Nat.le_refl _))
  obtain ⟨⟨tk, tn, tv, tt⟩, r0, hr0⟩ := hP.en.cons
  have HX0 := Lib.hid hr0
  have HTV := Lib.hid hP.en
  have HRT : Hid (rest.tail.length < rest.length) := Lib.hid (by rw [hr0]; simp)
  have HKT : Hid (kOf rest = tk ∧ lnOf rest = tn ∧ vOf rest = tv ∧ tOf rest = tt) := Lib.hid (by rw [hr0]; exact ⟨rfl, rfl, rfl, rfl⟩)
  clear hE hP hm hr0
  go_enter Tryd.func119, Tryd.ntmps119
  go_upto_region 1 with fail
  obtain ⟨w1, hw1⟩ : ∃ W, w.alloc zex = W := ⟨_, rfl⟩
  obtain ⟨gR, hgR⟩ : ∃ x, w.heap.size = x := ⟨_, rfl⟩
  (try rw [show w.alloc (.cells #[.int .i64 0, .int .i64 0, .int .i64 0, .int .i64 0, .string { data := #[] }, .slice none 0 0] 31) = w1 from hw1])
  rw [hw1] at HM1 HR1
  rw [hgR] at HR1
  (try rw [hgR])
  have HGR := Lib.hid hgR
  clear hw1 hgR
  go_wp2_with fail
  refine (now_at K at_ bad tk tn tv tt r0 w1 (HX0.out ▸ HM1.out.pat)).mono ?_
  rintro e w2 ⟨rfl, hb2⟩
  have HD3 : Hid (PD K w gR w2.heap.size ⟨tk, tn, tv, tt⟩ at_ bad rest (w2.alloc (.cells #[.int .i64 tk, .int .i64 tn, .int .i64 tv, .string (st tt)] 59))) := Lib.hid ⟨(HM1.out.be hb2).al _, (HR1.out.be hb2).al _, Lt.new w2 ⟨tk, tn, tv, tt⟩, by have := HGR.out; omega, (HR1.out.be hb2).lt⟩
  clear hb2 HM1 HR1
  go_upto_block 0 with fail
  obtain ⟨w3, hw3⟩ : ∃ W, w2.alloc (.cells #[.int .i64 tk, .int .i64 tn, .int .i64 tv, .string (st tt)] 59) = W := ⟨_, rfl⟩
  obtain ⟨gt, hgt⟩ : ∃ x, w2.heap.size = x := ⟨_, rfl⟩
  rw [hw3, hgt] at HD3
  (try rw [hw3])
  (try rw [hgt])
  clear hw3 hgt
  have hgg := HD3.out.ms.gl
  obtain ⟨-, -, p2, -, -, hlp0⟩ := HD3.out.ms.pat.cells
  cases bad
  rotate_left
  · obtain ⟨t0, t1, t2, t3⟩ := HD3.out.tc.cells
    (try dsimp only at t0 t1 t2 t3)
    have hlT := HD3.out.tc.lt
    obtain ⟨y0, y1, y2, y3, y4, y5⟩ := HD3.out.rc.cells
    obtain ⟨g0, g1, g2, g3, g4, g5⟩ := HD3.out.rc.froz
    have hlR := HD3.out.rc.lt
    go_wp2_with fail
    have hfin := rq_fin (lv := .pr) (at_ := at_) (bad := true) (rest := rest) HD3.out.ms HD3.out.rc HD3.out.b1 (Nat.le_refl _) ⟨0, 0, 0, 0, []⟩ none 0 0 (.inr (.inr ⟨rfl, rfl, rfl, rfl⟩))
    obtain ⟨wz, hwz⟩ : ∃ W, set6 w3 gR (.int .i64 0) (.int .i64 0) (.int .i64 0) (.int .i64 0) (.string { data := #[] }) (.slice none 0 0) = W := ⟨_, rfl⟩
    have hwz2 := hwz
    unfold set6 at hwz2
    (try rw [hwz2])
    obtain ⟨hd, hep⟩ := hfin wz hwz.symm
    obtain ⟨d0, d1, d2, d3, d4, d5⟩ := hd.cells
    clear hfin
    go_wp2_with fail
    refine bodyPost_ret (v := exv ⟨0, 0, 0, 0, []⟩ (.slice none 0 0)) (by simp [results, Tryd.results119, go_sem, d0, d1, d2, d3, d4, d5]) rfl ?_
    exact hep
  · obtain ⟨t0, t1, t2, t3⟩ := HD3.out.tc.cells
    (try dsimp only at t0 t1 t2 t3)
    have hlT := HD3.out.tc.lt
    by_cases hk2 : tk = 2
    · subst hk2
      obtain ⟨-, p1, -, f1, -, hlp⟩ := HD3.out.ms.pat.cells
      have hw1 := HD3.out.ms.w1
      have HD4 := Lib.hid (HD3.out.step (by rw [HKT.out.1]; decide))
      clear t0 t1 t2 t3
      obtain ⟨t0, t1, t2, t3⟩ := HD3.out.tc.cells
      (try dsimp only at t0 t1 t2 t3)
      go_upto_region 6 with fail
      obtain ⟨w4, hw4⟩ : ∃ W, w3.setCell ⟨K.g, 1, none⟩ (.int .i64 ((at_ : Int) + 1)) = W := ⟨_, rfl⟩
      rw [hw4] at HD4
      (try rw [hw4])
      clear hw4 p1 f1 hlp hw1
      obtain ⟨t0, t1, t2, t3⟩ := HD4.out.tc.cells
      (try dsimp only at t0 t1 t2 t3)
      have hlT := HD4.out.tc.lt
      obtain ⟨y0, y1, y2, y3, y4, y5⟩ := HD4.out.rc.cells
      obtain ⟨g0, g1, g2, g3, g4, g5⟩ := HD4.out.rc.froz
      have hlR := HD4.out.rc.lt
      go_wp2_with fail
      have hfin := rq_fin (lv := .pr) (at_ := at_) (bad := false) (rest := rest) HD4.out.ms HD4.out.rc HD4.out.b1 (Nat.le_of_lt HRT.out) ⟨1, 0, tv, tn, []⟩ none 0 0 (.inl ⟨rfl, rfl, .nil, by have := Ps.pr_num HKT.out.1; rw [HKT.out.2.1, HKT.out.2.2.1] at this; exact this, ArgsAt.nil _ _, HRT.out⟩)
      obtain ⟨wz, hwz⟩ : ∃ W, set6 w4 gR (.int .i64 1) (.int .i64 0) (.int .i64 tv) (.int .i64 tn) (.string { data := #[] }) (.slice none 0 0) = W := ⟨_, rfl⟩
      have hwz2 := hwz
      unfold set6 at hwz2
      (try rw [hwz2])
      obtain ⟨hd, hep⟩ := hfin wz hwz.symm
      obtain ⟨d0, d1, d2, d3, d4, d5⟩ := hd.cells
      clear hfin
      go_wp2_with fail
      refine bodyPost_ret (v := exv ⟨1, 0, tv, tn, []⟩ (.slice none 0 0)) (by simp [results, Tryd.results119, go_sem, d0, d1, d2, d3, d4, d5]) rfl ?_
      exact hep
    · have d2 : (tk == 2) = false := by rw [beq_eq_false_iff_ne]; exact hk2
      by_cases hk1 : tk = 1
      · subst hk1
        obtain ⟨-, p1, -, f1, -, hlp⟩ := HD3.out.ms.pat.cells
        have hw1 := HD3.out.ms.w1
        have HD4 := Lib.hid (HD3.out.step (by rw [HKT.out.1]; decide))
        go_upto_region 9 with fail
        obtain ⟨w4, hw4⟩ : ∃ W, w3.setCell ⟨K.g, 1, none⟩ (.int .i64 ((at_ : Int) + 1)) = W := ⟨_, rfl⟩
        rw [hw4] at HD4
        (try rw [hw4])
        clear hw4 p1 f1 hlp hw1
        clear t0 t1 t2 t3 hlT p2 hlp0 d2
        go_wp2_with fail
        refine (raccept_any K (at_ + 1) false rest.tail [91] _ HD4.out.ms.pat).mono ?_
        rintro e w5 ⟨at5, r5, rfl, hp5, hg5, hc5⟩
        have HD5 := Lib.hid (HD4.out.call hp5 hg5)
        clear hp5 hg5 HD4
        rcases hc5 with ⟨_, hT, rfl, rfl⟩ | ⟨hT, rfl, rfl⟩
        · have HT := Lib.hid hT
          have HRT2 : Hid (rest.tail.tail.length < rest.tail.length) := Lib.hid (by
            cases hq : rest.tail with
            | nil => rw [hq] at hT; cases hT
            | cons y s => simp)
          (try rw [hT])
          clear hT
          go_wp2_with fail
          refine (HE.out w5 (at_ + 1 + 1) false rest.tail.tail HD5.out.ms.pat (.inl ⟨by first | rfl | trivial, by have := HRT.out; have := HRT2.out; omega⟩)).mono ?_
          rintro e w7 ⟨h, a, n, c, bad7, at7, r7, rfl, hp7, hle7, hg7, hres7⟩
          have HD7 := Lib.hid ((HD5.out.call hp7 hg7).be (below_alloc w7 (.cells (ecs h (.slice a n c)) 31)))
          have HX7 := Lib.hid (Lc.new w7 h (.slice a n c))
          have HS7 := Lib.hid (And.intro hg7.size hle7)
          have HRS7 : Hid ((bad7 = false ∧ ∃ ar, Ps .ex rest.tail.tail (.ok (one1 h ar) r7) ∧ ArgsAt (w7.alloc (.cells (ecs h (.slice a n c)) 31)) (fun b => w5.heap.size ≤ b ∧ b ≠ w7.heap.size) ar (.slice a n c) ∧ r7.length < rest.tail.tail.length) ∨ (bad7 = true ∧ Ps .ex rest.tail.tail (.bad r7))) := Lib.hid (by
            rcases hres7.out with ⟨_, h1, ar, h2, h3, h4⟩ | ⟨_, h1, h2⟩ | ⟨h1, _⟩
            · exact .inl ⟨h1, ar, h2, args_al _ h3, h4⟩
            · exact .inr ⟨h1, h2⟩
            · cases h1)
          clear hres7 hp7 hg7 hle7
          go_upto_region 11 with fail
          obtain ⟨w8, hw8⟩ : ∃ W, w7.alloc (.cells (ecs h (.slice a n c)) 31) = W := ⟨_, rfl⟩
          obtain ⟨gx, hgx⟩ : ∃ x, w7.heap.size = x := ⟨_, rfl⟩
          (try rw [show w7.alloc (.cells #[.int .i64 h.k, .int .i64 h.op, .int .i64 h.v, .int .i64 h.ln, .string (st h.nm), .slice a n c] 31) = w8 from hw8])
          rw [hw8, hgx] at HX7 HRS7
          rw [hw8] at HD7
          rw [hgx] at HS7
          (try rw [hgx])
          clear hw8 hgx
          go_wp2_with fail
          refine (rexpect_any K at7 bad7 r7 [93] _ HD7.out.ms.pat).mono ?_
          rintro e w9 ⟨at9, bad9, r9, rfl, hp9, hg9, hc9⟩
          have HD9 := Lib.hid (HD7.out.call hp9 hg9)
          have HX9 := Lib.hid (HX7.out.gr hg9 (by have := HD5.out.tc.lt; have := HD5.out.b1; have := HD5.out.b2; have := HS7.out.1; have := HD5.out.ms.gl; omega))
          have hgl := HD7.out.ms.gl
          have HRS9 : Hid (r9.length ≤ rest.length ∧ ((bad9 = false ∧ ∃ ar, Ps .pr rest (.ok (nd 4 0 0 tn tt (one1 h ar)) r9) ∧ ArgsAt w9 (fun b => w.heap.size ≤ b ∧ b ≠ gR) ar (.slice a n c) ∧ r9.length < rest.length) ∨ (bad9 = true ∧ Ps .pr rest (.bad r9)))) := Lib.hid (by
            have hs1 := HRT.out
            have hs2 := HRT2.out
            have hs3 := HS7.out
            have hs5 := HD5.out.ms.gr.size
            have hs6 := HD5.out.rc.lt
            rcases hc9 with ⟨q1, q2, q3, q4, q5⟩ | ⟨q1, q2, q4, q5⟩
            · have hle : r9.length ≤ r7.length := by rw [q5]; simp
              refine ⟨by omega, ?_⟩
              rcases HRS7.out with ⟨h1, ar, h2, h3, h4⟩ | ⟨h1, h2⟩
              · refine .inl ⟨q2, ar, ?_, ?_, by omega⟩
                · have := Ps.pr_el HKT.out.1 HT.out h2 q3
                  rw [HKT.out.2.1, HKT.out.2.2.2] at this
                  rw [q5]; exact this
                · exact args_mono (args_gr h3 hg9 (fun b hb => by have := hb.1; omega)) (fun b hb _ => ⟨by omega, by omega⟩)
              · rw [q1] at h1; cases h1
            · rw [q5]
              refine ⟨by omega, .inr ⟨q2, ?_⟩⟩
              rcases HRS7.out with ⟨h1, ar, h2, h3, h4⟩ | ⟨h1, h2⟩
              · exact Ps.pr_el_bad2 HKT.out.1 HT.out h2 (by rw [h1] at q1; simpa using q1)
              · exact Ps.pr_el_bad HKT.out.1 HT.out h2)
          clear hp9 hg9 hc9 HD7 HX7
          obtain ⟨t0, t1, t2, t3⟩ := HD9.out.tc.cells
          (try dsimp only at t0 t1 t2 t3)
          have hlT := HD9.out.tc.lt
          obtain ⟨y0, y1, y2, y3, y4, y5⟩ := HD9.out.rc.cells
          obtain ⟨g0, g1, g2, g3, g4, g5⟩ := HD9.out.rc.froz
          have hlR := HD9.out.rc.lt
          obtain ⟨q0, q1, q2, q3, q4, q5⟩ := HX9.out.cells
          have hlX := HX9.out.lt
          go_wp2_with fail
          have hfin := rq_one (lv := .pr) (at_ := at_) (bad := false) (rest := rest) (k := 4) (op := 0) (ln := tn) (nm := tt) HD9.out.ms HD9.out.rc HD9.out.b1 HRS9.out.1 (by
            rcases HRS9.out.2 with h1 | h1
            · exact .inl ⟨rfl, h1⟩
            · exact .inr ⟨rfl, h1⟩)
          obtain ⟨wz, hwz⟩ : ∃ W, (set6 w9 gR (.int .i64 4) (.int .i64 0) (.int .i64 0) (.int .i64 tn) (.string (st tt)) (.slice (some ⟨w9.heap.size, 0, none⟩) 1 1)).alloc (.cells #[.int .i64 h.k, .int .i64 h.op, .int .i64 h.v, .int .i64 h.ln, .string (st h.nm), .slice a n c] 31) = W := ⟨_, rfl⟩
          have hwz2 := hwz
          unfold set6 at hwz2
          (try rw [hwz2])
          obtain ⟨hd, hep⟩ := hfin wz hwz.symm
          obtain ⟨d0, d1, d2, d3, d4, d5⟩ := hd.cells
          clear hfin
          refine bodyPost_ret (v := exv ⟨4, 0, 0, tn, tt⟩ (.slice (some ⟨w9.heap.size, 0, none⟩) 1 1)) (by simp [results, Tryd.results119, go_sem, d0, d1, d2, d3, d4, d5]) rfl ?_
          exact hep
        · have HT : Hid (isT [91] rest.tail = false) := Lib.hid (by simpa using hT)
          (try rw [hT])
          (try rw [HT.out])
          clear hT
          obtain ⟨t0, t1, t2, t3⟩ := HD5.out.tc.cells
          (try dsimp only at t0 t1 t2 t3)
          have hlT := HD5.out.tc.lt
          obtain ⟨y0, y1, y2, y3, y4, y5⟩ := HD5.out.rc.cells
          obtain ⟨g0, g1, g2, g3, g4, g5⟩ := HD5.out.rc.froz
          have hlR := HD5.out.rc.lt
          go_wp2_with fail
          have hfin := rq_fin (lv := .pr) (at_ := at_) (bad := false) (rest := rest) HD5.out.ms HD5.out.rc HD5.out.b1 (Nat.le_of_lt HRT.out) ⟨13, 0, 0, tn, tt⟩ none 0 0 (.inl ⟨rfl, rfl, .nil, by have := Ps.pr_name HKT.out.1 HT.out; rw [HKT.out.2.1, HKT.out.2.2.2] at this; exact this, ArgsAt.nil _ _, HRT.out⟩)
          obtain ⟨wz, hwz⟩ : ∃ W, set6 w5 gR (.int .i64 13) (.int .i64 0) (.int .i64 0) (.int .i64 tn) (.string (st tt)) (.slice none 0 0) = W := ⟨_, rfl⟩
          have hwz2 := hwz
          unfold set6 at hwz2
          (try rw [hwz2])
          obtain ⟨hd, hep⟩ := hfin wz hwz.symm
          obtain ⟨d0, d1, d2, d3, d4, d5⟩ := hd.cells
          clear hfin
          go_wp2_with fail
          refine bodyPost_ret (v := exv ⟨13, 0, 0, tn, tt⟩ (.slice none 0 0)) (by simp [results, Tryd.results119, go_sem, d0, d1, d2, d3, d4, d5]) rfl ?_
          exact hep
      · have d1 : (tk == 1) = false := by rw [beq_eq_false_iff_ne]; exact hk1
        have HK12 := Lib.hid (And.intro hk1 hk2)
        clear hk1 hk2
        go_wp2_with fail
        refine (raccept_any K at_ false rest [38] _ HD3.out.ms.pat).mono ?_
        rintro e w5 ⟨at5, r5, rfl, hp5, hg5, hc5⟩
        have HD5 := Lib.hid (HD3.out.call hp5 hg5)
        clear hp5 hg5 HD3 t0 t1 t2 t3 hlT p2 hlp0 d1 d2
        rcases hc5 with ⟨_, hT, rfl, rfl⟩ | ⟨hT, rfl, rfl⟩
        · have HT := Lib.hid hT
          (try rw [hT])
          clear hT
          go_upto_region 15 with fail
          obtain ⟨t0, t1, t2, t3⟩ := HD5.out.tc.cells
          (try dsimp only at t0 t1 t2 t3)
          obtain ⟨wd, hwd⟩ : ∃ W, w5.drew = W := ⟨_, rfl⟩
          have HDd : Hid (PD K w gR gt ⟨tk, tn, tv, tt⟩ (at_ + 1) false rest.tail wd) := Lib.hid (by rw [← hwd]; exact HD5.out.be (Below.refl _ _).drew)
          have t1d : wd.cell? ⟨gt, 1, none⟩ = some (.int .i64 tn) := HDd.out.tc.cells.2.1
          refine wp_region_held_drew (S := fun w' => w'.cell? ⟨gt, 1, none⟩ = some (.int .i64 tn)) (by kernel_rfl) (by rw [hwd]; exact t1d) (fun hHeld => ?_)
          rw [hwd] at hHeld ⊢
          clear hwd t0 t1 t2 t3 t1d HD5
          refine wpAnyH_takeD (i := 0) (d := some 62) (v := ?_) rfl (by kernel_rfl) (by kernel_rfl) (by kernel_rfl) (by kernel_rfl) (fun _ _ _ h => h) (Or.inl ⟨by kernel_rfl, ?_⟩) (by assumption) ?_
          rotate_left
          · (intro w hSw; (try dsimp only at hSw); go_simp; try with_reducible rfl)
          (try simp only [Act.put, List.setIfInBounds_toArray, List.set_cons_zero, List.set_cons_succ])
          refine wpAnyH_takeD (i := 3) (d := some 65) (v := ?_) rfl (by kernel_rfl) (by kernel_rfl) (by kernel_rfl) (by kernel_rfl) (fun _ _ _ h => h) (Or.inl ⟨by kernel_rfl, ?_⟩) (by assumption) ?_
          rotate_left
          · (intro w hSw; (try dsimp only at hSw); go_simp; try with_reducible rfl)
          (try simp only [Act.put, List.setIfInBounds_toArray, List.set_cons_zero, List.set_cons_succ])
          refine wpAnyH_takeD (i := 4) (d := some 66) (v := ?_) rfl (by kernel_rfl) (by kernel_rfl) (by kernel_rfl) (by kernel_rfl) (fun _ _ _ h => h) (Or.inl ⟨by kernel_rfl, ?_⟩) (by assumption) ?_
          rotate_left
          · (intro w hSw; (try dsimp only at hSw); go_simp; try with_reducible rfl)
          (try simp only [Act.put, List.setIfInBounds_toArray, List.set_cons_zero, List.set_cons_succ])
          refine wpAnyH_ready (rs := [1]) (by kernel_rfl) (by simp) ?_
          refine AllReadyH.cons rfl (fun K0 hK => ?_) AllReadyH.nil
          go_simp
          refine (kind_any K (at_ + 1) false rest.tail 1 _ HDd.out.ms.pat (by decide)).mono ?_
          rintro e w6 ⟨at6, bad6, r6, hp6, hg6, hc6⟩
          have HD6 := Lib.hid (HDd.out.call hp6 hg6)
          clear hp6 hg6 HDd
          obtain ⟨⟨xk, xn, xv, xt⟩, he, hr6⟩ : ∃ x : Tk, e = .returned (.agg #[.int .i64 x.k, .int .i64 x.n, .int .i64 x.v, .string (st x.t)]) ∧ Hid (r6.length ≤ rest.length ∧ ((bad6 = false ∧ Ps .pr rest (.ok (nd 11 0 0 tn x.t .nil) r6) ∧ r6.length < rest.length) ∨ (bad6 = true ∧ Ps .pr rest (.bad r6)))) := by
            have hs1 := HRT.out
            rcases hc6 with ⟨_, q2, q3, q4, q5, q6⟩ | ⟨q1, q2, q3, q4, q5⟩
            · have hle : r6.length ≤ rest.tail.length := by rw [q6]; simp
              refine ⟨hdT rest.tail, q4, Lib.hid ⟨by omega, .inl ⟨q2, ?_, by omega⟩⟩⟩
              have := Ps.pr_func HT.out q3
              rw [HKT.out.2.1] at this
              rw [q6]
              have ht : tOf rest.tail = (hdT rest.tail).t := by cases rest.tail <;> rfl
              rw [← ht]
              exact this
            · refine ⟨⟨0, 0, 0, []⟩, q3, Lib.hid ⟨by rw [q5]; omega, .inr ⟨q2, ?_⟩⟩⟩
              rw [q5]
              exact Ps.pr_func_bad HT.out (by rcases q1 with q1 | q1; (cases q1); exact q1)
          subst he
          clear hc6
          have hfd3 : ∀ W : World, (Instr.field 59 (.agg #[.int .i64 xk, .int .i64 xn, .int .i64 xv, .string (st xt)]) 3).run Tryd.prog W = .ok (.string (st xt)) W := fun _ => by kernel_rfl
          refine hK.out _ _ (by exact HD6.out.tc.cells.2.1) (fun hHeld => ?_)
          clear hK K0
          (try simp only [Act.put, List.setIfInBounds_toArray, List.set_cons_zero, List.set_cons_succ])
          refine wpAnyH_ready (rs := [2]) (by kernel_rfl) (by simp) ?_
          refine AllReadyH.cons rfl (fun K0 hK => ?_) AllReadyH.nil
          go_simp
          refine hK.out _ _ (by assumption) (fun hHeld => ?_)
          clear hK K0
          (try simp only [Act.put, List.setIfInBounds_toArray, List.set_cons_zero, List.set_cons_succ])
          refine wpAnyH_ready (rs := [5]) (by kernel_rfl) (by simp) ?_
          refine AllReadyH.cons rfl (fun K0 hK => ?_) AllReadyH.nil
          go_simp
          refine hK.out _ _ (by assumption) (fun hHeld => ?_)
          clear hK K0
          (try simp only [Act.put, List.setIfInBounds_toArray, List.set_cons_zero, List.set_cons_succ])
          refine wpAnyH_ready (rs := [6]) (by kernel_rfl) (by simp) ?_
          refine AllReadyH.cons rfl (fun K0 hK => ?_) AllReadyH.nil
          obtain ⟨y0, y1, y2, y3, y4, y5⟩ := HD6.out.rc.cells
          obtain ⟨g0, g1, g2, g3, g4, g5⟩ := HD6.out.rc.froz
          have hlR := HD6.out.rc.lt
          go_simp
          refine hK.out _ _ (cell_set6 (by have := HD6.out.b2; omega) hHeld) (fun hHeld => ?_)
          clear hK K0
          (try simp only [Act.put, List.setIfInBounds_toArray, List.set_cons_zero, List.set_cons_succ])
          refine wpAnyH_done (by kernel_rfl) ?_ _
          (try simp only [Act.put, List.setIfInBounds_toArray, List.set_cons_zero, List.set_cons_succ])
          clear y0 y1 y2 y3 y4 y5 g0 g1 g2 g3 g4 g5 hlR hHeld
          have hfin := rq_fin (lv := .pr) (at_ := at_) (bad := false) (rest := rest) HD6.out.ms HD6.out.rc HD6.out.b1 (hr6.out.1) ⟨11, 0, 0, tn, xt⟩ none 0 0 (by
            rcases hr6.out.2 with ⟨h1, h2, h3⟩ | ⟨h1, h2⟩
            · exact .inl ⟨rfl, h1, .nil, h2, ArgsAt.nil _ _, h3⟩
            · exact .inr (.inl ⟨rfl, h1, h2⟩))
          obtain ⟨wz, hwz⟩ : ∃ W, set6 w6 gR (.int .i64 11) (.int .i64 0) (.int .i64 0) (.int .i64 tn) (.string (st xt)) (.slice none 0 0) = W := ⟨_, rfl⟩
          have hwz2 := hwz
          unfold set6 at hwz2
          (try rw [hwz2])
          obtain ⟨hd, hep⟩ := hfin wz hwz.symm
          obtain ⟨d0, d1, d2, d3, d4, d5⟩ := hd.cells
          clear hfin
          go_wp2_with fail
          refine bodyPost_ret (v := exv ⟨11, 0, 0, tn, xt⟩ (.slice none 0 0)) (by simp [results, Tryd.results119, go_sem, d0, d1, d2, d3, d4, d5]) rfl ?_
          exact hep
        · have HT : Hid (isT [38] r5 = false) := Lib.hid (by simpa using hT)
          (try rw [hT])
          (try rw [HT.out])
          clear hT
          go_wp2_with fail
          refine (raccept_any K at5 false r5 [114, 101, 97, 100] _ HD5.out.ms.pat).mono ?_
          rintro e w6 ⟨at6, r6, rfl, hp6, hg6, hc6⟩
          have HD6 := Lib.hid (HD5.out.call hp6 hg6)
          clear hp6 hg6 HD5
          rcases hc6 with ⟨_, hT2, rfl, rfl⟩ | ⟨hT2, rfl, rfl⟩
          · have HT2 := Lib.hid hT2
            (try rw [hT2])
            clear hT2
            obtain ⟨t0, t1, t2, t3⟩ := HD6.out.tc.cells
            (try dsimp only at t0 t1 t2 t3)
            have hlT := HD6.out.tc.lt
            obtain ⟨y0, y1, y2, y3, y4, y5⟩ := HD6.out.rc.cells
            obtain ⟨g0, g1, g2, g3, g4, g5⟩ := HD6.out.rc.froz
            have hlR := HD6.out.rc.lt
            go_wp2_with fail
            have hfin := rq_fin (lv := .pr) (at_ := at5) (bad := false) (rest := r5) HD6.out.ms HD6.out.rc HD6.out.b1 (Nat.le_of_lt HRT.out) ⟨12, 0, 0, tn, []⟩ none 0 0 (.inl ⟨rfl, rfl, .nil, by have := Ps.pr_read HT2.out; rw [HKT.out.2.1] at this; exact this, ArgsAt.nil _ _, HRT.out⟩)
            obtain ⟨wz, hwz⟩ : ∃ W, set6 w6 gR (.int .i64 12) (.int .i64 0) (.int .i64 0) (.int .i64 tn) (.string { data := #[] }) (.slice none 0 0) = W := ⟨_, rfl⟩
            have hwz2 := hwz
            unfold set6 at hwz2
            (try rw [hwz2])
            obtain ⟨hd, hep⟩ := hfin wz hwz.symm
            obtain ⟨d0, d1, d2, d3, d4, d5⟩ := hd.cells
            clear hfin
            go_wp2_with fail
            refine bodyPost_ret (v := exv ⟨12, 0, 0, tn, []⟩ (.slice none 0 0)) (by simp [results, Tryd.results119, go_sem, d0, d1, d2, d3, d4, d5]) rfl ?_
            exact hep
          · have HT2 : Hid (isT [114, 101, 97, 100] r6 = false) := Lib.hid (by simpa using hT2)
            (try rw [hT2])
            (try rw [HT2.out])
            clear hT2
            go_wp2_with fail
            refine (rexpect_any K at6 false r6 [40] _ HD6.out.ms.pat).mono ?_
            rintro e w7 ⟨at7, bad7, r7, rfl, hp7, hg7, hc7⟩
            have HD7 := Lib.hid (HD6.out.call hp7 hg7)
            have HC7 := Lib.hid hc7
            clear hp7 hg7 HD6 hc7
            go_wp2_with fail
            refine (HE.out w7 at7 bad7 r7 HD7.out.ms.pat (by
              rcases HC7.out with ⟨_, q2, q3, q4, q5⟩ | ⟨q1, q2, q4, q5⟩
              · exact .inl ⟨by first | rfl | trivial, by rw [q5]; exact HRT.out⟩
              · exact .inr ⟨by first | rfl | trivial, q2⟩)).mono ?_
            rintro e w8 ⟨h, a, n, c, bad8, at8, r8, rfl, hp8, hle8, hg8, hres8⟩
            have HD8 := Lib.hid ((HD7.out.call hp8 hg8).be (below_alloc w8 (.cells (ecs h (.slice a n c)) 31)))
            have HX8 := Lib.hid (Lc.new w8 h (.slice a n c))
            have HS8 := Lib.hid (And.intro hg8.size hle8)
            have HRS8 : Hid ((bad8 = false ∧ bad7 = false ∧ ∃ ar, Ps .ex r7 (.ok (one1 h ar) r8) ∧ ArgsAt (w8.alloc (.cells (ecs h (.slice a n c)) 31)) (fun b => w7.heap.size ≤ b ∧ b ≠ w8.heap.size) ar (.slice a n c) ∧ r8.length < r7.length) ∨ (bad8 = true ∧ bad7 = false ∧ Ps .ex r7 (.bad r8)) ∨ (bad7 = true ∧ bad8 = true ∧ r8 = r7)) := Lib.hid (by
              rcases hres8.out with ⟨h0, h1, ar, h2, h3, h4⟩ | ⟨h0, h1, h2⟩ | ⟨h0, h1, _, h2⟩
              · exact .inl ⟨h1, h0, ar, h2, args_al _ h3, h4⟩
              · exact .inr (.inl ⟨h1, h0, h2⟩)
              · exact .inr (.inr ⟨h0, h1, h2⟩))
            clear hres8 hp8 hg8 hle8
            go_upto_region 20 with fail
            obtain ⟨w9, hw9⟩ : ∃ W, w8.alloc (.cells (ecs h (.slice a n c)) 31) = W := ⟨_, rfl⟩
            obtain ⟨gx, hgx⟩ : ∃ x, w8.heap.size = x := ⟨_, rfl⟩
            (try rw [show w8.alloc (.cells #[.int .i64 h.k, .int .i64 h.op, .int .i64 h.v, .int .i64 h.ln, .string (st h.nm), .slice a n c] 31) = w9 from hw9])
            rw [hw9, hgx] at HX8 HRS8
            rw [hw9] at HD8
            rw [hgx] at HS8
            (try rw [hgx])
            clear hw9 hgx
            go_wp2_with fail
            refine (rexpect_any K at8 bad8 r8 [41] _ HD8.out.ms.pat).mono ?_
            rintro e wE ⟨atE, badE, rE, rfl, hpE, hgE, hcE⟩
            have HDE := Lib.hid (HD8.out.call hpE hgE)
            have HXE := Lib.hid (HX8.out.gr hgE (by have := HD7.out.tc.lt; have := HD7.out.b1; have := HD7.out.b2; have := HS8.out.1; have := HD7.out.ms.gl; omega))
            have hgl := HD8.out.ms.gl
            have HRSE : Hid (rE.length ≤ r6.length ∧ ((badE = false ∧ ∃ ar, Ps .pr r6 (.ok (one1 h ar) rE) ∧ ArgsAt wE (fun b => w.heap.size ≤ b ∧ b ≠ gR) ar (.slice a n c) ∧ rE.length < r6.length) ∨ (badE = true ∧ Ps .pr r6 (.bad rE)))) := Lib.hid (by
              have hs1 := HRT.out
              have hs3 := HS8.out
              have hs5 := HD7.out.ms.gr.size
              have hs6 := HD7.out.rc.lt
              have hk1 := HK12.out
              have hkt := HKT.out.1
              have hle : rE.length ≤ r8.length := by
                rcases hcE with ⟨_, _, _, _, q5⟩ | ⟨_, _, _, q5⟩
                · rw [q5]; simp
                · rw [q5]; exact Nat.le_refl _
              rcases HC7.out with ⟨_, b7, h40, _, e7⟩ | ⟨h40, b7, _, e7⟩
              · have hs7 : r7.length < r6.length := by rw [e7]; exact hs1
                refine ⟨by omega, ?_⟩
                rcases HRS8.out with ⟨h1, _, ar, h2, h3, h4⟩ | ⟨h1, _, h2⟩ | ⟨h1, _⟩
                · rcases hcE with ⟨_, q2, q3, _, q5⟩ | ⟨q1, q2, _, q5⟩
                  · refine .inl ⟨q2, ar, ?_, ?_, by omega⟩
                    · rw [e7] at h2
                      rw [q5]
                      exact Ps.pr_par h40 h2 q3
                    · exact args_mono (args_gr h3 hgE (fun b hb => by have := hb.1; omega)) (fun b hb _ => ⟨by omega, by omega⟩)
                  · refine .inr ⟨q2, ?_⟩
                    rw [e7] at h2
                    rw [q5]
                    exact Ps.pr_par_bad2 h40 h2 (by rw [h1] at q1; simpa using q1)
                · rcases hcE with ⟨q1, q2, q3, _, q5⟩ | ⟨q1, q2, _, q5⟩
                  · rw [q1] at h1; cases h1
                  · refine .inr ⟨q2, ?_⟩
                    rw [e7] at h2
                    rw [q5]
                    exact Ps.pr_par_bad h40 h2
                · rw [b7] at h1; cases h1
              · have h40 : isT [40] r6 = false := by simpa using h40
                rcases HRS8.out with ⟨_, h1, _⟩ | ⟨_, h1, _⟩ | ⟨_, h1, h2⟩
                · rw [b7] at h1; cases h1
                · rw [b7] at h1; cases h1
                · rcases hcE with ⟨q1, q2, q3, _, q5⟩ | ⟨q1, q2, _, q5⟩
                  · rw [q1] at h1; cases h1
                  · have e9 : rE = r6 := by rw [q5, h2, e7]
                    rw [e9]
                    exact ⟨Nat.le_refl _, .inr ⟨q2, Ps.pr_bad (by rw [hkt]; exact hk1.1) (by rw [hkt]; exact hk1.2) HT.out HT2.out h40⟩⟩)
            clear hpE hgE hcE HD8 HX8 HRS8
            obtain ⟨y0, y1, y2, y3, y4, y5⟩ := HDE.out.rc.cells
            obtain ⟨g0, g1, g2, g3, g4, g5⟩ := HDE.out.rc.froz
            have hlR := HDE.out.rc.lt
            obtain ⟨q0, q1, q2, q3, q4, q5⟩ := HXE.out.cells
            have hlX := HXE.out.lt
            go_wp2_with fail
            have hfin := rq_fin (lv := .pr) (at_ := at6) (bad := false) (rest := r6) HDE.out.ms HDE.out.rc HDE.out.b1 HRSE.out.1 h a n c (by
              rcases HRSE.out.2 with h1 | h1
              · exact .inl ⟨rfl, h1⟩
              · exact .inr (.inl ⟨rfl, h1⟩))
            obtain ⟨wz, hwz⟩ : ∃ W, set6 wE gR (.int .i64 h.k) (.int .i64 h.op) (.int .i64 h.v) (.int .i64 h.ln) (.string (st h.nm)) (.slice a n c) = W := ⟨_, rfl⟩
            have hwz2 := hwz
            unfold set6 at hwz2
            (try rw [hwz2])
            obtain ⟨hd, hep⟩ := hfin wz hwz.symm
            obtain ⟨d0, d1, d2, d3, d4, d5⟩ := hd.cells
            clear hfin
            refine bodyPost_ret (v := exv h (.slice a n c)) (by simp [results, Tryd.results119, go_sem, d0, d1, d2, d3, d4, d5]) rfl ?_
            exact hep
end Go.Proofs.YtlbjdglgnkajnaaDoor
