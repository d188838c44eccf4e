/-
  WALK of the reference's reader: called. (Filled in from a template of this repo.)
-/
import Derived.Test.YtlbjdglgnkajnaaDoorQsH
namespace Go.Proofs.YtlbjdglgnkajnaaDoor
open Go.ChangeShapes Go.WideShapes Go.ChangeAt Go.RowKit
set_option linter.unusedVariables false
set_option linter.unusedSimpArgs false

/-- a call begins -/
theorem LQ.cj {K : PC} {w wr : World} {gR gt gx : Nat} {x0 : Tk} {lv : Lv} {C : Fo → List Tk → Prop} {at_ : Nat} {bad : Bool} {rest : List Tk} {h : Hd} {a : Option Addr} {n c : Nat} {at2 : Nat} {r : List Tk}
    (H : LQ K w gR gx lv C at_ bad rest h a n c false at2 r wr) (T : Lt wr gt x0) (b1 : w.heap.size ≤ gR) (b2 : gR < gt) (b3 : gt < gx) (hk : kOf r ≠ 0) :
    bad = false ∧ ∃ ar, C (one1 h ar) r ∧ r.length < rest.length ∧ CJ K w gR gt gx x0 h (.slice a n c) ar (.slice none 0 0) 0 [] (at2 + 1) false r.tail (wr.setCell ⟨K.g, 1, none⟩ (.int .i64 ((at2 : Int) + 1))) := by
  have hgl := H.ms.gl
  rcases H.res with ⟨h1, h2, ar, h3, h4, h5⟩ | ⟨_, h2, _⟩ | ⟨_, h2, _⟩
  · refine ⟨h1, ar, h3, h5, H.ms.step hk, H.rc.s1 (p := ⟨K.g, 1, none⟩) (by show gR ≠ K.g; omega), T.s1 (p := ⟨K.g, 1, none⟩) (by show gt ≠ K.g; omega), H.xc.s1 (p := ⟨K.g, 1, none⟩) (by show gx ≠ K.g; omega), World.ownsRow_nil _ _ _ _, ⟨b1, b2, b3, (fun e => nomatch e), (fun e => nomatch e), (fun e => nomatch e)⟩, ?_⟩
    exact args_mono (args_s1 (p := ⟨K.g, 1, none⟩) (v := .int .i64 ((at2 : Int) + 1)) h4 (fun b hb => by show b ≠ K.g; have := hb.1; omega)) (fun b hb _ => ⟨hb, fun e => nomatch e⟩)
  · cases h2
  · cases h2
/-- values of one cell each -/
def Oc (xs : List Value) : Prop := ∀ u ∈ xs, u.oneCell' = true
theorem Oc.nil : Oc [] := fun u hu => nomatch hu
theorem Oc.push {xs : List Value} (h : Oc xs) (h2 : Hd) (a : Option Addr) (n c : Nat) : Oc (xs ++ hdc h2 (.slice a n c)) := by
  intro u hu
  rcases List.mem_append.1 hu with hu | hu
  · exact h u hu
  · simp only [hdc, List.mem_cons, List.not_mem_nil, or_false] at hu
    rcases hu with rfl | rfl | rfl | rfl | rfl | rfl <;> rfl
/-- in midst of the arguments' loop -/
def KRes (K : PC) (w : World) (gR gx : Nat) (r0 : List Tk) (v : Value) (nn : Nat) (xs : List Value) (bad3 : Bool) (r3 : List Tk) (wx : World) : Prop :=
  (bad3 = false ∧ ∃ F, FJ w gR gx v nn xs F wx ∧ ∀ z, Ps (.ag false F) r3 z → Ps (.ag true .nil) r0.tail z) ∨ (bad3 = true ∧ Ps (.ag true .nil) r0.tail (.bad r3))
set_option maxRecDepth 100000 in
set_option maxHeartbeats 16000000 in
theorem rcalled_of (m : Nat) (hE : ∀ j, j < m → CQ 21 .ex j) (hPr : CQ 119 .pr m) : CQ 115 .ca m := by
  intro K at_ bad rest w hP hm
  have HM1 := Lib.hid ((RS.init hP).al zex)
  have HR1 := Lib.hid (Lc.zero w)
  have HMm := Lib.hid hm
  have HE : Hid (∀ (w2 : World) (at2 : Nat) (r : List Tk), bad = false → RAt w2 K at2 false r → r.length < rest.length → Calls Tryd.prog 21 #[.pointer (some ⟨K.g, 0, none⟩)] w2 (EQ K .ex at2 false r w2)) := Lib.hid (fun w2 at2 r hb hp hl => by subst hb; have h3 : rest.length ≤ m := hm; exact hE r.length (by omega) K at2 false r w2 hp (Nat.le_refl _))
  have HA := Lib.hid hPr
  obtain ⟨⟨tk, tn, tv, tt⟩, r0, hr0⟩ := hP.en.cons
  have HX0 := Lib.hid hr0
  have HKT : Hid (kOf rest = tk) := Lib.hid (by rw [hr0]; rfl)
  clear hE hPr hP hm hr0
  go_enter Tryd.func115, Tryd.ntmps115
  go_upto_region 1 with fail
  obtain ⟨w1, hw1⟩ : ∃ W, w.alloc zex = W := ⟨_, rfl⟩
  obtain ⟨gR, hgR⟩ : ∃ x, w.heap.size = x := ⟨_, rfl⟩
  (try rw [show w.alloc (.cells #[.int .i64 0, .int .i64 0, .int .i64 0, .int .i64 0, .string { data := #[] }, .slice none 0 0] 31) = w1 from hw1])
  rw [hw1] at HM1 HR1
  rw [hgR] at HR1
  (try rw [hgR])
  have HGR := Lib.hid hgR
  clear hw1 hgR
  go_wp2_with fail
  refine (now_at K at_ bad tk tn tv tt r0 w1 (HX0.out ▸ HM1.out.pat)).mono ?_
  rintro e w2 ⟨rfl, hb2⟩
  have HM3 := Lib.hid ((HM1.out.be hb2).al (.cells #[.int .i64 tk, .int .i64 tn, .int .i64 tv, .string (st tt)] 59))
  have HR3 := Lib.hid ((HR1.out.be hb2).al (.cells #[.int .i64 tk, .int .i64 tn, .int .i64 tv, .string (st tt)] 59))
  have HT3 := Lib.hid (Lt.new w2 ⟨tk, tn, tv, tt⟩)
  have HS3 : Hid (gR < w2.heap.size) := Lib.hid (HR1.out.be hb2).lt
  clear hb2 HM1 HR1
  go_upto_region 2 with fail
  obtain ⟨w3, hw3⟩ : ∃ W, w2.alloc (.cells #[.int .i64 tk, .int .i64 tn, .int .i64 tv, .string (st tt)] 59) = W := ⟨_, rfl⟩
  obtain ⟨gt, hgt⟩ : ∃ x, w2.heap.size = x := ⟨_, rfl⟩
  have HT4 : Hid (Lt w3 gt ⟨tk, tn, tv, tt⟩) := Lib.hid (by rw [← hw3, ← hgt]; exact HT3.out)
  rw [hw3] at HM3 HR3
  rw [hgt] at HS3
  (try rw [hw3])
  (try rw [hgt])
  clear hw3 hgt HT3
  go_wp2_with fail
  refine (HA.out K at_ bad rest _ HM3.out.pat HMm.out).mono ?_
  rintro e w4 ⟨h, a, n, c, bad2, at2, r, rfl, hp4, hle4, hg4, hres4⟩
  have HL5 : Hid (LQ K w gR w4.heap.size .ca (CLc rest) at_ bad rest h a n c bad2 at2 r (w4.alloc (.cells (ecs h (.slice a n c)) 31)) ∧ Lt (w4.alloc (.cells (ecs h (.slice a n c)) 31)) gt ⟨tk, tn, tv, tt⟩ ∧ gt < w4.heap.size) := Lib.hid (by
    have hgl := HM3.out.gl
    have hs4 := hg4.size
    have hgr := HGR.out
    have hs3 := HS3.out
    have htl := HT4.out.lt
    refine ⟨⟨(HM3.out.call hp4 hg4).al _, (HR3.out.gr hg4 (by omega)).al _, Lc.new w4 h (.slice a n c), hle4, ?_⟩, (HT4.out.gr hg4 (by omega)).al _, by omega⟩
    rcases hres4.out with ⟨h1, h1', ar, h2, h3, h4⟩ | ⟨h1, h1', h2⟩ | hr
    · exact .inl ⟨h1, h1', ar, fun z hz => Ps.ca_ok h2 (Bool.and_comm _ _) hz, args_mono (args_al _ h3) (fun b hb _ => ⟨by have := hb.1; have := HM3.out.gr.size; omega, by have := hb.1; omega, hb.2⟩), h4⟩
    · exact .inr (.inl ⟨h1, h1', Ps.ca_bad h2⟩)
    · exact .inr (.inr hr))
  clear hres4 hp4 hg4 hle4 HT4 HR3 HM3
  go_upto_block 0 with fail
  obtain ⟨w5, hw5⟩ : ∃ W, w4.alloc (.cells (ecs h (.slice a n c)) 31) = W := ⟨_, rfl⟩
  obtain ⟨gx, hgx⟩ : ∃ x, w4.heap.size = x := ⟨_, rfl⟩
  (try rw [show w4.alloc (.cells #[.int .i64 h.k, .int .i64 h.op, .int .i64 h.v, .int .i64 h.ln, .string (st h.nm), .slice a n c] 31) = w5 from hw5])
  rw [hw5, hgx] at HL5
  (try rw [hgx])
  have HGX : Hid (gR < gt ∧ gt < gx) := Lib.hid ⟨HS3.out, HL5.out.2.2⟩
  have HL6 : Hid (LQ K w gR gx .ca (CLc rest) at_ bad rest h a n c bad2 at2 r w5 ∧ Lt w5 gt ⟨tk, tn, tv, tt⟩) := Lib.hid ⟨HL5.out.1, HL5.out.2.1⟩
  clear hw5 hgx HL5 HS3
  go_wp2_with fail
  go_loopw [5, 6] (fun _ _ wr => ∃ (h : Hd) (a : Option Addr) (n c : Nat) (bad2 : Bool) (at2 : Nat) (r : List Tk), Hid (LQ K w gR gx .ca (CLc rest) at_ bad rest h a n c bad2 at2 r wr ∧ Lt wr gt ⟨tk, tn, tv, tt⟩)) (fun _ _ wr => K.ts.length - natAt wr K.g)
  case atStart => exact ⟨h, a, n, c, bad2, at2, r, HL6⟩
  case round =>
    rename World => wa
    obtain ⟨h, a, n, c, bad2, at2, r, HL⟩ := hrel
    have hgg := HL.out.1.ms.gl
    go_wp2_with fail
    refine (ris_any K at2 bad2 r [40] _ HL.out.1.ms.pat).mono ?_
    rintro e w6 ⟨rfl, hb6⟩
    have HL6 := Lib.hid (And.intro (HL.out.1.be hb6) (HL.out.2.be hb6))
    clear hb6
    cases hT : (!bad2 && isT [40] r)
    · have HF := Lib.hid (HL6.out.1.fin (by have := HGR.out; omega) (fun hb F hc => hc _ (Ps.caL_end (by rw [hb] at hT; simpa using hT))))
      (try rw [hT])
      clear hT
      obtain ⟨x0, x1, x2, x3, x4, x5⟩ := HL6.out.1.xc.cells
      obtain ⟨y0, y1, y2, y3, y4, y5⟩ := HL6.out.1.rc.cells
      obtain ⟨g0, g1, g2, g3, g4, g5⟩ := HL6.out.1.rc.froz
      have hlR := HL6.out.1.rc.lt
      have hlX := HL6.out.1.xc.lt
      go_wp2_with fail
      obtain ⟨wz, hwz⟩ : ∃ W, set6 w6 gR (.int .i64 h.k) (.int .i64 h.op) (.int .i64 h.v) (.int .i64 h.ln) (.string (st h.nm)) (.slice a n c) = W := ⟨_, rfl⟩
      have hwz2 := hwz
      unfold set6 at hwz2
      (try rw [hwz2])
      rw [hwz] at HF
      obtain ⟨d0, d1, d2, d3, d4, d5⟩ := HF.out.2.cells
      refine bodyPost_ret (v := exv h (.slice a n c)) (by simp [results, Tryd.results115, go_sem, d0, d1, d2, d3, d4, d5]) rfl ?_
      exact HF.out.1
    · obtain ⟨rfl, hT2⟩ : bad2 = false ∧ isT [40] r = true := by simpa using hT
      have HT := Lib.hid hT2
      (try rw [hT])
      clear hT hT2
      obtain ⟨⟨uk, un, uv, ut⟩, r1, hr1⟩ := HL6.out.1.ms.pat.en.cons
      have HLO := Lib.hid (now_at K at2 false uk un uv ut r1 w6 (hr1 ▸ HL6.out.1.ms.pat))
      have HLN : Hid (lnOf r = un) := Lib.hid (by rw [hr1]; rfl)
      have HRT : Hid (r.tail.length < r.length) := Lib.hid (by rw [hr1]; simp)
      have hfd : ∀ W : World, (Instr.field 59 (.agg #[.int .i64 uk, .int .i64 un, .int .i64 uv, .string (st ut)]) 1).run Tryd.prog W = .ok (.int .i64 un) W := fun _ => by kernel_rfl
      clear hr1
      go_wp2_with fail
      refine HLO.out.mono ?_
      rintro e w7 ⟨rfl, hb7⟩
      have HL7 := Lib.hid (And.intro (HL6.out.1.be hb7) (HL6.out.2.be hb7))
      obtain ⟨rfl, ar, hco, hlt, hcj⟩ := HL7.out.1.cj HL7.out.2 (by have := HGR.out; omega) HGX.out.1 HGX.out.2 (isT_k HT.out).2.2.1
      have HCO := Lib.hid hco
      have HLT := Lib.hid hlt
      have HC8 := Lib.hid hcj
      clear hb7 hco hlt hcj HLO
      obtain ⟨-, p1, -, f1, -, hlp⟩ := HL7.out.1.ms.pat.cells
      have hw1 := HL7.out.1.ms.w1
      go_upto_region 7 with fail
      obtain ⟨w8, hw8⟩ : ∃ W, w7.setCell ⟨K.g, 1, none⟩ (.int .i64 ((at2 : Int) + 1)) = W := ⟨_, rfl⟩
      rw [hw8] at HC8
      (try rw [hw8])
      clear hw8 p1 f1 hlp hw1 HL7 HL6 hfd
      go_wp2_with fail
      refine (raccept_any K (at2 + 1) false r.tail [41] _ HC8.out.ms.pat).mono ?_
      rintro e wb ⟨at3, r3, rfl, hp3, hg3, hc3⟩
      have HCB := Lib.hid (HC8.out.gr hp3 hg3)
      have HC3 := Lib.hid hc3
      clear hp3 hg3 hc3
      obtain ⟨b41, hb41⟩ : ∃ b, (!false && isT [41] r.tail) = b := ⟨_, rfl⟩
      have HB41 : Hid (isT [41] r.tail = b41) := Lib.hid (by simpa using hb41)
      (try rw [hb41])
      (try rw [show isT [41] r.tail = b41 from HB41.out])
      clear hb41
      go_upto_if 25 with fail
      go_cut [6] from 26 to 39 (fun v6 wx => ∃ (a3 : Option Addr) (n3 c3 : Nat) (xs : List Value) (at3 : Nat) (bad3 : Bool) (r3 : List Tk), v6 = .slice a3 n3 c3 ∧ Hid (CJ K w gR gt gx ⟨tk, tn, tv, tt⟩ h (.slice a n c) ar (.slice a3 n3 c3) n3 xs at3 bad3 r3 wx ∧ JRes K w gR gx r (.slice a3 n3 c3) n3 xs bad3 r3 wx ∧ n3 ≤ 100000 ∧ r3.length ≤ r.tail.length ∧ (n3 = 0 → xs = [] ∧ a3 = none ∧ c3 = 0) ∧ Oc xs))
      case first =>
        cases b41
        rotate_left
        · obtain ⟨rfl, rfl⟩ : at3 = at2 + 1 + 1 ∧ r3 = r.tail.tail := by
            rcases HC3.out with ⟨_, _, h1, h2⟩ | ⟨h1, _⟩
            · exact ⟨h1, h2⟩
            · have := HB41.out; rw [this] at h1; simp at h1
          have H41 := HB41
          go_wp2_with fail
          go_meet
          refine ⟨none, 0, 0, [], _, false, _, rfl, Lib.hid ⟨HCB.out, .inl ⟨rfl, .nil, FJ.nil _ _ _ _, Ps.ag_end H41.out, ?_⟩, by omega, by simp, fun _ => ⟨rfl, rfl, rfl⟩, Oc.nil⟩⟩
          exact tail_lt (by intro e; have := H41.out; rw [e] at this; cases this)
        · obtain ⟨rfl, rfl⟩ : at3 = at2 + 1 ∧ r3 = r.tail := by
            rcases HC3.out with ⟨_, h1, _⟩ | ⟨_, h1, h2⟩
            · have := HB41.out; rw [this] at h1; cases h1
            · exact ⟨h1, h2⟩
          have H41 := HB41
          go_wp2_with fail
          refine (HE.out wb (at2 + 1) r.tail (by first | rfl | trivial) HCB.out.ms.pat (by have := HRT.out; have := HLT.out; omega)).mono ?_
          rintro e wc ⟨h2, a2, n2, c2, bad7, at7, r7, rfl, hp7, hle7, hg7, hres7⟩
          have HC7 := Lib.hid (HCB.out.gr hp7 hg7)
          have HLE7 := Lib.hid hle7
          have HRS7 : Hid ((bad7 = false ∧ ∃ ar2, Ps .ex r.tail (.ok (one1 h2 ar2) r7) ∧ ArgsAt wc (TBj w gR gx (.slice none 0 0)) ar2 (.slice a2 n2 c2)) ∨ (bad7 = true ∧ Ps .ex r.tail (.bad r7))) := Lib.hid (by
            rcases hres7.out with ⟨_, e1, ar2, e2, e3, e4⟩ | ⟨_, e1, e2⟩ | ⟨e1, _⟩
            · exact .inl ⟨e1, ar2, e2, args_mono e3 (fun b hb _ => ⟨⟨by have := HCB.out.ms.gr.size; omega, by have := HCB.out.rc.lt; omega, by have := HCB.out.xc.lt; omega⟩, fun e => nomatch e⟩)⟩
            · exact .inr ⟨e1, e2⟩
            · cases e1)
          clear hres7 hp7 hg7 hle7
          obtain ⟨i0, hi0, hz0, hz1, hz2⟩ := info_parts Tryd.infoExpr
          have HIF := Lib.hid hi0
          have HZ0 := Lib.hid hz0
          have HZ1 := Lib.hid hz1
          have HZ2 := Lib.hid hz2
          clear hi0 hz0 hz1 hz2
          have hszw := HC7.out.ms.gr.size
          have HOA := Lib.hid (HC7.out.own.alloc (.cells (ecs h2 (.slice a2 n2 c2)) 31))
          go_wp2_with (at_builtin; refine wpList_append_lies _ rfl _ _ _ rfl w.heap.size 31 i0 _ 6 72 Tryd.underlying29 HIF.out HZ0.out HZ1.out HZ2.out rfl (by omega) _ _ _ rfl HOA.out ⟨wc.heap.size, 0, none⟩ 1 1 (hdc h2 (.slice a2 n2 c2)) rfl rfl (World.news_of_block (cs := (hdc h2 (.slice a2 n2 c2)).toArray) (t := 31) (fr := (0, 0)) (heap_alloc_new wc _)) (by simp [Value.oneCell']) (by omega) (by unfold maxLen; omega) (by omega) (by simp; omega) _ rfl ?_; intro g9 c9 w9 hown9 hgrow9 hor9 hlt9; have HO9 := Lib.hid hown9; have HG9 := Lib.hid hgrow9; have HR9 := Lib.hid hor9; clear hown9 hgrow9 hor9 hlt9)
          have HC9 := Lib.hid (HC7.out.push HG9.out HR9.out HO9.out)
          have HK9 : Hid (0 + 1 ≤ at7 ∧ r7.length ≤ r.tail.length ∧ KRes K w gR gx r (.slice (some ⟨g9, 0, none⟩) (0 + 1) c9) (0 + 1) ([] ++ hdc h2 (.slice a2 n2 c2)) bad7 r7 w9) := Lib.hid (by
            refine ⟨by have h1 := HC9.out.ms.pat.lt.2; have h2 := HCB.out.ms.pat.lt.2; have h3 := HLE7.out; omega, HLE7.out, ?_⟩
            rcases HRS7.out with ⟨e1, ar2, e2, e3⟩ | ⟨e1, e2⟩
            · exact .inl ⟨e1, Fo.nil.app (one1 h2 ar2), (FJ.nil w gR gx wc).push e3 HG9.out HR9.out, fun z hz => Ps.ag_first H41.out e2 hz⟩
            · exact .inr ⟨e1, Ps.ag_first_bad H41.out e2⟩)
          clear hszw HRS7 HO9 HG9 HR9 HOA
          go_loopw [6] (fun v6 wr => ∃ (a3 : Option Addr) (n3 c3 : Nat) (xs : List Value) (at3 : Nat) (bad3 : Bool) (r3 : List Tk), v6 = .slice a3 n3 c3 ∧ Hid (CJ K w gR gt gx ⟨tk, tn, tv, tt⟩ h (.slice a n c) ar (.slice a3 n3 c3) n3 xs at3 bad3 r3 wr ∧ 0 < n3 ∧ n3 ≤ at3 ∧ r3.length ≤ r.tail.length ∧ KRes K w gR gx r (.slice a3 n3 c3) n3 xs bad3 r3 wr ∧ Oc xs)) (fun _ wr => K.ts.length - natAt wr K.g)
          case atStart => exact ⟨some ⟨g9, 0, none⟩, 0 + 1, c9, _, at7, bad7, r7, rfl, Lib.hid ⟨HC9.out, by omega, HK9.out.1, HK9.out.2.1, HK9.out.2.2, Oc.nil.push h2 a2 n2 c2⟩⟩
          case round =>
            rename World => wl
            obtain ⟨a3, n3, c3, xs, at3, bad3, r3, rfl, HI⟩ := hrel
            go_wp2_with fail
            refine (raccept_any K at3 bad3 r3 [44] _ HI.out.1.ms.pat).mono ?_
            rintro e wm ⟨at4, r4, rfl, hp4, hg4, hc4⟩
            have HC4 := Lib.hid (HI.out.1.gr hp4 hg4)
            have HK4 : Hid (KRes K w gR gx r (.slice a3 n3 c3) n3 xs bad3 r3 wm) := Lib.hid (by
              rcases HI.out.2.2.2.2.1 with ⟨e1, F, e2, e3⟩ | hr
              · exact .inl ⟨e1, F, e2.gr hg4 HI.out.1.ms.gl, e3⟩
              · exact .inr hr)
            clear hp4 hg4
            rcases hc4 with ⟨rfl, h44, rfl, rfl⟩ | ⟨h44, rfl, rfl⟩
            · have H44 := Lib.hid h44
              (try rw [h44])
              clear h44
              obtain ⟨F, hf, hfc⟩ : ∃ F, FJ w gR gx (.slice a3 n3 c3) n3 xs F wm ∧ ∀ z, Ps (.ag false F) r3 z → Ps (.ag true .nil) r.tail z := by
                rcases HK4.out with ⟨_, h1⟩ | ⟨h1, _⟩
                · exact h1
                · cases h1
              have HF := Lib.hid hf
              have HFC := Lib.hid hfc
              have HRT3 : Hid (r3.tail.length < r3.length) := Lib.hid (tail_lt (by intro e; have := H44.out; rw [e] at this; cases this))
              have HN3 : Hid (n3 ≤ 100000) := Lib.hid (by have := HI.out.2.2.1; have := HI.out.1.ms.pat.lt; have := HI.out.1.ms.pat.n; omega)
              clear hf hfc
              go_wp2_with fail
              refine (HE.out wm (at3 + 1) r3.tail (by first | rfl | trivial) HC4.out.ms.pat (by have := HRT.out; have := HLT.out; have := HRT3.out; have := HI.out.2.2.2.1; omega)).mono ?_
              rintro e wc ⟨h2, a2, n2, c2, bad7, at7, r7, rfl, hp7, hle7, hg7, hres7⟩
              have HC7 := Lib.hid (HC4.out.gr hp7 hg7)
              have HF7 := Lib.hid (HF.out.gr hg7 HC4.out.ms.gl)
              have HLE7 := Lib.hid hle7
              have HRS7 : Hid ((bad7 = false ∧ ∃ ar2, Ps .ex r3.tail (.ok (one1 h2 ar2) r7) ∧ ArgsAt wc (TBj w gR gx (.slice a3 n3 c3)) ar2 (.slice a2 n2 c2)) ∨ (bad7 = true ∧ Ps .ex r3.tail (.bad r7))) := Lib.hid (by
                rcases hres7.out with ⟨_, e1, ar2, e2, e3, e4⟩ | ⟨_, e1, e2⟩ | ⟨e1, _⟩
                · exact .inl ⟨e1, ar2, e2, args_mono e3 (fun b hb _ => ⟨⟨by have := HC4.out.ms.gr.size; omega, by have := HC4.out.rc.lt; omega, by have := HC4.out.xc.lt; omega⟩, fun e => by have := (HC4.out.own.lt _ e.symm).2; omega⟩)⟩
                · exact .inr ⟨e1, e2⟩
                · cases e1)
              clear hres7 hp7 hg7 hle7 HF HK4
              have hn3 := HN3.out
              have hszw := HC7.out.ms.gr.size
              have HOA := Lib.hid (HC7.out.own.alloc (.cells (ecs h2 (.slice a2 n2 c2)) 31))
              go_wp2_with (at_builtin; refine wpList_append_lies _ rfl _ _ _ rfl w.heap.size 31 i0 _ 6 72 Tryd.underlying29 HIF.out HZ0.out HZ1.out HZ2.out rfl (by omega) _ _ _ rfl HOA.out ⟨wc.heap.size, 0, none⟩ 1 1 (hdc h2 (.slice a2 n2 c2)) rfl rfl (World.news_of_block (cs := (hdc h2 (.slice a2 n2 c2)).toArray) (t := 31) (fr := (0, 0)) (heap_alloc_new wc _)) (by simp [Value.oneCell']) (by omega) (by unfold maxLen; omega) (by omega) (by simp; omega) _ rfl ?_; intro g9 c9 w9 hown9 hgrow9 hor9 hlt9; have HO9 := Lib.hid hown9; have HG9 := Lib.hid hgrow9; have HR9 := Lib.hid hor9; clear hown9 hgrow9 hor9 hlt9)
              have HC9 := Lib.hid (HC7.out.push HG9.out HR9.out HO9.out)
              have HM9 : Hid (at3 < at7 ∧ r7.length ≤ r.tail.length) := Lib.hid (by have h1 := HC9.out.ms.pat.lt.2; have h2 := HI.out.1.ms.pat.lt.2; have h3 := HLE7.out; have h4 := HRT3.out; have h5 := HI.out.2.2.2.1; exact ⟨by omega, by omega⟩)
              have HK9 : Hid (KRes K w gR gx r (.slice (some ⟨g9, 0, none⟩) (n3 + 1) c9) (n3 + 1) (xs ++ hdc h2 (.slice a2 n2 c2)) bad7 r7 w9) := Lib.hid (by
                have H41n := isT_no (t := [41]) H44.out (by decide)
                rcases HRS7.out with ⟨e1, ar2, e2, e3⟩ | ⟨e1, e2⟩
                · exact .inl ⟨e1, F.app (one1 h2 ar2), HF7.out.push e3 HG9.out HR9.out, fun z hz => HFC.out z (Ps.ag_next H41n H44.out e2 hz)⟩
                · exact .inr ⟨e1, HFC.out _ (Ps.ag_next_bad H41n H44.out e2)⟩)
              clear hszw HRS7 HO9 HG9 HR9 HOA hn3
              go_roundw
              case rel => exact ⟨some ⟨g9, 0, none⟩, n3 + 1, c9, _, at7, bad7, r7, rfl, Lib.hid ⟨HC9.out, by omega, by have := HM9.out.1; have := HI.out.2.2.1; omega, HM9.out.2, HK9.out, HI.out.2.2.2.2.2.push h2 a2 n2 c2⟩⟩
              case measure =>
                have h1 := HC9.out.ms.pat.natAt
                have h2 := HI.out.1.ms.pat.natAt
                have h3 := HC9.out.ms.pat.lt.1
                have h4 := HM9.out.1
                rw [h1, h2]
                omega
            · have H44 := Lib.hid h44
              (try rw [h44])
              clear h44
              go_wp2_with fail
              refine (rexpect_any K at4 bad3 r4 [41] _ HC4.out.ms.pat).mono ?_
              rintro e wn ⟨at5, bad5, r5, rfl, hp5, hg5, hc5⟩
              have HC5 := Lib.hid (HC4.out.gr hp5 hg5)
              have HN3 : Hid (n3 ≤ 100000 ∧ 0 < n3) := Lib.hid (by have := HI.out.2.1; have := HI.out.2.2.1; have := HI.out.1.ms.pat.lt; have := HI.out.1.ms.pat.n; exact ⟨by omega, by omega⟩)
              have HJ5 : Hid (r5.length ≤ r.tail.length ∧ JRes K w gR gx r (.slice a3 n3 c3) n3 xs bad5 r5 wn) := Lib.hid (by
                have hle := HI.out.2.2.2.1
                rcases HK4.out with ⟨e1, F, e2, e3⟩ | ⟨e1, e2⟩
                · rcases hc5 with ⟨q1, q2, q3, q4, q5⟩ | ⟨q1, q2, q4, q5⟩
                  · have hl5 : r5.length < r4.length := by rw [q5]; exact tail_lt (by intro e; rw [e] at q3; cases q3)
                    refine ⟨by omega, .inl ⟨q2, F, e2.gr hg5 HC4.out.ms.gl, ?_, by omega⟩⟩
                    rw [q5]
                    exact e3 _ (Ps.ag_end q3)
                  · refine ⟨by rw [q5]; exact hle, .inr ⟨q2, ?_⟩⟩
                    rw [q5]
                    refine e3 _ (Ps.ag_bad ?_ ?_)
                    · rw [e1] at q1; simpa using q1
                    · have := H44.out; rw [e1] at this; simpa using this
                · rcases hc5 with ⟨q1, q2, q3, q4, q5⟩ | ⟨q1, q2, q4, q5⟩
                  · rw [q1] at e1; cases e1
                  · refine ⟨by rw [q5]; exact hle, .inr ⟨q2, ?_⟩⟩
                    rw [q5]
                    exact e2)
              clear hp5 hg5 hc5 HK4
              go_wp2_with fail
              go_meet
              exact ⟨a3, n3, c3, xs, at5, bad5, r5, rfl, Lib.hid ⟨HC5.out, HJ5.out.2, HN3.out.1, HJ5.out.1, fun e => by have := HN3.out.2; omega, HI.out.2.2.2.2.2⟩⟩
      case rest =>
      clear HC3 HCB HC8 HB41
      rename World => wq
      obtain ⟨a3, n3, c3, xs, at4, bad4, r4, rfl, HC⟩ := hcut
      have HLE : Hid (r4.length ≤ rest.length ∧ r4.length ≤ r.tail.length) := Lib.hid ⟨by have := HC.out.2.2.2.1; have := HRT.out; have := HLT.out; omega, HC.out.2.2.2.1⟩
      have HMS : Hid (at2 < at4) := Lib.hid (by have h1 := HC.out.1.ms.pat.lt.2; have h2 := HL.out.1.ms.pat.lt.2; have h3 := HLE.out.2; have h4 := HRT.out; omega)
      obtain ⟨x0, x1, x2, x3, x4, x5⟩ := HC.out.1.xc.cells
      obtain ⟨t0, t1, t2, t3⟩ := HC.out.1.tc.cells
      (try dsimp only at t0 t1 t2 t3)
      obtain ⟨g0, g1, g2, g3, g4, g5⟩ := HC.out.1.xc.froz
      have hlX := HC.out.1.xc.lt
      have hlT := HC.out.1.tc.lt
      have HVAL : Hid ((h.k == 13 && kOf rest == 1) = false → ∀ (W w9 : World) (g9 c9 : Nat), (wq.alloc (.cells #[.int .i64 h.k, .int .i64 h.op, .int .i64 h.v, .int .i64 h.ln, .string (st h.nm), .slice a n c] 31)).grownBy w9 (some wq.heap.size) → (some wq.heap.size = some g9 ∨ g9 = (wq.alloc (.cells #[.int .i64 h.k, .int .i64 h.op, .int .i64 h.v, .int .i64 h.ln, .string (st h.nm), .slice a n c] 31)).heap.size) → w9.ownsRow w.heap.size 31 6 (.slice (some ⟨g9, 0, none⟩) (1 + n3) c9) (1 + n3) (hdc h (.slice a n c) ++ xs) →
          W = set6 w9 gx (.int .i64 10) (.int .i64 0) (.int .i64 0) (.int .i64 un) (.string { data := #[] }) (.slice (some ⟨g9, 0, none⟩) (1 + n3) c9) → (LQ K w gR gx .ca (CLc rest) at_ false rest ⟨10, 0, 0, un, []⟩ (some ⟨g9, 0, none⟩) (1 + n3) c9 bad4 at4 r4 W ∧ Lt W gt ⟨tk, tn, tv, tt⟩) ∧ Lc w9 gx h (.slice a n c)) := Lib.hid (fun hpl W w9 g9 c9 hg9 hh9 ho9 hW => by
        subst hW
        have h := HC.out.1.value (at_ := at_) (bad := false) (rest := rest) (r0 := r) (ln := un) HLE.out.1 HLT.out HC.out.2.1 HT.out HCO.out hpl HLN.out hg9 hh9 ho9
        exact ⟨⟨h.1, h.2.1⟩, h.2.2⟩)
      have HVB : Hid (∀ W, W = set6 wq gx (.int .i64 9) (.int .i64 0) (.int .i64 0) (.int .i64 un) (.string (st h.nm)) (.slice a3 n3 c3) → h.k = 13 → tk = 1 → LQ K w gR gx .ca (CLc rest) at_ false rest ⟨9, 0, 0, un, h.nm⟩ a3 n3 c3 bad4 at4 r4 W ∧ Lt W gt ⟨tk, tn, tv, tt⟩) := Lib.hid (fun W hW h13 hk1 => by
        subst hW
        exact HC.out.1.name (at_ := at_) (bad := false) (rest := rest) (r0 := r) (ln := un) rfl HLE.out.1 HLT.out HC.out.2.1 HT.out HCO.out h13 (by rw [HKT.out]; exact hk1) HLN.out)
      by_cases h13 : h.k = 13 ∧ tk = 1
      · have e13 : (h.k == 13) = true := by rw [beq_iff_eq]; exact h13.1
        have e1 : (tk == 1) = true := by rw [beq_iff_eq]; exact h13.2
        have H13 := Lib.hid h13
        clear h13
        go_wp2_with fail
        go_roundw
        case rel => exact ⟨_, a3, n3, c3, bad4, at4, r4, Lib.hid (HVB.out _ rfl H13.out.1 H13.out.2)⟩
        case measure =>
          have h1 := (HVB.out _ rfl H13.out.1 H13.out.2).1.ms.pat.natAt
          have h2 := HL.out.1.ms.pat.natAt
          have h3 := HL.out.1.ms.pat.lt.1
          have h4 := HMS.out
          unfold set6 at h1
          rw [h2]
          first | (rw [h1]; omega) | (simp at h1; rw [h1]; omega)
      · have HPL : Hid ((h.k == 13 && kOf rest == 1) = false) := Lib.hid (by
          rw [HKT.out]
          cases e1 : (h.k == 13)
          · rfl
          · cases e2 : (tk == 1)
            · rfl
            · exact absurd ⟨by simpa using e1, by simpa using e2⟩ h13)
        cases e13 : (h.k == 13)
        · clear h13
          have hszw := HC.out.1.ms.gr.size
          by_cases hn0 : n3 = 0
          · obtain ⟨hxs, ha3, hc3⟩ := HC.out.2.2.2.2.1 hn0
            subst hn0 hxs ha3 hc3
            go_wp2_with fail
            have HVV : Hid (∀ W, W = (set6 wq gx (.int .i64 10) (.int .i64 0) (.int .i64 0) (.int .i64 un) (.string { data := #[] }) (.slice (some ⟨wq.heap.size, 0, none⟩) 1 1)).alloc (.cells #[.int .i64 h.k, .int .i64 h.op, .int .i64 h.v, .int .i64 h.ln, .string (st h.nm), .slice a n c] 31) → LQ K w gR gx .ca (CLc rest) at_ false rest ⟨10, 0, 0, un, []⟩ (some ⟨wq.heap.size, 0, none⟩) 1 1 bad4 at4 r4 W ∧ Lt W gt ⟨tk, tn, tv, tt⟩) := Lib.hid (fun W hW => by
              rw [← set6_alloc _ HC.out.1.xc.lt] at hW
              exact (HVAL.out HPL.out W (wq.alloc (.cells #[.int .i64 h.k, .int .i64 h.op, .int .i64 h.v, .int .i64 h.ln, .string (st h.nm), .slice a n c] 31)) wq.heap.size 1 ⟨rfl, rfl, rfl, Nat.le_refl _, fun _ _ _ => rfl⟩ (.inl rfl) (by rw [List.append_nil]; exact ⟨by simp [hdc], .inr ⟨wq.heap.size, 1, _, rfl, hszw, heap_alloc_new wq _, Nat.le_refl _, by simp [maxLen], by simp, by simp [hdc]⟩⟩) hW).1)
            go_roundw
            case rel => exact ⟨⟨10, 0, 0, un, []⟩, some ⟨wq.heap.size, 0, none⟩, 1, 1, bad4, at4, r4, Lib.hid (HVV.out _ rfl)⟩
            case measure =>
              have h1 := (HVV.out _ rfl).1.ms.pat.natAt
              have h2 := HL.out.1.ms.pat.natAt
              have h3 := HL.out.1.ms.pat.lt.1
              have h4 := HMS.out
              unfold set6 at h1
              rw [h2]
              first | (rw [h1]; omega) | (simp at h1 ⊢; rw [h1]; omega)
          · have HOC := Lib.hid HC.out.2.2.2.2.2
            have HOA : Hid ((wq.alloc (.cells #[.int .i64 h.k, .int .i64 h.op, .int .i64 h.v, .int .i64 h.ln, .string (st h.nm), .slice a n c] 31)).ownsRow w.heap.size 31 6 (.slice (some ⟨wq.heap.size, 0, none⟩) 1 1) 1 (hdc h (.slice a n c))) := Lib.hid ⟨by simp [hdc], .inr ⟨wq.heap.size, 1, _, rfl, hszw, heap_alloc_new wq _, Nat.le_refl _, by simp [maxLen], by simp, by simp [hdc]⟩⟩
            have hlen : xs.length = n3 * 6 := HC.out.1.own.1
            obtain ⟨g3, c3', hsl, hg3, hg3l, hg3c, hg3m, hg3x, hg3cell⟩ := own_block HC.out.1.own (by intro e; rw [e] at hlen; simp at hlen; omega)
            injection hsl with ha3 _ hcc3
            subst ha3 hcc3
            have HSRC : Hid (∀ j u, xs[j]? = some u → (wq.alloc (.cells #[.int .i64 h.k, .int .i64 h.op, .int .i64 h.v, .int .i64 h.ln, .string (st h.nm), .slice a n c] 31)).cell? ((⟨g3, 0, none⟩ : Addr).add j) = some u) := Lib.hid (fun j u hj => by rw [add_none]; simpa using cell_ml _ (hg3cell j u hj))
            have hn3 := HC.out.2.2.1
            clear hg3cell hg3c hg3m hg3x
            obtain ⟨i0, hi0, hz0, hz1, hz2⟩ := info_parts Tryd.infoExpr
            have HIF := Lib.hid hi0
            have HZ0 := Lib.hid hz0
            have HZ1 := Lib.hid hz1
            have HZ2 := Lib.hid hz2
            clear hi0 hz0 hz1 hz2
            go_wp2_with (at_builtin; refine wpList_append_lies _ rfl _ _ _ rfl w.heap.size 31 i0 _ 6 72 Tryd.underlying29 HIF.out HZ0.out HZ1.out HZ2.out rfl (by omega) _ _ _ rfl HOA.out ⟨g3, 0, none⟩ n3 c3 xs rfl hlen HSRC.out HOC.out (by omega) (by unfold maxLen; omega) (by omega) (by simp; omega) _ rfl ?_; intro g9 c9 w9 hown9 hgrow9 hor9 hlt9; have HVV := Lib.hid (fun W hW => HVAL.out HPL.out W w9 g9 c9 hgrow9 hor9 hown9 hW); have HCX := Lib.hid (HVAL.out HPL.out _ w9 g9 c9 hgrow9 hor9 hown9 rfl).2; obtain ⟨s0, s1, s2, s3, s4, s5⟩ := HCX.out.cells; obtain ⟨f0, f1, f2, f3, f4, f5⟩ := HCX.out.froz; have hlX9 := HCX.out.lt; clear hown9 hgrow9 hor9 hlt9)
            go_roundw
            case rel => exact ⟨_, _, _, _, bad4, at4, r4, Lib.hid (HVV.out _ rfl).1⟩
            case measure =>
              have h1 := (HVV.out _ rfl).1.1.ms.pat.natAt
              have h2 := HL.out.1.ms.pat.natAt
              have h3 := HL.out.1.ms.pat.lt.1
              have h4 := HMS.out
              unfold set6 at h1
              rw [h2]
              first | (rw [h1]; omega) | (simp at h1; rw [h1]; omega)
        · cases e1 : (tk == 1)
          · clear h13
            have hszw := HC.out.1.ms.gr.size
            by_cases hn0 : n3 = 0
            · obtain ⟨hxs, ha3, hc3⟩ := HC.out.2.2.2.2.1 hn0
              subst hn0 hxs ha3 hc3
              go_wp2_with fail
              have HVV : Hid (∀ W, W = (set6 wq gx (.int .i64 10) (.int .i64 0) (.int .i64 0) (.int .i64 un) (.string { data := #[] }) (.slice (some ⟨wq.heap.size, 0, none⟩) 1 1)).alloc (.cells #[.int .i64 h.k, .int .i64 h.op, .int .i64 h.v, .int .i64 h.ln, .string (st h.nm), .slice a n c] 31) → LQ K w gR gx .ca (CLc rest) at_ false rest ⟨10, 0, 0, un, []⟩ (some ⟨wq.heap.size, 0, none⟩) 1 1 bad4 at4 r4 W ∧ Lt W gt ⟨tk, tn, tv, tt⟩) := Lib.hid (fun W hW => by
                rw [← set6_alloc _ HC.out.1.xc.lt] at hW
                exact (HVAL.out HPL.out W (wq.alloc (.cells #[.int .i64 h.k, .int .i64 h.op, .int .i64 h.v, .int .i64 h.ln, .string (st h.nm), .slice a n c] 31)) wq.heap.size 1 ⟨rfl, rfl, rfl, Nat.le_refl _, fun _ _ _ => rfl⟩ (.inl rfl) (by rw [List.append_nil]; exact ⟨by simp [hdc], .inr ⟨wq.heap.size, 1, _, rfl, hszw, heap_alloc_new wq _, Nat.le_refl _, by simp [maxLen], by simp, by simp [hdc]⟩⟩) hW).1)
              go_roundw
              case rel => exact ⟨⟨10, 0, 0, un, []⟩, some ⟨wq.heap.size, 0, none⟩, 1, 1, bad4, at4, r4, Lib.hid (HVV.out _ rfl)⟩
              case measure =>
                have h1 := (HVV.out _ rfl).1.ms.pat.natAt
                have h2 := HL.out.1.ms.pat.natAt
                have h3 := HL.out.1.ms.pat.lt.1
                have h4 := HMS.out
                unfold set6 at h1
                rw [h2]
                first | (rw [h1]; omega) | (simp at h1 ⊢; rw [h1]; omega)
            · have HOC := Lib.hid HC.out.2.2.2.2.2
              have HOA : Hid ((wq.alloc (.cells #[.int .i64 h.k, .int .i64 h.op, .int .i64 h.v, .int .i64 h.ln, .string (st h.nm), .slice a n c] 31)).ownsRow w.heap.size 31 6 (.slice (some ⟨wq.heap.size, 0, none⟩) 1 1) 1 (hdc h (.slice a n c))) := Lib.hid ⟨by simp [hdc], .inr ⟨wq.heap.size, 1, _, rfl, hszw, heap_alloc_new wq _, Nat.le_refl _, by simp [maxLen], by simp, by simp [hdc]⟩⟩
              have hlen : xs.length = n3 * 6 := HC.out.1.own.1
              obtain ⟨g3, c3', hsl, hg3, hg3l, hg3c, hg3m, hg3x, hg3cell⟩ := own_block HC.out.1.own (by intro e; rw [e] at hlen; simp at hlen; omega)
              injection hsl with ha3 _ hcc3
              subst ha3 hcc3
              have HSRC : Hid (∀ j u, xs[j]? = some u → (wq.alloc (.cells #[.int .i64 h.k, .int .i64 h.op, .int .i64 h.v, .int .i64 h.ln, .string (st h.nm), .slice a n c] 31)).cell? ((⟨g3, 0, none⟩ : Addr).add j) = some u) := Lib.hid (fun j u hj => by rw [add_none]; simpa using cell_ml _ (hg3cell j u hj))
              have hn3 := HC.out.2.2.1
              clear hg3cell hg3c hg3m hg3x
              obtain ⟨i0, hi0, hz0, hz1, hz2⟩ := info_parts Tryd.infoExpr
              have HIF := Lib.hid hi0
              have HZ0 := Lib.hid hz0
              have HZ1 := Lib.hid hz1
              have HZ2 := Lib.hid hz2
              clear hi0 hz0 hz1 hz2
              go_wp2_with (at_builtin; refine wpList_append_lies _ rfl _ _ _ rfl w.heap.size 31 i0 _ 6 72 Tryd.underlying29 HIF.out HZ0.out HZ1.out HZ2.out rfl (by omega) _ _ _ rfl HOA.out ⟨g3, 0, none⟩ n3 c3 xs rfl hlen HSRC.out HOC.out (by omega) (by unfold maxLen; omega) (by omega) (by simp; omega) _ rfl ?_; intro g9 c9 w9 hown9 hgrow9 hor9 hlt9; have HVV := Lib.hid (fun W hW => HVAL.out HPL.out W w9 g9 c9 hgrow9 hor9 hown9 hW); have HCX := Lib.hid (HVAL.out HPL.out _ w9 g9 c9 hgrow9 hor9 hown9 rfl).2; obtain ⟨s0, s1, s2, s3, s4, s5⟩ := HCX.out.cells; obtain ⟨f0, f1, f2, f3, f4, f5⟩ := HCX.out.froz; have hlX9 := HCX.out.lt; clear hown9 hgrow9 hor9 hlt9)
              go_roundw
              case rel => exact ⟨_, _, _, _, bad4, at4, r4, Lib.hid (HVV.out _ rfl).1⟩
              case measure =>
                have h1 := (HVV.out _ rfl).1.1.ms.pat.natAt
                have h2 := HL.out.1.ms.pat.natAt
                have h3 := HL.out.1.ms.pat.lt.1
                have h4 := HMS.out
                unfold set6 at h1
                rw [h2]
                first | (rw [h1]; omega) | (simp at h1; rw [h1]; omega)
          · exact absurd ⟨by simpa using e13, by simpa using e1⟩ h13
end Go.Proofs.YtlbjdglgnkajnaaDoor
