/-
  WALK of the reference's ParseExpr. (Filled in from a template of this repo.)
-/
import Derived.Test.YtlbjdglgnkajnaaDoorQsJ
namespace Go.Proofs.YtlbjdglgnkajnaaDoor
open Go.ChangeShapes Go.WideShapes Go.ChangeAt Go.RowKit
set_option linter.unusedVariables false
set_option linter.unusedSimpArgs false

theorem RAt.s6 {w : World} {K : PC} {at_ : Nat} {bad : Bool} {rest : List Tk} (h : RAt w K at_ bad rest) {b : Nat} (hb : b ≠ K.g ∧ ∀ x, K.al = some x → x.block ≠ b) (v0 v1 v2 v3 v4 v5 : Value) : RAt (set6 w b v0 v1 v2 v3 v4 v5) K at_ bad rest :=
  (((((h.sc1 hb v0).sc1 hb v1).sc1 hb v2).sc1 hb v3).sc1 hb v4).sc1 hb v5
set_option maxRecDepth 100000 in
set_option maxHeartbeats 8000000 in
theorem RParseExpr_any (T : Bt) (hT : T.length ≤ 281474976710656) (w : World) : Calls Tryd.prog 11 #[.string (st T)] w (PEPost T w) := by
  have HR1 := Lib.hid (Lc.zero w)
  have HTl := Lib.hid hT
  have HB1 := Lib.hid (below_alloc w zex)
  clear hT
  go_enter Tryd.func11, Tryd.ntmps11
  go_upto_region 1 with fail
  obtain ⟨w1, hw1⟩ : ∃ W, w.alloc zex = W := ⟨_, rfl⟩
  obtain ⟨gR, hgR⟩ : ∃ x, w.heap.size = x := ⟨_, rfl⟩
  (try rw [show w.alloc (.cells #[.int .i64 0, .int .i64 0, .int .i64 0, .int .i64 0, .string { data := #[] }, .slice none 0 0] 31) = w1 from hw1])
  rw [hw1] at HR1 HB1
  rw [hgR] at HR1
  (try rw [hgR])
  have HGR := Lib.hid hgR
  have HS1 : Hid (w1.heap.size = gR + 1) := Lib.hid (by rw [← hw1, ← hgR]; simp)
  clear hw1 hgR
  go_wp2_with fail
  refine (RScan_any (st T) (by show T.length ≤ _; exact HTl.out) _).mono ?_
  rintro e w2 ⟨hb2, hp⟩
  have ed : (st T).data.toList = T := by simp
  rw [ed] at hp
  have HR2 := Lib.hid (HR1.out.be hb2)
  have HB2 := Lib.hid (HB1.out.trans (hb2.mono HB1.out.size))
  have HS2 : Hid (gR < w2.heap.size) := Lib.hid (by have := HS1.out; have := hb2.size; omega)
  have hend : ∀ (ln er : Int), (∀ W, W = set6 w2 gR (.int .i64 0) (.int .i64 0) (.int .i64 0) (.int .i64 0) (.string { data := #[] }) (.slice none 0 0) → Lc W gR zhd (.slice none 0 0) ∧ Below w.heap.size w W) := fun _ _ W hW => by
    subst hW
    exact ⟨HR2.out.s6 zhd _, below_s6 HB2.out (by have := HGR.out; omega)⟩
  have HEND := Lib.hid hend
  clear hend hb2 ed
  obtain ⟨y0, y1, y2, y3, y4, y5⟩ := HR2.out.cells
  obtain ⟨g0, g1, g2, g3, g4, g5⟩ := HR2.out.froz
  have hlR := HR2.out.lt
  rcases hp with ⟨hbig, rfl⟩ | ⟨hle, hsc, rfl⟩ | ⟨hle, ts, v, hsc, rfl, hown⟩
  · have HX := Lib.hid hbig
    clear hbig
    go_wp2_with fail
    obtain ⟨wz, hwz⟩ : ∃ W, set6 w2 gR (.int .i64 0) (.int .i64 0) (.int .i64 0) (.int .i64 0) (.string { data := #[] }) (.slice none 0 0) = W := ⟨_, rfl⟩
    have hwz2 := hwz
    unfold set6 at hwz2
    (try rw [hwz2])
    obtain ⟨hd, hbz⟩ := HEND.out 0 0 wz hwz.symm
    obtain ⟨d0, d1, d2, d3, d4, d5⟩ := hd.cells
    refine bodyPost_ret (v := .tuple #[exv zhd (.slice none 0 0), .int .i64 0, .int .i64 5]) (by simp [results, Tryd.results11, go_sem, d0, d1, d2, d3, d4, d5]) rfl ?_
    exact ⟨hbz, .inl ⟨HX.out, rfl⟩⟩
  · have HX := Lib.hid (And.intro hle hsc)
    clear hle hsc
    go_wp2_with fail
    obtain ⟨wz, hwz⟩ : ∃ W, set6 w2 gR (.int .i64 0) (.int .i64 0) (.int .i64 0) (.int .i64 0) (.string { data := #[] }) (.slice none 0 0) = W := ⟨_, rfl⟩
    have hwz2 := hwz
    unfold set6 at hwz2
    (try rw [hwz2])
    obtain ⟨hd, hbz⟩ := HEND.out 0 0 wz hwz.symm
    obtain ⟨d0, d1, d2, d3, d4, d5⟩ := hd.cells
    refine bodyPost_ret (v := .tuple #[exv zhd (.slice none 0 0), .int .i64 (scan T).2, .int .i64 6]) (by simp [results, Tryd.results11, go_sem, d0, d1, d2, d3, d4, d5]) rfl ?_
    exact ⟨hbz, .inr (.inl ⟨HX.out.1, HX.out.2, rfl⟩)⟩
  · have hL := scan_len hsc
    obtain ⟨al, cl, rfl, _, hc1, hc2, htl, hbl⟩ := Tks.of_own hown
    have HX := Lib.hid (And.intro hle hsc)
    have HAL : Hid (∀ x, al = some x → x.block ≠ gR) := Lib.hid (fun x hx => by have := hbl x hx; have := HS1.out; omega)
    have HP : Hid (∀ W g, W = w2.alloc (.cells #[.slice al ts.length cl, .int .i64 0, .bool false, .int .i64 0] 63) → g = w2.heap.size → RAt W ⟨g, al, cl, ts, 0⟩ 0 false ts) := Lib.hid (fun W g hW hg => by
      subst hW
      subst hg
      exact ⟨heap_alloc_new w2 _, htl.below (below_alloc w2 _), fun x hx => by obtain ⟨b, off, e2, hb, _⟩ := htl 0 (hdT ts) (by obtain ⟨x, r, e⟩ := hL.2.cons; rw [e]; rfl); rw [e2] at hx; injection hx with hx; subst hx; show b ≠ w2.heap.size; omega, by simp, hL.2, ⟨hc1, hc2⟩, by show ts.length ≤ 100000; have := hL.1; omega⟩)
    have HR3 := Lib.hid (HR2.out.al (.cells #[.slice al ts.length cl, .int .i64 0, .bool false, .int .i64 0] 63))
    have HB3 := Lib.hid (HB2.out.alloc (by exact HB2.out.size) (.cells #[.slice al ts.length cl, .int .i64 0, .bool false, .int .i64 0] 63))
    clear hL hc1 hc2 htl hbl hle hsc hown y0 y1 y2 y3 y4 y5 g0 g1 g2 g3 g4 g5 hlR
    go_upto_region 5 with fail
    obtain ⟨w3, hw3⟩ : ∃ W, w2.alloc (.cells #[.slice al ts.length cl, .int .i64 0, .bool false, .int .i64 0] 63) = W := ⟨_, rfl⟩
    obtain ⟨g, hg⟩ : ∃ x, w2.heap.size = x := ⟨_, rfl⟩
    have HP3 := Lib.hid (HP.out w3 g hw3.symm hg.symm)
    (try rw [hw3])
    rw [hw3] at HR3 HB3
    (try rw [hg])
    have HG3 : Hid (gR < g) := Lib.hid (by have := HS2.out; omega)
    clear HP hw3 hg
    go_wp2_with fail
    refine (rexpr_any ⟨g, al, cl, ts, 0⟩ 0 ts _ HP3.out).mono ?_
    rintro e w4 ⟨h, a, n, c, bad, at2, r, rfl, hp4, hle4, hg4, hres⟩
    have HP4 := Lib.hid hp4
    have hgl : gR < g := HG3.out
    have HR4 := Lib.hid (HR3.out.gr hg4 (show gR ≠ g by omega))
    have HB4 : Hid (Below w.heap.size w w4) := Lib.hid (below_of_gr (g := g) ⟨hg4.os.trans HB3.out.os, hg4.tape.trans HB3.out.tape, hg4.output.trans HB3.out.output, Nat.le_trans HB3.out.size hg4.size, fun k hk hn => (hg4.block k (by have := HB3.out.size; omega) hn).trans (HB3.out.block k hk)⟩ (by have := HGR.out; omega))
    have HSZ := Lib.hid (And.intro HB3.out.size HGR.out)
    have HS3 : Hid (gR < w3.heap.size) := Lib.hid HR3.out.lt
    have HR5 := Lib.hid (HR4.out.s6 h (.slice a n c))
    have hp5 : RAt (set6 w4 gR (.int .i64 h.k) (.int .i64 h.op) (.int .i64 h.v) (.int .i64 h.ln) (.string (st h.nm)) (.slice a n c)) ⟨g, al, cl, ts, 0⟩ at2 bad r := hp4.s6 ⟨by show gR ≠ g; omega, HAL.out⟩ _ _ _ _ _ _
    have HP5 := Lib.hid hp5
    obtain ⟨y0, y1, y2, y3, y4, y5⟩ := HR4.out.cells
    obtain ⟨g0, g1, g2, g3, g4, g5⟩ := HR4.out.froz
    have hlR := HR4.out.lt
    have HRES : Hid ((bad = false ∧ ∃ ar, Ps .ex ts (.ok (one1 h ar) r) ∧ ArgsAt w4 (fun b => w3.heap.size ≤ b) ar (.slice a n c)) ∨ (bad = true ∧ Ps .ex ts (.bad r))) := Lib.hid (by
      rcases hres.out with ⟨_, h1, ar, h2, h3, _⟩ | ⟨_, h1, h2⟩ | ⟨h1, _⟩
      · exact .inl ⟨h1, ar, h2, h3⟩
      · exact .inr ⟨h1, h2⟩
      · cases h1)
    clear hp4 hp5 hle4 hg4 hres HP4 HP3 HR3 HB3
    have HB5 := Lib.hid (below_s6 (v0 := .int .i64 h.k) (v1 := .int .i64 h.op) (v2 := .int .i64 h.v) (v3 := .int .i64 h.ln) (v4 := .string (st h.nm)) (v5 := .slice a n c) HB4.out (g := gR) (by have := HGR.out; omega))
    have HA5 : Hid (∀ ar, ArgsAt w4 (fun b => w3.heap.size ≤ b) ar (.slice a n c) → ArgsAt (set6 w4 gR (.int .i64 h.k) (.int .i64 h.op) (.int .i64 h.v) (.int .i64 h.ln) (.string (st h.nm)) (.slice a n c)) (fun b => w.heap.size ≤ b ∧ b ≠ gR) ar (.slice a n c)) := Lib.hid (fun ar ha => args_mono (args_s6 ha (fun b hb => by have := HSZ.out.1; have := HS3.out; omega)) (fun b hb _ => ⟨by have := HSZ.out.1; omega, by have := HS3.out; omega⟩))
    go_upto_region 6 with fail
    obtain ⟨w5, hw5⟩ : ∃ W, set6 w4 gR (.int .i64 h.k) (.int .i64 h.op) (.int .i64 h.v) (.int .i64 h.ln) (.string (st h.nm)) (.slice a n c) = W := ⟨_, rfl⟩
    have hw52 := hw5
    unfold set6 at hw52
    (try rw [hw52])
    rw [hw5] at HR5 HP5 HB5 HA5
    clear hw5 hw52 y0 y1 y2 y3 y4 y5 g0 g1 g2 g3 g4 g5 hlR HR4 HB4
    go_wp2_with fail
    refine (done_any ⟨g, al, cl, ts, 0⟩ at2 bad r _ HP5.out rfl).mono ?_
    rintro e wc ⟨hbc, hdn⟩
    have HBc := Lib.hid hbc
    have HRc := Lib.hid (HR5.out.be HBc.out)
    have HBw := Lib.hid (HB5.out.trans (HBc.out.mono HB5.out.size))
    clear hbc
    rcases hdn with ⟨hq, rfl⟩ | ⟨rfl, hk0, rfl⟩
    · have HY : Hid (∃ y, Ps .ex ts y ∧ ((∃ F, y = .ok F r ∧ kOf r ≠ 0) ∨ y = .bad r)) := Lib.hid (by
        rcases HRES.out with ⟨rfl, ar, h1, _⟩ | ⟨rfl, h1⟩
        · exact ⟨_, h1, .inl ⟨_, rfl, by rcases hq with hq | hq; (cases hq); exact hq⟩⟩
        · exact ⟨_, h1, .inr rfl⟩)
      clear hq
      obtain ⟨y0, y1, y2, y3, y4, y5⟩ := HRc.out.cells
      obtain ⟨g0, g1, g2, g3, g4, g5⟩ := HRc.out.froz
      have hlR := HRc.out.lt
      have HDZ := Lib.hid (HRc.out.s6 zhd (.slice none 0 0))
      have HBZ := Lib.hid (below_s6 (v0 := .int .i64 0) (v1 := .int .i64 0) (v2 := .int .i64 0) (v3 := .int .i64 0) (v4 := .string { data := #[] }) (v5 := .slice none 0 0) HBw.out (g := gR) (by have := HGR.out; omega))
      obtain ⟨rn, hrn⟩ : ∃ x, lnOf r = x := ⟨_, rfl⟩
      have HRN := Lib.hid hrn
      (try rw [hrn])
      clear hrn
      go_wp2_with fail
      obtain ⟨wz, hwz⟩ : ∃ W, set6 wc gR (.int .i64 0) (.int .i64 0) (.int .i64 0) (.int .i64 0) (.string { data := #[] }) (.slice none 0 0) = W := ⟨_, rfl⟩
      have hwz2 := hwz
      unfold set6 at hwz2
      (try rw [hwz2])
      have hdz : Lc wz gR zhd (.slice none 0 0) := by rw [← hwz]; exact HDZ.out
      rw [hwz] at HBZ
      obtain ⟨d0, d1, d2, d3, d4, d5⟩ := hdz.cells
      refine bodyPost_ret (v := .tuple #[exv zhd (.slice none 0 0), .int .i64 rn, .int .i64 7]) (by simp [results, Tryd.results11, go_sem, d0, d1, d2, d3, d4, d5]) rfl ?_
      obtain ⟨y, hy1, hy2⟩ := HY.out
      exact ⟨HBZ.out, .inr (.inr ⟨HX.out.1, ts, y, HX.out.2, Lib.hid ⟨hy1, .inr ⟨r, hy2, by rw [HRN.out]⟩⟩⟩)⟩
    · have HK0 := Lib.hid hk0
      obtain ⟨ar, hps, har⟩ : ∃ ar, Ps .ex ts (.ok (one1 h ar) r) ∧ ArgsAt w4 (fun b => w3.heap.size ≤ b) ar (.slice a n c) := by
        rcases HRES.out with ⟨_, h1⟩ | ⟨h1, _⟩
        · exact h1
        · cases h1
      have HPS := Lib.hid hps
      have HAc := Lib.hid ((HA5.out ar har).keep (Q := fun b => w.heap.size ≤ b ∧ b ≠ gR) (fun b hb hlt => ⟨HBc.out.block b hlt, hb⟩) HBc.out.size)
      clear hps har hk0
      obtain ⟨y0, y1, y2, y3, y4, y5⟩ := HRc.out.cells
      obtain ⟨g0, g1, g2, g3, g4, g5⟩ := HRc.out.froz
      have hlR := HRc.out.lt
      have HAZ := Lib.hid (args_s6 (v0 := .int .i64 h.k) (v1 := .int .i64 h.op) (v2 := .int .i64 h.v) (v3 := .int .i64 h.ln) (v4 := .string (st h.nm)) (v5 := .slice a n c) HAc.out (fun b hb => hb.2))
      have HDZ := Lib.hid (HRc.out.s6 h (.slice a n c))
      have HBZ := Lib.hid (below_s6 (v0 := .int .i64 h.k) (v1 := .int .i64 h.op) (v2 := .int .i64 h.v) (v3 := .int .i64 h.ln) (v4 := .string (st h.nm)) (v5 := .slice a n c) HBw.out (g := gR) (by have := HGR.out; omega))
      go_wp2_with fail
      obtain ⟨wz, hwz⟩ : ∃ W, set6 wc gR (.int .i64 h.k) (.int .i64 h.op) (.int .i64 h.v) (.int .i64 h.ln) (.string (st h.nm)) (.slice a n c) = W := ⟨_, rfl⟩
      have hwz2 := hwz
      unfold set6 at hwz2
      (try rw [hwz2])
      rw [hwz] at HAZ HDZ HBZ
      obtain ⟨d0, d1, d2, d3, d4, d5⟩ := HDZ.out.cells
      refine bodyPost_ret (v := .tuple #[exv h (.slice a n c), .int .i64 0, .int .i64 0]) (by simp [results, Tryd.results11, go_sem, d0, d1, d2, d3, d4, d5]) rfl ?_
      exact ⟨HBZ.out, .inr (.inr ⟨HX.out.1, ts, _, HX.out.2, Lib.hid ⟨HPS.out, .inl ⟨h, ar, r, a, n, c, rfl, HK0.out, args_mono HAZ.out (fun b hb _ => hb.1), rfl⟩⟩⟩)⟩
end Go.Proofs.YtlbjdglgnkajnaaDoor
