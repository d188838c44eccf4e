/-
  WALKS of the reference's reader: compare. (Filled in from a template of this repo, printed by mk_qsx.py.)
-/
import Derived.Test.YtlbjdglgnkajnaaDoorQsB
namespace Go.Proofs.YtlbjdglgnkajnaaDoor
open Go.ChangeShapes Go.WideShapes Go.ChangeAt Go.RowKit
set_option linter.unusedVariables false
set_option linter.unusedSimpArgs false

set_option maxRecDepth 100000 in
set_option maxHeartbeats 8000000 in
theorem rcompare_of (m : Nat) (hA : CQ 70 .su m) : CQ 59 .cm m := by
  intro K at_ bad rest w hP hm
  have HM1 := Lib.hid ((RS.init hP).al zex)
  have HR1 := Lib.hid (Lc.zero w)
  have HA := Lib.hid hA
  have HMm := Lib.hid hm
  clear hA hP hm
  go_enter Tryd.func59, Tryd.ntmps59
  go_upto_region 1 with fail
  obtain ⟨w1, hw1⟩ : ∃ W, w.alloc zex = W := ⟨_, rfl⟩
  obtain ⟨gR, hgR⟩ : ∃ x, w.heap.size = x := ⟨_, rfl⟩
  (try rw [show w.alloc (.cells #[.int .i64 0, .int .i64 0, .int .i64 0, .int .i64 0, .string { data := #[] }, .slice none 0 0] 31) = w1 from hw1])
  rw [hw1] at HM1 HR1
  rw [hgR] at HR1
  (try rw [hgR])
  have HGR := Lib.hid hgR
  have HS1 : Hid (w1.heap.size = gR + 1) := Lib.hid (by rw [← hw1, ← hgR]; simp)
  clear hw1 hgR
  go_wp2_with fail
  refine (HA.out K at_ bad rest _ HM1.out.pat HMm.out).mono ?_
  rintro e w2 ⟨h, a, n, c, bad2, at2, r, rfl, hp2, hle2, hg2, hres⟩
  have HM2 := Lib.hid (HM1.out.call hp2 hg2)
  have HR2 := Lib.hid (HR1.out.gr hg2 (by have := HM1.out.gl; have := HGR.out; omega))
  have hs2 := hg2.size
  have HL3 : Hid (LQ K w gR w2.heap.size .cm (fun x r => Ps .su rest (.ok x r)) at_ bad rest h a n c bad2 at2 r (w2.alloc (.cells (ecs h (.slice a n c)) 31))) := Lib.hid ⟨HM2.out.al _, HR2.out.al _, Lc.new w2 h (.slice a n c), hle2, by
    rcases hres.out with ⟨h1, h1', ar, h2, h3, h4⟩ | ⟨h1, h1', h2⟩ | hr
    · exact .inl ⟨h1, h1', ar, h2, args_mono (args_al _ h3) (fun b hb _ => ⟨by have := hb.1; have := HS1.out; have := HGR.out; omega, by have := hb.1; have := HS1.out; omega, hb.2⟩), h4⟩
    · exact .inr (.inl ⟨h1, h1', Ps.cm_bad h2⟩)
    · exact .inr (.inr hr)⟩
  clear hres hp2 hg2
  go_upto_region 2 with fail
  obtain ⟨w3, hw3⟩ : ∃ W, w2.alloc (.cells (ecs h (.slice a n c)) 31) = W := ⟨_, rfl⟩
  obtain ⟨gx, hgx⟩ : ∃ x, w2.heap.size = x := ⟨_, rfl⟩
  (try rw [show w2.alloc (.cells #[.int .i64 h.k, .int .i64 h.op, .int .i64 h.v, .int .i64 h.ln, .string (st h.nm), .slice a n c] 31) = w3 from hw3])
  rw [hw3, hgx] at HL3
  (try rw [hgx])
  have HGX : Hid (gR < gx) := Lib.hid (by have := HS1.out; omega)
  clear hw3 hgx hs2 hle2 HM2 HR2 HM1 HR1
  have HL := HL3
  have hgg := HL.out.ms.gl
  have hsg := Sgn.new w3 [([60], 8), ([60, 61], 9), ([61, 61], 10), ([33, 61], 11)] 9 3
  have HBB := Lib.hid ((below_alloc w3 (.cells #[.string { data := #[60] }, .string { data := #[60, 61] }, .string { data := #[61, 61] }, .string { data := #[33, 61] }] 9)).alloc (by simp) (.cells #[.int .i64 8, .int .i64 9, .int .i64 10, .int .i64 11] 3))
  have HLB := Lib.hid (HL.out.be HBB.out)
  have HRO := Lib.hid (roperator_any K at2 bad2 r [([60], 8), ([60, 61], 9), ([61, 61], 10), ([33, 61], 11)] w3.heap.size (w3.heap.size + 1) _ HLB.out.ms.pat hsg (by decide) ⟨by have := HL.out.ms.pat.glt; omega, by have := HL.out.ms.pat.glt; omega⟩)
  clear hsg
  go_wp2_with fail
  refine HRO.out.mono ?_
  rintro e w4 ⟨at4, r4, hp4, hg4, hc⟩
  rcases hc with ⟨o, ho, rfl, rfl, hk, rfl, rfl⟩ | ⟨ho, rfl, rfl, rfl⟩
  · obtain ⟨rfl, ar, hn⟩ := HLB.out.yes hp4 hg4 (by have := HGR.out; omega) HGX.out hk
    have HN := Lib.hid (hn.be (Below.refl _ _).drew)
    obtain ⟨ho1, ho2⟩ := opin_yes ((opF_cmp HLB.out.ms.pat.en).symm.trans ho)
    have HT := Lib.hid (And.intro ho1 ho2)
    have ho3 : 0 < o := by have := opIn_le (lo := 8) (hi := 11) r; omega
    have dop : decide (0 < o) = true := decide_eq_true ho3
    clear ho hk hp4 hg4 hn ho1 ho2 HLB HBB HRO
    obtain ⟨tn, htn⟩ : ∃ x, lnOf r = x := ⟨_, rfl⟩
    have HLN := Lib.hid htn
    (try rw [htn])
    clear htn
    go_upto_region 4 with fail
    obtain ⟨wd, hwd⟩ : ∃ W, w4.drew = W := ⟨_, rfl⟩
    rw [hwd] at HN
    clear dop ho3
    refine wp_region_held_drew (S := fun _ => True) (by kernel_rfl) trivial (fun hHeld => ?_)
    (try rw [hwd])
    clear hwd
    refine wpAnyH_takeD (i := 0) (d := some 17) (v := ?_) rfl (by kernel_rfl) (by kernel_rfl) (by kernel_rfl) (by kernel_rfl) (fun _ _ _ h => h) (Or.inl ⟨by kernel_rfl, ?_⟩) (by assumption) ?_
    rotate_left
    · (intro w hSw; (try dsimp only at hSw); go_simp; try with_reducible rfl)
    (try simp only [Act.put, List.setIfInBounds_toArray, List.set_cons_zero, List.set_cons_succ])
    refine wpAnyH_takeD (i := 1) (d := some 18) (v := ?_) rfl (by kernel_rfl) (by kernel_rfl) (by kernel_rfl) (by kernel_rfl) (fun _ _ _ h => h) (Or.inl ⟨by kernel_rfl, ?_⟩) (by assumption) ?_
    rotate_left
    · (intro w hSw; (try dsimp only at hSw); go_simp; try with_reducible rfl)
    (try simp only [Act.put, List.setIfInBounds_toArray, List.set_cons_zero, List.set_cons_succ])
    refine wpAnyH_takeD (i := 3) (d := some 20) (v := ?_) rfl (by kernel_rfl) (by kernel_rfl) (by kernel_rfl) (by kernel_rfl) (fun _ _ _ h => h) (Or.inl ⟨by kernel_rfl, ?_⟩) (by assumption) ?_
    rotate_left
    · (intro w hSw; (try dsimp only at hSw); go_simp; try with_reducible rfl)
    (try simp only [Act.put, List.setIfInBounds_toArray, List.set_cons_zero, List.set_cons_succ])
    refine wpAnyH_ready (rs := [2, 4]) (by kernel_rfl) (by simp) ?_
    refine AllReadyH.cons rfl (fun K0 hK => ?_) (AllReadyH.cons rfl (fun K0 hK => ?_) AllReadyH.nil)
    · obtain ⟨x0, x1, x2, x3, x4, x5⟩ := HN.out.xc.cells
      have hlX := HN.out.xc.lt
      go_simp
      refine hK.out _ _ trivial (fun _ => ?_)
      clear hK K0
      (try simp only [Act.put, List.setIfInBounds_toArray, List.set_cons_zero, List.set_cons_succ])
      clear x0 x1 x2 x3 x4 x5 hlX
      refine wpAnyH_ready (rs := [4]) (by kernel_rfl) (by simp) ?_
      refine AllReadyH.cons rfl (fun K0 hK => ?_) AllReadyH.nil
      go_simp
      refine (HA.out K (at2 + 1) false r.tail _ HN.out.ms.pat (by have h1 := HN.out.lt; have h2 := HN.out.tl; have h3 : rest.length ≤ m := HMm.out; show r.tail.length ≤ m; omega)).mono ?_
      rintro e w7 ⟨h2, a2, n2, c2, bad7, at7, r7, rfl, hp7, hle7, hg7, hres7⟩
      have HX7 := Lib.hid (HN.out.xc.gr hg7 (by have := HN.out.b1; have := HN.out.b2; have := HN.out.ms.gl; omega))
      have HR7 := Lib.hid (HN.out.rc.gr hg7 (by have := HN.out.b1; have := HN.out.b2; have := HN.out.ms.gl; omega))
      have H7 := Lib.hid (And.intro hp7 (And.intro hle7 hg7))
      refine hK.out _ _ trivial (fun _ => ?_)
      clear hK K0
      (try simp only [Act.put, List.setIfInBounds_toArray, List.set_cons_zero, List.set_cons_succ])
      clear hp7 hle7 hg7
      refine wpAnyH_ready (rs := [5]) (by kernel_rfl) (by simp) ?_
      refine AllReadyH.cons rfl (fun K0 hK => ?_) AllReadyH.nil
      go_simp
      refine (two_any 6 o tn h h2 a a2 n c n2 c2 w7).mono ?_
      rintro e w8 ⟨g, rfl, hb8, hargs⟩
      have HR8 := Lib.hid (HR7.out.be hb8)
      have HF : Hid (∀ W, W = (set6 w8 gR (.int .i64 6) (.int .i64 o) (.int .i64 0) (.int .i64 tn) (.string { data := #[] }) (.slice (some ⟨g, 0, none⟩) 2 2)) → EQ K .cm at_ false rest w (.returned (exv ⟨6, o, 0, tn, []⟩ (.slice (some ⟨g, 0, none⟩) 2 2))) W ∧ Lc W gR ⟨6, o, 0, tn, []⟩ (.slice (some ⟨g, 0, none⟩) 2 2)) := Lib.hid (fun W hW => by
        subst hW
        exact HN.out.ret H7.out.1 H7.out.2.1 H7.out.2.2 hres7.out hb8 hargs.out (fun ar2 k1 kc => by have := Ps.cm_two kc HT.out.1 k1; rw [HLN.out, HT.out.2] at this; exact this) (fun k1 kc => Ps.cm_two_bad kc HT.out.1 k1))
      refine hK.out _ _ trivial (fun _ => ?_)
      clear hK K0
      (try simp only [Act.put, List.setIfInBounds_toArray, List.set_cons_zero, List.set_cons_succ])
      clear hb8
      refine wpAnyH_ready (rs := [6]) (by kernel_rfl) (by simp) ?_
      refine AllReadyH.cons rfl (fun K0 hK => ?_) AllReadyH.nil
      obtain ⟨x0, x1, x2, x3, x4, x5⟩ := HR8.out.cells
      obtain ⟨g0, g1, g2, g3, g4, g5⟩ := HR8.out.froz
      have hlX := HR8.out.lt
      go_simp
      refine hK.out _ _ trivial (fun _ => ?_)
      clear hK K0
      (try simp only [Act.put, List.setIfInBounds_toArray, List.set_cons_zero, List.set_cons_succ])
      refine wpAnyH_done (by kernel_rfl) ?_ _
      (try simp only [Act.put, List.setIfInBounds_toArray, List.set_cons_zero, List.set_cons_succ])
      go_wp2_with fail
      obtain ⟨wz, hwz⟩ : ∃ W, (set6 w8 gR (.int .i64 6) (.int .i64 o) (.int .i64 0) (.int .i64 tn) (.string { data := #[] }) (.slice (some ⟨g, 0, none⟩) 2 2)) = W := ⟨_, rfl⟩
      have hwz2 := hwz
      unfold set6 at hwz2
      (try rw [hwz2])
      (try rw [show (set6 w8 gR (.int .i64 6) (.int .i64 o) (.int .i64 0) (.int .i64 tn) (.string st []) (.slice (some ⟨g, 0, none⟩) 2 2)) = wz from hwz])
      obtain ⟨hep, hd⟩ := HF.out wz hwz.symm
      obtain ⟨d0, d1, d2, d3, d4, d5⟩ := hd.cells
      refine bodyPost_ret (v := exv ⟨6, o, 0, tn, []⟩ (.slice (some ⟨g, 0, none⟩) 2 2)) (by simp [results, Tryd.results59, go_sem, d0, d1, d2, d3, d4, d5]) rfl ?_
      exact hep
    · go_simp
      refine (HA.out K (at2 + 1) false r.tail _ HN.out.ms.pat (by have h1 := HN.out.lt; have h2 := HN.out.tl; have h3 : rest.length ≤ m := HMm.out; show r.tail.length ≤ m; omega)).mono ?_
      rintro e w7 ⟨h2, a2, n2, c2, bad7, at7, r7, rfl, hp7, hle7, hg7, hres7⟩
      have HX7 := Lib.hid (HN.out.xc.gr hg7 (by have := HN.out.b1; have := HN.out.b2; have := HN.out.ms.gl; omega))
      have HR7 := Lib.hid (HN.out.rc.gr hg7 (by have := HN.out.b1; have := HN.out.b2; have := HN.out.ms.gl; omega))
      have H7 := Lib.hid (And.intro hp7 (And.intro hle7 hg7))
      refine hK.out _ _ trivial (fun _ => ?_)
      clear hK K0
      (try simp only [Act.put, List.setIfInBounds_toArray, List.set_cons_zero, List.set_cons_succ])
      clear hp7 hle7 hg7
      refine wpAnyH_ready (rs := [2]) (by kernel_rfl) (by simp) ?_
      refine AllReadyH.cons rfl (fun K0 hK => ?_) AllReadyH.nil
      obtain ⟨x0, x1, x2, x3, x4, x5⟩ := HX7.out.cells
      have hlX := HX7.out.lt
      go_simp
      refine hK.out _ _ trivial (fun _ => ?_)
      clear hK K0
      (try simp only [Act.put, List.setIfInBounds_toArray, List.set_cons_zero, List.set_cons_succ])
      clear x0 x1 x2 x3 x4 x5 hlX
      refine wpAnyH_ready (rs := [5]) (by kernel_rfl) (by simp) ?_
      refine AllReadyH.cons rfl (fun K0 hK => ?_) AllReadyH.nil
      go_simp
      refine (two_any 6 o tn h h2 a a2 n c n2 c2 w7).mono ?_
      rintro e w8 ⟨g, rfl, hb8, hargs⟩
      have HR8 := Lib.hid (HR7.out.be hb8)
      have HF : Hid (∀ W, W = (set6 w8 gR (.int .i64 6) (.int .i64 o) (.int .i64 0) (.int .i64 tn) (.string { data := #[] }) (.slice (some ⟨g, 0, none⟩) 2 2)) → EQ K .cm at_ false rest w (.returned (exv ⟨6, o, 0, tn, []⟩ (.slice (some ⟨g, 0, none⟩) 2 2))) W ∧ Lc W gR ⟨6, o, 0, tn, []⟩ (.slice (some ⟨g, 0, none⟩) 2 2)) := Lib.hid (fun W hW => by
        subst hW
        exact HN.out.ret H7.out.1 H7.out.2.1 H7.out.2.2 hres7.out hb8 hargs.out (fun ar2 k1 kc => by have := Ps.cm_two kc HT.out.1 k1; rw [HLN.out, HT.out.2] at this; exact this) (fun k1 kc => Ps.cm_two_bad kc HT.out.1 k1))
      refine hK.out _ _ trivial (fun _ => ?_)
      clear hK K0
      (try simp only [Act.put, List.setIfInBounds_toArray, List.set_cons_zero, List.set_cons_succ])
      clear hb8
      refine wpAnyH_ready (rs := [6]) (by kernel_rfl) (by simp) ?_
      refine AllReadyH.cons rfl (fun K0 hK => ?_) AllReadyH.nil
      obtain ⟨x0, x1, x2, x3, x4, x5⟩ := HR8.out.cells
      obtain ⟨g0, g1, g2, g3, g4, g5⟩ := HR8.out.froz
      have hlX := HR8.out.lt
      go_simp
      refine hK.out _ _ trivial (fun _ => ?_)
      clear hK K0
      (try simp only [Act.put, List.setIfInBounds_toArray, List.set_cons_zero, List.set_cons_succ])
      refine wpAnyH_done (by kernel_rfl) ?_ _
      (try simp only [Act.put, List.setIfInBounds_toArray, List.set_cons_zero, List.set_cons_succ])
      go_wp2_with fail
      obtain ⟨wz, hwz⟩ : ∃ W, (set6 w8 gR (.int .i64 6) (.int .i64 o) (.int .i64 0) (.int .i64 tn) (.string { data := #[] }) (.slice (some ⟨g, 0, none⟩) 2 2)) = W := ⟨_, rfl⟩
      have hwz2 := hwz
      unfold set6 at hwz2
      (try rw [hwz2])
      (try rw [show (set6 w8 gR (.int .i64 6) (.int .i64 o) (.int .i64 0) (.int .i64 tn) (.string st []) (.slice (some ⟨g, 0, none⟩) 2 2)) = wz from hwz])
      obtain ⟨hep, hd⟩ := HF.out wz hwz.symm
      obtain ⟨d0, d1, d2, d3, d4, d5⟩ := hd.cells
      refine bodyPost_ret (v := exv ⟨6, o, 0, tn, []⟩ (.slice (some ⟨g, 0, none⟩) 2 2)) (by simp [results, Tryd.results59, go_sem, d0, d1, d2, d3, d4, d5]) rfl ?_
      exact hep
  · have HL4 := Lib.hid (HLB.out.no hp4 hg4 (by have := HGR.out; omega) HGX.out)
    have HF := Lib.hid (HL4.out.fin (by have := HGR.out; omega) (fun hb F hc => Ps.cm_end hc (by subst hb; exact opin_no ((opF_cmp HLB.out.ms.pat.en).symm.trans ho))))
    clear ho hp4 hg4 HLB HBB HRO
    obtain ⟨x0, x1, x2, x3, x4, x5⟩ := HL4.out.xc.cells
    obtain ⟨y0, y1, y2, y3, y4, y5⟩ := HL4.out.rc.cells
    obtain ⟨g0, g1, g2, g3, g4, g5⟩ := HL4.out.rc.froz
    have hlR := HL4.out.rc.lt
    have hlX := HL4.out.xc.lt
    go_wp2_with fail
    obtain ⟨wz, hwz⟩ : ∃ W, set6 w4 gR (.int .i64 h.k) (.int .i64 h.op) (.int .i64 h.v) (.int .i64 h.ln) (.string (st h.nm)) (.slice a n c) = W := ⟨_, rfl⟩
    have hwz2 := hwz
    unfold set6 at hwz2
    (try rw [hwz2])
    rw [hwz] at HF
    obtain ⟨d0, d1, d2, d3, d4, d5⟩ := HF.out.2.cells
    refine bodyPost_ret (v := exv h (.slice a n c)) (by simp [results, Tryd.results59, go_sem, d0, d1, d2, d3, d4, d5]) rfl ?_
    exact HF.out.1
end Go.Proofs.YtlbjdglgnkajnaaDoor
