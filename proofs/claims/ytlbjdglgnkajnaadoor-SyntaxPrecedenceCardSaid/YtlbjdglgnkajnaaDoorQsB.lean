/-
  WALKS of the reference's reader: sum, term. (Filled in from a template of this repo, printed by mk_qsx.py.)
-/
import Derived.Test.YtlbjdglgnkajnaaDoorQsA
namespace Go.Proofs.YtlbjdglgnkajnaaDoor
open Go.ChangeShapes Go.WideShapes Go.ChangeAt Go.RowKit
set_option linter.unusedVariables false
set_option linter.unusedSimpArgs false

set_option maxRecDepth 100000 in
set_option maxHeartbeats 8000000 in
theorem rsum_of (m : Nat) (hA : CQ 88 .te m) : CQ 70 .su m := by
  intro K at_ bad rest w hP hm
  have HM1 := Lib.hid ((RS.init hP).al zex)
  have HR1 := Lib.hid (Lc.zero w)
  have HA := Lib.hid hA
  have HMm := Lib.hid hm
  clear hA hP hm
  go_enter Tryd.func70, Tryd.ntmps70
  go_upto_region 1 with fail
  obtain ⟨w1, hw1⟩ : ∃ W, w.alloc zex = W := ⟨_, rfl⟩
  obtain ⟨gR, hgR⟩ : ∃ x, w.heap.size = x := ⟨_, rfl⟩
  (try rw [show w.alloc (.cells #[.int .i64 0, .int .i64 0, .int .i64 0, .int .i64 0, .string { data := #[] }, .slice none 0 0] 31) = w1 from hw1])
  rw [hw1] at HM1 HR1
  rw [hgR] at HR1
  (try rw [hgR])
  have HGR := Lib.hid hgR
  have HS1 : Hid (w1.heap.size = gR + 1) := Lib.hid (by rw [← hw1, ← hgR]; simp)
  clear hw1 hgR
  go_wp2_with fail
  refine (HA.out K at_ bad rest _ HM1.out.pat HMm.out).mono ?_
  rintro e w2 ⟨h, a, n, c, bad2, at2, r, rfl, hp2, hle2, hg2, hres⟩
  have HM2 := Lib.hid (HM1.out.call hp2 hg2)
  have HR2 := Lib.hid (HR1.out.gr hg2 (by have := HM1.out.gl; have := HGR.out; omega))
  have hs2 := hg2.size
  have HL3 : Hid (LQ K w gR w2.heap.size .su (CL .su .suL rest) at_ bad rest h a n c bad2 at2 r (w2.alloc (.cells (ecs h (.slice a n c)) 31))) := Lib.hid ⟨HM2.out.al _, HR2.out.al _, Lc.new w2 h (.slice a n c), hle2, by
    rcases hres.out with ⟨h1, h1', ar, h2, h3, h4⟩ | ⟨h1, h1', h2⟩ | hr
    · exact .inl ⟨h1, h1', ar, fun z hz => Ps.su_ok h2 hz, args_mono (args_al _ h3) (fun b hb _ => ⟨by have := hb.1; have := HS1.out; have := HGR.out; omega, by have := hb.1; have := HS1.out; omega, hb.2⟩), h4⟩
    · exact .inr (.inl ⟨h1, h1', Ps.su_bad h2⟩)
    · exact .inr (.inr hr)⟩
  clear hres hp2 hg2
  go_upto_block 0 with fail
  obtain ⟨w3, hw3⟩ : ∃ W, w2.alloc (.cells (ecs h (.slice a n c)) 31) = W := ⟨_, rfl⟩
  obtain ⟨gx, hgx⟩ : ∃ x, w2.heap.size = x := ⟨_, rfl⟩
  (try rw [show w2.alloc (.cells #[.int .i64 h.k, .int .i64 h.op, .int .i64 h.v, .int .i64 h.ln, .string (st h.nm), .slice a n c] 31) = w3 from hw3])
  rw [hw3, hgx] at HL3
  (try rw [hgx])
  have HGX : Hid (gR < gx) := Lib.hid (by have := HS1.out; omega)
  clear hw3 hgx hs2 hle2 HM2 HR2 HM1 HR1
  go_wp2_with fail
  go_loopw [4] (fun _ wr => ∃ (h : Hd) (a : Option Addr) (n c : Nat) (bad2 : Bool) (at2 : Nat) (r : List Tk), Hid (LQ K w gR gx .su (CL .su .suL rest) at_ bad rest h a n c bad2 at2 r wr)) (fun _ wr => K.ts.length - natAt wr K.g)
  case atStart => exact ⟨h, a, n, c, bad2, at2, r, HL3⟩
  case round =>
    rename World => wa
    obtain ⟨h, a, n, c, bad2, at2, r, HL⟩ := hrel
    have hgg := HL.out.ms.gl
    have hsg := Sgn.new wa [([43], 3), ([45], 4)] 9 3
    have HBB := Lib.hid ((below_alloc wa (.cells #[.string { data := #[43] }, .string { data := #[45] }] 9)).alloc (by simp) (.cells #[.int .i64 3, .int .i64 4] 3))
    have HLB := Lib.hid (HL.out.be HBB.out)
    have HRO := Lib.hid (roperator_any K at2 bad2 r [([43], 3), ([45], 4)] wa.heap.size (wa.heap.size + 1) _ HLB.out.ms.pat hsg (by decide) ⟨by have := HL.out.ms.pat.glt; omega, by have := HL.out.ms.pat.glt; omega⟩)
    clear hsg
    go_wp2_with fail
    refine HRO.out.mono ?_
    rintro e w4 ⟨at4, r4, hp4, hg4, hc⟩
    rcases hc with ⟨o, ho, rfl, rfl, hk, rfl, rfl⟩ | ⟨ho, rfl, rfl, rfl⟩
    · obtain ⟨rfl, ar, hn⟩ := HLB.out.yes hp4 hg4 (by have := HGR.out; omega) HGX.out hk
      have HN := Lib.hid (hn.be (Below.refl _ _).drew)
      obtain ⟨ho1, ho2⟩ := opin_yes ((opF_sum HLB.out.ms.pat.en).symm.trans ho)
      have HT := Lib.hid (And.intro ho1 ho2)
      have dop : (o == 0) = false := by rw [beq_eq_false_iff_ne, ← ho2]; exact ho1
      clear ho hk hp4 hg4 hn ho1 ho2 HLB HBB HRO
      obtain ⟨tn, htn⟩ : ∃ x, lnOf r = x := ⟨_, rfl⟩
      have HLN := Lib.hid htn
      (try rw [htn])
      clear htn
      go_upto_region 5 with fail
      obtain ⟨wd, hwd⟩ : ∃ W, w4.drew = W := ⟨_, rfl⟩
      rw [hwd] at HN
      clear dop
      refine wp_region_held_drew (S := fun _ => True) (by kernel_rfl) trivial (fun hHeld => ?_)
      (try rw [hwd])
      clear hwd
      refine wpAnyH_takeD (i := 0) (d := some 18) (v := ?_) rfl (by kernel_rfl) (by kernel_rfl) (by kernel_rfl) (by kernel_rfl) (fun _ _ _ h => h) (Or.inl ⟨by kernel_rfl, ?_⟩) (by assumption) ?_
      rotate_left
      · (intro w hSw; (try dsimp only at hSw); go_simp; try with_reducible rfl)
      (try simp only [Act.put, List.setIfInBounds_toArray, List.set_cons_zero, List.set_cons_succ])
      refine wpAnyH_takeD (i := 1) (d := some 19) (v := ?_) rfl (by kernel_rfl) (by kernel_rfl) (by kernel_rfl) (by kernel_rfl) (fun _ _ _ h => h) (Or.inl ⟨by kernel_rfl, ?_⟩) (by assumption) ?_
      rotate_left
      · (intro w hSw; (try dsimp only at hSw); go_simp; try with_reducible rfl)
      (try simp only [Act.put, List.setIfInBounds_toArray, List.set_cons_zero, List.set_cons_succ])
      refine wpAnyH_takeD (i := 3) (d := some 21) (v := ?_) rfl (by kernel_rfl) (by kernel_rfl) (by kernel_rfl) (by kernel_rfl) (fun _ _ _ h => h) (Or.inl ⟨by kernel_rfl, ?_⟩) (by assumption) ?_
      rotate_left
      · (intro w hSw; (try dsimp only at hSw); go_simp; try with_reducible rfl)
      (try simp only [Act.put, List.setIfInBounds_toArray, List.set_cons_zero, List.set_cons_succ])
      refine wpAnyH_ready (rs := [2, 4]) (by kernel_rfl) (by simp) ?_
      refine AllReadyH.cons rfl (fun K0 hK => ?_) (AllReadyH.cons rfl (fun K0 hK => ?_) AllReadyH.nil)
      · obtain ⟨x0, x1, x2, x3, x4, x5⟩ := HN.out.xc.cells
        have hlX := HN.out.xc.lt
        go_simp
        refine hK.out _ _ trivial (fun _ => ?_)
        clear hK K0
        (try simp only [Act.put, List.setIfInBounds_toArray, List.set_cons_zero, List.set_cons_succ])
        clear x0 x1 x2 x3 x4 x5 hlX
        refine wpAnyH_ready (rs := [4]) (by kernel_rfl) (by simp) ?_
        refine AllReadyH.cons rfl (fun K0 hK => ?_) AllReadyH.nil
        go_simp
        refine (HA.out K (at2 + 1) false r.tail _ HN.out.ms.pat (by have h1 := HN.out.lt; have h2 := HN.out.tl; have h3 : rest.length ≤ m := HMm.out; show r.tail.length ≤ m; omega)).mono ?_
        rintro e w7 ⟨h2, a2, n2, c2, bad7, at7, r7, rfl, hp7, hle7, hg7, hres7⟩
        have HX7 := Lib.hid (HN.out.xc.gr hg7 (by have := HN.out.b1; have := HN.out.b2; have := HN.out.ms.gl; omega))
        have H7 := Lib.hid (And.intro hp7 (And.intro hle7 hg7))
        refine hK.out _ _ trivial (fun _ => ?_)
        clear hK K0
        (try simp only [Act.put, List.setIfInBounds_toArray, List.set_cons_zero, List.set_cons_succ])
        clear hp7 hle7 hg7
        refine wpAnyH_ready (rs := [5]) (by kernel_rfl) (by simp) ?_
        refine AllReadyH.cons rfl (fun K0 hK => ?_) AllReadyH.nil
        go_simp
        refine (two_any 6 o tn h h2 a a2 n c n2 c2 w7).mono ?_
        rintro e w8 ⟨g, rfl, hb8, hargs⟩
        have HX8 := Lib.hid (HX7.out.be hb8)
        have HF : Hid (∀ W, W = (set6 w8 gx (.int .i64 6) (.int .i64 o) (.int .i64 0) (.int .i64 tn) (.string { data := #[] }) (.slice (some ⟨g, 0, none⟩) 2 2)) → LQ K w gR gx .su (CL .su .suL rest) at_ false rest ⟨6, o, 0, tn, []⟩ (some ⟨g, 0, none⟩) 2 2 bad7 at7 r7 W ∧ at2 < at7) := Lib.hid (fun W hW => by
          subst hW
          exact HN.out.fin H7.out.1 H7.out.2.1 H7.out.2.2 hres7.out hb8 hargs.out (fun ar2 k1 kc z k2 => kc _ (Ps.suL_ok HT.out.1 k1 (by rw [HLN.out, HT.out.2]; exact k2))) (fun k1 kc => kc _ (Ps.suL_bad HT.out.1 k1)))
        refine hK.out _ _ trivial (fun _ => ?_)
        clear hK K0
        (try simp only [Act.put, List.setIfInBounds_toArray, List.set_cons_zero, List.set_cons_succ])
        clear hb8
        refine wpAnyH_ready (rs := [6]) (by kernel_rfl) (by simp) ?_
        refine AllReadyH.cons rfl (fun K0 hK => ?_) AllReadyH.nil
        obtain ⟨x0, x1, x2, x3, x4, x5⟩ := HX8.out.cells
        obtain ⟨g0, g1, g2, g3, g4, g5⟩ := HX8.out.froz
        have hlX := HX8.out.lt
        go_simp
        refine hK.out _ _ trivial (fun _ => ?_)
        clear hK K0
        (try simp only [Act.put, List.setIfInBounds_toArray, List.set_cons_zero, List.set_cons_succ])
        refine wpAnyH_done (by kernel_rfl) ?_ _
        (try simp only [Act.put, List.setIfInBounds_toArray, List.set_cons_zero, List.set_cons_succ])
        go_wp2_with fail
        go_roundw
        case rel => exact ⟨_, some ⟨g, 0, none⟩, 2, 2, bad7, at7, r7, Lib.hid (HF.out _ rfl).1⟩
        case measure =>
          have h1 := (HF.out _ rfl).1.ms.pat.natAt
          have h2 := (HF.out _ rfl).2
          have h3 := HL.out.ms.pat.natAt
          have h4 := HL.out.ms.pat.lt.1
          unfold set6 at h1
          rw [h3]
          first | (rw [h1]; omega) | (simp at h1; rw [h1]; omega)
      · go_simp
        refine (HA.out K (at2 + 1) false r.tail _ HN.out.ms.pat (by have h1 := HN.out.lt; have h2 := HN.out.tl; have h3 : rest.length ≤ m := HMm.out; show r.tail.length ≤ m; omega)).mono ?_
        rintro e w7 ⟨h2, a2, n2, c2, bad7, at7, r7, rfl, hp7, hle7, hg7, hres7⟩
        have HX7 := Lib.hid (HN.out.xc.gr hg7 (by have := HN.out.b1; have := HN.out.b2; have := HN.out.ms.gl; omega))
        have H7 := Lib.hid (And.intro hp7 (And.intro hle7 hg7))
        refine hK.out _ _ trivial (fun _ => ?_)
        clear hK K0
        (try simp only [Act.put, List.setIfInBounds_toArray, List.set_cons_zero, List.set_cons_succ])
        clear hp7 hle7 hg7
        refine wpAnyH_ready (rs := [2]) (by kernel_rfl) (by simp) ?_
        refine AllReadyH.cons rfl (fun K0 hK => ?_) AllReadyH.nil
        obtain ⟨x0, x1, x2, x3, x4, x5⟩ := HX7.out.cells
        have hlX := HX7.out.lt
        go_simp
        refine hK.out _ _ trivial (fun _ => ?_)
        clear hK K0
        (try simp only [Act.put, List.setIfInBounds_toArray, List.set_cons_zero, List.set_cons_succ])
        clear x0 x1 x2 x3 x4 x5 hlX
        refine wpAnyH_ready (rs := [5]) (by kernel_rfl) (by simp) ?_
        refine AllReadyH.cons rfl (fun K0 hK => ?_) AllReadyH.nil
        go_simp
        refine (two_any 6 o tn h h2 a a2 n c n2 c2 w7).mono ?_
        rintro e w8 ⟨g, rfl, hb8, hargs⟩
        have HX8 := Lib.hid (HX7.out.be hb8)
        have HF : Hid (∀ W, W = (set6 w8 gx (.int .i64 6) (.int .i64 o) (.int .i64 0) (.int .i64 tn) (.string { data := #[] }) (.slice (some ⟨g, 0, none⟩) 2 2)) → LQ K w gR gx .su (CL .su .suL rest) at_ false rest ⟨6, o, 0, tn, []⟩ (some ⟨g, 0, none⟩) 2 2 bad7 at7 r7 W ∧ at2 < at7) := Lib.hid (fun W hW => by
          subst hW
          exact HN.out.fin H7.out.1 H7.out.2.1 H7.out.2.2 hres7.out hb8 hargs.out (fun ar2 k1 kc z k2 => kc _ (Ps.suL_ok HT.out.1 k1 (by rw [HLN.out, HT.out.2]; exact k2))) (fun k1 kc => kc _ (Ps.suL_bad HT.out.1 k1)))
        refine hK.out _ _ trivial (fun _ => ?_)
        clear hK K0
        (try simp only [Act.put, List.setIfInBounds_toArray, List.set_cons_zero, List.set_cons_succ])
        clear hb8
        refine wpAnyH_ready (rs := [6]) (by kernel_rfl) (by simp) ?_
        refine AllReadyH.cons rfl (fun K0 hK => ?_) AllReadyH.nil
        obtain ⟨x0, x1, x2, x3, x4, x5⟩ := HX8.out.cells
        obtain ⟨g0, g1, g2, g3, g4, g5⟩ := HX8.out.froz
        have hlX := HX8.out.lt
        go_simp
        refine hK.out _ _ trivial (fun _ => ?_)
        clear hK K0
        (try simp only [Act.put, List.setIfInBounds_toArray, List.set_cons_zero, List.set_cons_succ])
        refine wpAnyH_done (by kernel_rfl) ?_ _
        (try simp only [Act.put, List.setIfInBounds_toArray, List.set_cons_zero, List.set_cons_succ])
        go_wp2_with fail
        go_roundw
        case rel => exact ⟨_, some ⟨g, 0, none⟩, 2, 2, bad7, at7, r7, Lib.hid (HF.out _ rfl).1⟩
        case measure =>
          have h1 := (HF.out _ rfl).1.ms.pat.natAt
          have h2 := (HF.out _ rfl).2
          have h3 := HL.out.ms.pat.natAt
          have h4 := HL.out.ms.pat.lt.1
          unfold set6 at h1
          rw [h3]
          first | (rw [h1]; omega) | (simp at h1; rw [h1]; omega)
    · have HL4 := Lib.hid (HLB.out.no hp4 hg4 (by have := HGR.out; omega) HGX.out)
      have HF := Lib.hid (HL4.out.fin (by have := HGR.out; omega) (fun hb F hc => hc _ (Ps.suL_end (by subst hb; exact opin_no ((opF_sum HLB.out.ms.pat.en).symm.trans ho)))))
      clear ho hp4 hg4 HLB HBB HRO
      obtain ⟨x0, x1, x2, x3, x4, x5⟩ := HL4.out.xc.cells
      obtain ⟨y0, y1, y2, y3, y4, y5⟩ := HL4.out.rc.cells
      obtain ⟨g0, g1, g2, g3, g4, g5⟩ := HL4.out.rc.froz
      have hlR := HL4.out.rc.lt
      have hlX := HL4.out.xc.lt
      go_wp2_with fail
      obtain ⟨wz, hwz⟩ : ∃ W, set6 w4 gR (.int .i64 h.k) (.int .i64 h.op) (.int .i64 h.v) (.int .i64 h.ln) (.string (st h.nm)) (.slice a n c) = W := ⟨_, rfl⟩
      have hwz2 := hwz
      unfold set6 at hwz2
      (try rw [hwz2])
      rw [hwz] at HF
      obtain ⟨d0, d1, d2, d3, d4, d5⟩ := HF.out.2.cells
      refine bodyPost_ret (v := exv h (.slice a n c)) (by simp [results, Tryd.results70, go_sem, d0, d1, d2, d3, d4, d5]) rfl ?_
      exact HF.out.1
set_option maxRecDepth 100000 in
set_option maxHeartbeats 8000000 in
theorem rterm_of (m : Nat) (hA : CQ 105 .un m) : CQ 88 .te m := by
  intro K at_ bad rest w hP hm
  have HM1 := Lib.hid ((RS.init hP).al zex)
  have HR1 := Lib.hid (Lc.zero w)
  have HA := Lib.hid hA
  have HMm := Lib.hid hm
  clear hA hP hm
  go_enter Tryd.func88, Tryd.ntmps88
  go_upto_region 1 with fail
  obtain ⟨w1, hw1⟩ : ∃ W, w.alloc zex = W := ⟨_, rfl⟩
  obtain ⟨gR, hgR⟩ : ∃ x, w.heap.size = x := ⟨_, rfl⟩
  (try rw [show w.alloc (.cells #[.int .i64 0, .int .i64 0, .int .i64 0, .int .i64 0, .string { data := #[] }, .slice none 0 0] 31) = w1 from hw1])
  rw [hw1] at HM1 HR1
  rw [hgR] at HR1
  (try rw [hgR])
  have HGR := Lib.hid hgR
  have HS1 : Hid (w1.heap.size = gR + 1) := Lib.hid (by rw [← hw1, ← hgR]; simp)
  clear hw1 hgR
  go_wp2_with fail
  refine (HA.out K at_ bad rest _ HM1.out.pat HMm.out).mono ?_
  rintro e w2 ⟨h, a, n, c, bad2, at2, r, rfl, hp2, hle2, hg2, hres⟩
  have HM2 := Lib.hid (HM1.out.call hp2 hg2)
  have HR2 := Lib.hid (HR1.out.gr hg2 (by have := HM1.out.gl; have := HGR.out; omega))
  have hs2 := hg2.size
  have HL3 : Hid (LQ K w gR w2.heap.size .te (CL .te .teL rest) at_ bad rest h a n c bad2 at2 r (w2.alloc (.cells (ecs h (.slice a n c)) 31))) := Lib.hid ⟨HM2.out.al _, HR2.out.al _, Lc.new w2 h (.slice a n c), hle2, by
    rcases hres.out with ⟨h1, h1', ar, h2, h3, h4⟩ | ⟨h1, h1', h2⟩ | hr
    · exact .inl ⟨h1, h1', ar, fun z hz => Ps.te_ok h2 hz, args_mono (args_al _ h3) (fun b hb _ => ⟨by have := hb.1; have := HS1.out; have := HGR.out; omega, by have := hb.1; have := HS1.out; omega, hb.2⟩), h4⟩
    · exact .inr (.inl ⟨h1, h1', Ps.te_bad h2⟩)
    · exact .inr (.inr hr)⟩
  clear hres hp2 hg2
  go_upto_block 0 with fail
  obtain ⟨w3, hw3⟩ : ∃ W, w2.alloc (.cells (ecs h (.slice a n c)) 31) = W := ⟨_, rfl⟩
  obtain ⟨gx, hgx⟩ : ∃ x, w2.heap.size = x := ⟨_, rfl⟩
  (try rw [show w2.alloc (.cells #[.int .i64 h.k, .int .i64 h.op, .int .i64 h.v, .int .i64 h.ln, .string (st h.nm), .slice a n c] 31) = w3 from hw3])
  rw [hw3, hgx] at HL3
  (try rw [hgx])
  have HGX : Hid (gR < gx) := Lib.hid (by have := HS1.out; omega)
  clear hw3 hgx hs2 hle2 HM2 HR2 HM1 HR1
  go_wp2_with fail
  go_loopw [4] (fun _ wr => ∃ (h : Hd) (a : Option Addr) (n c : Nat) (bad2 : Bool) (at2 : Nat) (r : List Tk), Hid (LQ K w gR gx .te (CL .te .teL rest) at_ bad rest h a n c bad2 at2 r wr)) (fun _ wr => K.ts.length - natAt wr K.g)
  case atStart => exact ⟨h, a, n, c, bad2, at2, r, HL3⟩
  case round =>
    rename World => wa
    obtain ⟨h, a, n, c, bad2, at2, r, HL⟩ := hrel
    have hgg := HL.out.ms.gl
    have hsg := Sgn.new wa [([42], 5), ([47], 6), ([37], 7)] 9 3
    have HBB := Lib.hid ((below_alloc wa (.cells #[.string { data := #[42] }, .string { data := #[47] }, .string { data := #[37] }] 9)).alloc (by simp) (.cells #[.int .i64 5, .int .i64 6, .int .i64 7] 3))
    have HLB := Lib.hid (HL.out.be HBB.out)
    have HRO := Lib.hid (roperator_any K at2 bad2 r [([42], 5), ([47], 6), ([37], 7)] wa.heap.size (wa.heap.size + 1) _ HLB.out.ms.pat hsg (by decide) ⟨by have := HL.out.ms.pat.glt; omega, by have := HL.out.ms.pat.glt; omega⟩)
    clear hsg
    go_wp2_with fail
    refine HRO.out.mono ?_
    rintro e w4 ⟨at4, r4, hp4, hg4, hc⟩
    rcases hc with ⟨o, ho, rfl, rfl, hk, rfl, rfl⟩ | ⟨ho, rfl, rfl, rfl⟩
    · obtain ⟨rfl, ar, hn⟩ := HLB.out.yes hp4 hg4 (by have := HGR.out; omega) HGX.out hk
      have HN := Lib.hid (hn.be (Below.refl _ _).drew)
      obtain ⟨ho1, ho2⟩ := opin_yes ((opF_term HLB.out.ms.pat.en).symm.trans ho)
      have HT := Lib.hid (And.intro ho1 ho2)
      have dop : (o == 0) = false := by rw [beq_eq_false_iff_ne, ← ho2]; exact ho1
      clear ho hk hp4 hg4 hn ho1 ho2 HLB HBB HRO
      obtain ⟨tn, htn⟩ : ∃ x, lnOf r = x := ⟨_, rfl⟩
      have HLN := Lib.hid htn
      (try rw [htn])
      clear htn
      go_upto_region 5 with fail
      obtain ⟨wd, hwd⟩ : ∃ W, w4.drew = W := ⟨_, rfl⟩
      rw [hwd] at HN
      clear dop
      refine wp_region_held_drew (S := fun _ => True) (by kernel_rfl) trivial (fun hHeld => ?_)
      (try rw [hwd])
      clear hwd
      refine wpAnyH_takeD (i := 0) (d := some 18) (v := ?_) rfl (by kernel_rfl) (by kernel_rfl) (by kernel_rfl) (by kernel_rfl) (fun _ _ _ h => h) (Or.inl ⟨by kernel_rfl, ?_⟩) (by assumption) ?_
      rotate_left
      · (intro w hSw; (try dsimp only at hSw); go_simp; try with_reducible rfl)
      (try simp only [Act.put, List.setIfInBounds_toArray, List.set_cons_zero, List.set_cons_succ])
      refine wpAnyH_takeD (i := 1) (d := some 19) (v := ?_) rfl (by kernel_rfl) (by kernel_rfl) (by kernel_rfl) (by kernel_rfl) (fun _ _ _ h => h) (Or.inl ⟨by kernel_rfl, ?_⟩) (by assumption) ?_
      rotate_left
      · (intro w hSw; (try dsimp only at hSw); go_simp; try with_reducible rfl)
      (try simp only [Act.put, List.setIfInBounds_toArray, List.set_cons_zero, List.set_cons_succ])
      refine wpAnyH_takeD (i := 3) (d := some 21) (v := ?_) rfl (by kernel_rfl) (by kernel_rfl) (by kernel_rfl) (by kernel_rfl) (fun _ _ _ h => h) (Or.inl ⟨by kernel_rfl, ?_⟩) (by assumption) ?_
      rotate_left
      · (intro w hSw; (try dsimp only at hSw); go_simp; try with_reducible rfl)
      (try simp only [Act.put, List.setIfInBounds_toArray, List.set_cons_zero, List.set_cons_succ])
      refine wpAnyH_ready (rs := [2, 4]) (by kernel_rfl) (by simp) ?_
      refine AllReadyH.cons rfl (fun K0 hK => ?_) (AllReadyH.cons rfl (fun K0 hK => ?_) AllReadyH.nil)
      · obtain ⟨x0, x1, x2, x3, x4, x5⟩ := HN.out.xc.cells
        have hlX := HN.out.xc.lt
        go_simp
        refine hK.out _ _ trivial (fun _ => ?_)
        clear hK K0
        (try simp only [Act.put, List.setIfInBounds_toArray, List.set_cons_zero, List.set_cons_succ])
        clear x0 x1 x2 x3 x4 x5 hlX
        refine wpAnyH_ready (rs := [4]) (by kernel_rfl) (by simp) ?_
        refine AllReadyH.cons rfl (fun K0 hK => ?_) AllReadyH.nil
        go_simp
        refine (HA.out K (at2 + 1) false r.tail _ HN.out.ms.pat (by have h1 := HN.out.lt; have h2 := HN.out.tl; have h3 : rest.length ≤ m := HMm.out; show r.tail.length ≤ m; omega)).mono ?_
        rintro e w7 ⟨h2, a2, n2, c2, bad7, at7, r7, rfl, hp7, hle7, hg7, hres7⟩
        have HX7 := Lib.hid (HN.out.xc.gr hg7 (by have := HN.out.b1; have := HN.out.b2; have := HN.out.ms.gl; omega))
        have H7 := Lib.hid (And.intro hp7 (And.intro hle7 hg7))
        refine hK.out _ _ trivial (fun _ => ?_)
        clear hK K0
        (try simp only [Act.put, List.setIfInBounds_toArray, List.set_cons_zero, List.set_cons_succ])
        clear hp7 hle7 hg7
        refine wpAnyH_ready (rs := [5]) (by kernel_rfl) (by simp) ?_
        refine AllReadyH.cons rfl (fun K0 hK => ?_) AllReadyH.nil
        go_simp
        refine (two_any 6 o tn h h2 a a2 n c n2 c2 w7).mono ?_
        rintro e w8 ⟨g, rfl, hb8, hargs⟩
        have HX8 := Lib.hid (HX7.out.be hb8)
        have HF : Hid (∀ W, W = (set6 w8 gx (.int .i64 6) (.int .i64 o) (.int .i64 0) (.int .i64 tn) (.string { data := #[] }) (.slice (some ⟨g, 0, none⟩) 2 2)) → LQ K w gR gx .te (CL .te .teL rest) at_ false rest ⟨6, o, 0, tn, []⟩ (some ⟨g, 0, none⟩) 2 2 bad7 at7 r7 W ∧ at2 < at7) := Lib.hid (fun W hW => by
          subst hW
          exact HN.out.fin H7.out.1 H7.out.2.1 H7.out.2.2 hres7.out hb8 hargs.out (fun ar2 k1 kc z k2 => kc _ (Ps.teL_ok HT.out.1 k1 (by rw [HLN.out, HT.out.2]; exact k2))) (fun k1 kc => kc _ (Ps.teL_bad HT.out.1 k1)))
        refine hK.out _ _ trivial (fun _ => ?_)
        clear hK K0
        (try simp only [Act.put, List.setIfInBounds_toArray, List.set_cons_zero, List.set_cons_succ])
        clear hb8
        refine wpAnyH_ready (rs := [6]) (by kernel_rfl) (by simp) ?_
        refine AllReadyH.cons rfl (fun K0 hK => ?_) AllReadyH.nil
        obtain ⟨x0, x1, x2, x3, x4, x5⟩ := HX8.out.cells
        obtain ⟨g0, g1, g2, g3, g4, g5⟩ := HX8.out.froz
        have hlX := HX8.out.lt
        go_simp
        refine hK.out _ _ trivial (fun _ => ?_)
        clear hK K0
        (try simp only [Act.put, List.setIfInBounds_toArray, List.set_cons_zero, List.set_cons_succ])
        refine wpAnyH_done (by kernel_rfl) ?_ _
        (try simp only [Act.put, List.setIfInBounds_toArray, List.set_cons_zero, List.set_cons_succ])
        go_wp2_with fail
        go_roundw
        case rel => exact ⟨_, some ⟨g, 0, none⟩, 2, 2, bad7, at7, r7, Lib.hid (HF.out _ rfl).1⟩
        case measure =>
          have h1 := (HF.out _ rfl).1.ms.pat.natAt
          have h2 := (HF.out _ rfl).2
          have h3 := HL.out.ms.pat.natAt
          have h4 := HL.out.ms.pat.lt.1
          unfold set6 at h1
          rw [h3]
          first | (rw [h1]; omega) | (simp at h1; rw [h1]; omega)
      · go_simp
        refine (HA.out K (at2 + 1) false r.tail _ HN.out.ms.pat (by have h1 := HN.out.lt; have h2 := HN.out.tl; have h3 : rest.length ≤ m := HMm.out; show r.tail.length ≤ m; omega)).mono ?_
        rintro e w7 ⟨h2, a2, n2, c2, bad7, at7, r7, rfl, hp7, hle7, hg7, hres7⟩
        have HX7 := Lib.hid (HN.out.xc.gr hg7 (by have := HN.out.b1; have := HN.out.b2; have := HN.out.ms.gl; omega))
        have H7 := Lib.hid (And.intro hp7 (And.intro hle7 hg7))
        refine hK.out _ _ trivial (fun _ => ?_)
        clear hK K0
        (try simp only [Act.put, List.setIfInBounds_toArray, List.set_cons_zero, List.set_cons_succ])
        clear hp7 hle7 hg7
        refine wpAnyH_ready (rs := [2]) (by kernel_rfl) (by simp) ?_
        refine AllReadyH.cons rfl (fun K0 hK => ?_) AllReadyH.nil
        obtain ⟨x0, x1, x2, x3, x4, x5⟩ := HX7.out.cells
        have hlX := HX7.out.lt
        go_simp
        refine hK.out _ _ trivial (fun _ => ?_)
        clear hK K0
        (try simp only [Act.put, List.setIfInBounds_toArray, List.set_cons_zero, List.set_cons_succ])
        clear x0 x1 x2 x3 x4 x5 hlX
        refine wpAnyH_ready (rs := [5]) (by kernel_rfl) (by simp) ?_
        refine AllReadyH.cons rfl (fun K0 hK => ?_) AllReadyH.nil
        go_simp
        refine (two_any 6 o tn h h2 a a2 n c n2 c2 w7).mono ?_
        rintro e w8 ⟨g, rfl, hb8, hargs⟩
        have HX8 := Lib.hid (HX7.out.be hb8)
        have HF : Hid (∀ W, W = (set6 w8 gx (.int .i64 6) (.int .i64 o) (.int .i64 0) (.int .i64 tn) (.string { data := #[] }) (.slice (some ⟨g, 0, none⟩) 2 2)) → LQ K w gR gx .te (CL .te .teL rest) at_ false rest ⟨6, o, 0, tn, []⟩ (some ⟨g, 0, none⟩) 2 2 bad7 at7 r7 W ∧ at2 < at7) := Lib.hid (fun W hW => by
          subst hW
          exact HN.out.fin H7.out.1 H7.out.2.1 H7.out.2.2 hres7.out hb8 hargs.out (fun ar2 k1 kc z k2 => kc _ (Ps.teL_ok HT.out.1 k1 (by rw [HLN.out, HT.out.2]; exact k2))) (fun k1 kc => kc _ (Ps.teL_bad HT.out.1 k1)))
        refine hK.out _ _ trivial (fun _ => ?_)
        clear hK K0
        (try simp only [Act.put, List.setIfInBounds_toArray, List.set_cons_zero, List.set_cons_succ])
        clear hb8
        refine wpAnyH_ready (rs := [6]) (by kernel_rfl) (by simp) ?_
        refine AllReadyH.cons rfl (fun K0 hK => ?_) AllReadyH.nil
        obtain ⟨x0, x1, x2, x3, x4, x5⟩ := HX8.out.cells
        obtain ⟨g0, g1, g2, g3, g4, g5⟩ := HX8.out.froz
        have hlX := HX8.out.lt
        go_simp
        refine hK.out _ _ trivial (fun _ => ?_)
        clear hK K0
        (try simp only [Act.put, List.setIfInBounds_toArray, List.set_cons_zero, List.set_cons_succ])
        refine wpAnyH_done (by kernel_rfl) ?_ _
        (try simp only [Act.put, List.setIfInBounds_toArray, List.set_cons_zero, List.set_cons_succ])
        go_wp2_with fail
        go_roundw
        case rel => exact ⟨_, some ⟨g, 0, none⟩, 2, 2, bad7, at7, r7, Lib.hid (HF.out _ rfl).1⟩
        case measure =>
          have h1 := (HF.out _ rfl).1.ms.pat.natAt
          have h2 := (HF.out _ rfl).2
          have h3 := HL.out.ms.pat.natAt
          have h4 := HL.out.ms.pat.lt.1
          unfold set6 at h1
          rw [h3]
          first | (rw [h1]; omega) | (simp at h1; rw [h1]; omega)
    · have HL4 := Lib.hid (HLB.out.no hp4 hg4 (by have := HGR.out; omega) HGX.out)
      have HF := Lib.hid (HL4.out.fin (by have := HGR.out; omega) (fun hb F hc => hc _ (Ps.teL_end (by subst hb; exact opin_no ((opF_term HLB.out.ms.pat.en).symm.trans ho)))))
      clear ho hp4 hg4 HLB HBB HRO
      obtain ⟨x0, x1, x2, x3, x4, x5⟩ := HL4.out.xc.cells
      obtain ⟨y0, y1, y2, y3, y4, y5⟩ := HL4.out.rc.cells
      obtain ⟨g0, g1, g2, g3, g4, g5⟩ := HL4.out.rc.froz
      have hlR := HL4.out.rc.lt
      have hlX := HL4.out.xc.lt
      go_wp2_with fail
      obtain ⟨wz, hwz⟩ : ∃ W, set6 w4 gR (.int .i64 h.k) (.int .i64 h.op) (.int .i64 h.v) (.int .i64 h.ln) (.string (st h.nm)) (.slice a n c) = W := ⟨_, rfl⟩
      have hwz2 := hwz
      unfold set6 at hwz2
      (try rw [hwz2])
      rw [hwz] at HF
      obtain ⟨d0, d1, d2, d3, d4, d5⟩ := HF.out.2.cells
      refine bodyPost_ret (v := exv h (.slice a n c)) (by simp [results, Tryd.results88, go_sem, d0, d1, d2, d3, d4, d5]) rfl ?_
      exact HF.out.1
end Go.Proofs.YtlbjdglgnkajnaaDoor
