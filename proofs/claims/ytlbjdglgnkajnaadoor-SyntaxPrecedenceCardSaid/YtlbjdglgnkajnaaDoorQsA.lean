/-
  WALKS of the reference's reader: expr, and. (Filled in from a template of this repo, printed by mk_qsx.py.)
-/
import Derived.Test.YtlbjdglgnkajnaaDoorQsR
namespace Go.Proofs.YtlbjdglgnkajnaaDoor
open Go.ChangeShapes Go.WideShapes Go.ChangeAt Go.RowKit
set_option linter.unusedVariables false
set_option linter.unusedSimpArgs false

set_option maxRecDepth 100000 in
set_option maxHeartbeats 8000000 in
theorem rexpr_of (m : Nat) (hA : CQ 34 .an m) : CQ 21 .ex m := by
  intro K at_ bad rest w hP hm
  have HM1 := Lib.hid ((RS.init hP).al zex)
  have HR1 := Lib.hid (Lc.zero w)
  have HA := Lib.hid hA
  have HMm := Lib.hid hm
  clear hA hP hm
  go_enter Tryd.func21, Tryd.ntmps21
  go_upto_region 1 with fail
  obtain ⟨w1, hw1⟩ : ∃ W, w.alloc zex = W := ⟨_, rfl⟩
  obtain ⟨gR, hgR⟩ : ∃ x, w.heap.size = x := ⟨_, rfl⟩
  (try rw [show w.alloc (.cells #[.int .i64 0, .int .i64 0, .int .i64 0, .int .i64 0, .string { data := #[] }, .slice none 0 0] 31) = w1 from hw1])
  rw [hw1] at HM1 HR1
  rw [hgR] at HR1
  (try rw [hgR])
  have HGR := Lib.hid hgR
  have HS1 : Hid (w1.heap.size = gR + 1) := Lib.hid (by rw [← hw1, ← hgR]; simp)
  clear hw1 hgR
  go_wp2_with fail
  refine (HA.out K at_ bad rest _ HM1.out.pat HMm.out).mono ?_
  rintro e w2 ⟨h, a, n, c, bad2, at2, r, rfl, hp2, hle2, hg2, hres⟩
  have HM2 := Lib.hid (HM1.out.call hp2 hg2)
  have HR2 := Lib.hid (HR1.out.gr hg2 (by have := HM1.out.gl; have := HGR.out; omega))
  have hs2 := hg2.size
  have HL3 : Hid (LQ K w gR w2.heap.size .ex (CL .ex .exL rest) at_ bad rest h a n c bad2 at2 r (w2.alloc (.cells (ecs h (.slice a n c)) 31))) := Lib.hid ⟨HM2.out.al _, HR2.out.al _, Lc.new w2 h (.slice a n c), hle2, by
    rcases hres.out with ⟨h1, h1', ar, h2, h3, h4⟩ | ⟨h1, h1', h2⟩ | hr
    · exact .inl ⟨h1, h1', ar, fun z hz => Ps.ex_ok h2 hz, args_mono (args_al _ h3) (fun b hb _ => ⟨by have := hb.1; have := HS1.out; have := HGR.out; omega, by have := hb.1; have := HS1.out; omega, hb.2⟩), h4⟩
    · exact .inr (.inl ⟨h1, h1', Ps.ex_bad h2⟩)
    · exact .inr (.inr hr)⟩
  clear hres hp2 hg2
  go_upto_block 0 with fail
  obtain ⟨w3, hw3⟩ : ∃ W, w2.alloc (.cells (ecs h (.slice a n c)) 31) = W := ⟨_, rfl⟩
  obtain ⟨gx, hgx⟩ : ∃ x, w2.heap.size = x := ⟨_, rfl⟩
  (try rw [show w2.alloc (.cells #[.int .i64 h.k, .int .i64 h.op, .int .i64 h.v, .int .i64 h.ln, .string (st h.nm), .slice a n c] 31) = w3 from hw3])
  rw [hw3, hgx] at HL3
  (try rw [hgx])
  have HGX : Hid (gR < gx) := Lib.hid (by have := HS1.out; omega)
  clear hw3 hgx hs2 hle2 HM2 HR2 HM1 HR1
  go_wp2_with fail
  go_loopw [4] (fun _ wr => ∃ (h : Hd) (a : Option Addr) (n c : Nat) (bad2 : Bool) (at2 : Nat) (r : List Tk), Hid (LQ K w gR gx .ex (CL .ex .exL rest) at_ bad rest h a n c bad2 at2 r wr)) (fun _ wr => K.ts.length - natAt wr K.g)
  case atStart => exact ⟨h, a, n, c, bad2, at2, r, HL3⟩
  case round =>
    rename World => wa
    obtain ⟨h, a, n, c, bad2, at2, r, HL⟩ := hrel
    have hgg := HL.out.ms.gl
    go_wp2_with fail
    refine (ris_any K at2 bad2 r [124, 124] _ HL.out.ms.pat).mono ?_
    rintro e w4 ⟨rfl, hb4⟩
    have HL4 := Lib.hid (HL.out.be hb4)
    clear hb4
    cases hT : (!bad2 && isT [124, 124] r)
    · have HF := Lib.hid (HL4.out.fin (by have := HGR.out; omega) (fun hb F hc => hc _ (Ps.exL_end (by rw [hb] at hT; simpa using hT))))
      (try rw [hT])
      clear hT
      obtain ⟨x0, x1, x2, x3, x4, x5⟩ := HL4.out.xc.cells
      obtain ⟨y0, y1, y2, y3, y4, y5⟩ := HL4.out.rc.cells
      obtain ⟨g0, g1, g2, g3, g4, g5⟩ := HL4.out.rc.froz
      have hlR := HL4.out.rc.lt
      have hlX := HL4.out.xc.lt
      go_wp2_with fail
      obtain ⟨wz, hwz⟩ : ∃ W, set6 w4 gR (.int .i64 h.k) (.int .i64 h.op) (.int .i64 h.v) (.int .i64 h.ln) (.string (st h.nm)) (.slice a n c) = W := ⟨_, rfl⟩
      have hwz2 := hwz
      unfold set6 at hwz2
      (try rw [hwz2])
      rw [hwz] at HF
      obtain ⟨d0, d1, d2, d3, d4, d5⟩ := HF.out.2.cells
      refine bodyPost_ret (v := exv h (.slice a n c)) (by simp [results, Tryd.results21, go_sem, d0, d1, d2, d3, d4, d5]) rfl ?_
      exact HF.out.1
    · obtain ⟨rfl, hT2⟩ : bad2 = false ∧ isT [124, 124] r = true := by simpa using hT
      have HT := Lib.hid hT2
      (try rw [hT])
      clear hT hT2
      obtain ⟨⟨tk, tn, tv, tt⟩, r0, hr0⟩ := HL4.out.ms.pat.en.cons
      have HLO := Lib.hid (now_at K at2 false tk tn tv tt r0 w4 (hr0 ▸ HL4.out.ms.pat))
      have HLN : Hid (lnOf r = tn) := Lib.hid (by rw [hr0]; rfl)
      have hfd : ∀ W : World, (Instr.field 59 (.agg #[.int .i64 tk, .int .i64 tn, .int .i64 tv, .string (st tt)]) 1).run Tryd.prog W = .ok (.int .i64 tn) W := fun _ => by kernel_rfl
      clear hr0
      go_wp2_with fail
      refine HLO.out.mono ?_
      rintro e w5 ⟨rfl, hb5⟩
      have HL5 := Lib.hid (HL4.out.be hb5)
      obtain ⟨rfl, ar, hn⟩ := HL5.out.stp (by have := HGR.out; omega) HGX.out (isT_k HT.out).2.2.1
      have HN := Lib.hid hn
      clear hb5 hn
      obtain ⟨-, p1, -, f1, -, hlp⟩ := HL5.out.ms.pat.cells
      have hw1 := HL5.out.ms.w1
      go_upto_region 5 with fail
      obtain ⟨wd, hwd⟩ : ∃ W, (w5.setCell ⟨K.g, 1, none⟩ (.int .i64 ((at2 : Int) + 1))).drew = W := ⟨_, rfl⟩
      rw [hwd] at HN
      clear p1 f1 hlp hw1 HLO
      refine wp_region_held_drew (S := fun _ => True) (by kernel_rfl) trivial (fun hHeld => ?_)
      (try rw [hwd])
      clear hwd
      refine wpAnyH_takeD (i := 0) (d := some 19) (v := ?_) rfl (by kernel_rfl) (by kernel_rfl) (by kernel_rfl) (by kernel_rfl) (fun _ _ _ h => h) (Or.inl ⟨by kernel_rfl, ?_⟩) (by assumption) ?_
      rotate_left
      · (intro w hSw; (try dsimp only at hSw); go_simp; try with_reducible rfl)
      (try simp only [Act.put, List.setIfInBounds_toArray, List.set_cons_zero, List.set_cons_succ])
      refine wpAnyH_takeD (i := 2) (d := some 21) (v := ?_) rfl (by kernel_rfl) (by kernel_rfl) (by kernel_rfl) (by kernel_rfl) (fun _ _ _ h => h) (Or.inl ⟨by kernel_rfl, ?_⟩) (by assumption) ?_
      rotate_left
      · (intro w hSw; (try dsimp only at hSw); go_simp; try with_reducible rfl)
      (try simp only [Act.put, List.setIfInBounds_toArray, List.set_cons_zero, List.set_cons_succ])
      refine wpAnyH_ready (rs := [1, 3]) (by kernel_rfl) (by simp) ?_
      refine AllReadyH.cons rfl (fun K0 hK => ?_) (AllReadyH.cons rfl (fun K0 hK => ?_) AllReadyH.nil)
      · obtain ⟨x0, x1, x2, x3, x4, x5⟩ := HN.out.xc.cells
        have hlX := HN.out.xc.lt
        go_simp
        refine hK.out _ _ trivial (fun _ => ?_)
        clear hK K0
        (try simp only [Act.put, List.setIfInBounds_toArray, List.set_cons_zero, List.set_cons_succ])
        clear x0 x1 x2 x3 x4 x5 hlX
        refine wpAnyH_ready (rs := [3]) (by kernel_rfl) (by simp) ?_
        refine AllReadyH.cons rfl (fun K0 hK => ?_) AllReadyH.nil
        go_simp
        refine (HA.out K (at2 + 1) false r.tail _ HN.out.ms.pat (by have h1 := HN.out.lt; have h2 := HN.out.tl; have h3 : rest.length ≤ m := HMm.out; show r.tail.length ≤ m; omega)).mono ?_
        rintro e w7 ⟨h2, a2, n2, c2, bad7, at7, r7, rfl, hp7, hle7, hg7, hres7⟩
        have HX7 := Lib.hid (HN.out.xc.gr hg7 (by have := HN.out.b1; have := HN.out.b2; have := HN.out.ms.gl; omega))
        have H7 := Lib.hid (And.intro hp7 (And.intro hle7 hg7))
        refine hK.out _ _ trivial (fun _ => ?_)
        clear hK K0
        (try simp only [Act.put, List.setIfInBounds_toArray, List.set_cons_zero, List.set_cons_succ])
        clear hp7 hle7 hg7
        refine wpAnyH_ready (rs := [4]) (by kernel_rfl) (by simp) ?_
        refine AllReadyH.cons rfl (fun K0 hK => ?_) AllReadyH.nil
        go_simp
        refine (two_any 8 0 tn h h2 a a2 n c n2 c2 w7).mono ?_
        rintro e w8 ⟨g, rfl, hb8, hargs⟩
        have HX8 := Lib.hid (HX7.out.be hb8)
        have HF : Hid (∀ W, W = (set6 w8 gx (.int .i64 8) (.int .i64 0) (.int .i64 0) (.int .i64 tn) (.string { data := #[] }) (.slice (some ⟨g, 0, none⟩) 2 2)) → LQ K w gR gx .ex (CL .ex .exL rest) at_ false rest ⟨8, 0, 0, tn, []⟩ (some ⟨g, 0, none⟩) 2 2 bad7 at7 r7 W ∧ at2 < at7) := Lib.hid (fun W hW => by
          subst hW
          exact HN.out.fin H7.out.1 H7.out.2.1 H7.out.2.2 hres7.out hb8 hargs.out (fun ar2 k1 kc z k2 => kc _ (Ps.exL_ok HT.out k1 (by rw [HLN.out]; exact k2))) (fun k1 kc => kc _ (Ps.exL_bad HT.out k1)))
        refine hK.out _ _ trivial (fun _ => ?_)
        clear hK K0
        (try simp only [Act.put, List.setIfInBounds_toArray, List.set_cons_zero, List.set_cons_succ])
        clear hb8
        refine wpAnyH_ready (rs := [5]) (by kernel_rfl) (by simp) ?_
        refine AllReadyH.cons rfl (fun K0 hK => ?_) AllReadyH.nil
        obtain ⟨x0, x1, x2, x3, x4, x5⟩ := HX8.out.cells
        obtain ⟨g0, g1, g2, g3, g4, g5⟩ := HX8.out.froz
        have hlX := HX8.out.lt
        go_simp
        refine hK.out _ _ trivial (fun _ => ?_)
        clear hK K0
        (try simp only [Act.put, List.setIfInBounds_toArray, List.set_cons_zero, List.set_cons_succ])
        refine wpAnyH_done (by kernel_rfl) ?_ _
        (try simp only [Act.put, List.setIfInBounds_toArray, List.set_cons_zero, List.set_cons_succ])
        go_wp2_with fail
        go_roundw
        case rel => exact ⟨_, some ⟨g, 0, none⟩, 2, 2, bad7, at7, r7, Lib.hid (HF.out _ rfl).1⟩
        case measure =>
          have h1 := (HF.out _ rfl).1.ms.pat.natAt
          have h2 := (HF.out _ rfl).2
          have h3 := HL.out.ms.pat.natAt
          have h4 := HL.out.ms.pat.lt.1
          unfold set6 at h1
          rw [h3]
          first | (rw [h1]; omega) | (simp at h1; rw [h1]; omega)
      · go_simp
        refine (HA.out K (at2 + 1) false r.tail _ HN.out.ms.pat (by have h1 := HN.out.lt; have h2 := HN.out.tl; have h3 : rest.length ≤ m := HMm.out; show r.tail.length ≤ m; omega)).mono ?_
        rintro e w7 ⟨h2, a2, n2, c2, bad7, at7, r7, rfl, hp7, hle7, hg7, hres7⟩
        have HX7 := Lib.hid (HN.out.xc.gr hg7 (by have := HN.out.b1; have := HN.out.b2; have := HN.out.ms.gl; omega))
        have H7 := Lib.hid (And.intro hp7 (And.intro hle7 hg7))
        refine hK.out _ _ trivial (fun _ => ?_)
        clear hK K0
        (try simp only [Act.put, List.setIfInBounds_toArray, List.set_cons_zero, List.set_cons_succ])
        clear hp7 hle7 hg7
        refine wpAnyH_ready (rs := [1]) (by kernel_rfl) (by simp) ?_
        refine AllReadyH.cons rfl (fun K0 hK => ?_) AllReadyH.nil
        obtain ⟨x0, x1, x2, x3, x4, x5⟩ := HX7.out.cells
        have hlX := HX7.out.lt
        go_simp
        refine hK.out _ _ trivial (fun _ => ?_)
        clear hK K0
        (try simp only [Act.put, List.setIfInBounds_toArray, List.set_cons_zero, List.set_cons_succ])
        clear x0 x1 x2 x3 x4 x5 hlX
        refine wpAnyH_ready (rs := [4]) (by kernel_rfl) (by simp) ?_
        refine AllReadyH.cons rfl (fun K0 hK => ?_) AllReadyH.nil
        go_simp
        refine (two_any 8 0 tn h h2 a a2 n c n2 c2 w7).mono ?_
        rintro e w8 ⟨g, rfl, hb8, hargs⟩
        have HX8 := Lib.hid (HX7.out.be hb8)
        have HF : Hid (∀ W, W = (set6 w8 gx (.int .i64 8) (.int .i64 0) (.int .i64 0) (.int .i64 tn) (.string { data := #[] }) (.slice (some ⟨g, 0, none⟩) 2 2)) → LQ K w gR gx .ex (CL .ex .exL rest) at_ false rest ⟨8, 0, 0, tn, []⟩ (some ⟨g, 0, none⟩) 2 2 bad7 at7 r7 W ∧ at2 < at7) := Lib.hid (fun W hW => by
          subst hW
          exact HN.out.fin H7.out.1 H7.out.2.1 H7.out.2.2 hres7.out hb8 hargs.out (fun ar2 k1 kc z k2 => kc _ (Ps.exL_ok HT.out k1 (by rw [HLN.out]; exact k2))) (fun k1 kc => kc _ (Ps.exL_bad HT.out k1)))
        refine hK.out _ _ trivial (fun _ => ?_)
        clear hK K0
        (try simp only [Act.put, List.setIfInBounds_toArray, List.set_cons_zero, List.set_cons_succ])
        clear hb8
        refine wpAnyH_ready (rs := [5]) (by kernel_rfl) (by simp) ?_
        refine AllReadyH.cons rfl (fun K0 hK => ?_) AllReadyH.nil
        obtain ⟨x0, x1, x2, x3, x4, x5⟩ := HX8.out.cells
        obtain ⟨g0, g1, g2, g3, g4, g5⟩ := HX8.out.froz
        have hlX := HX8.out.lt
        go_simp
        refine hK.out _ _ trivial (fun _ => ?_)
        clear hK K0
        (try simp only [Act.put, List.setIfInBounds_toArray, List.set_cons_zero, List.set_cons_succ])
        refine wpAnyH_done (by kernel_rfl) ?_ _
        (try simp only [Act.put, List.setIfInBounds_toArray, List.set_cons_zero, List.set_cons_succ])
        go_wp2_with fail
        go_roundw
        case rel => exact ⟨_, some ⟨g, 0, none⟩, 2, 2, bad7, at7, r7, Lib.hid (HF.out _ rfl).1⟩
        case measure =>
          have h1 := (HF.out _ rfl).1.ms.pat.natAt
          have h2 := (HF.out _ rfl).2
          have h3 := HL.out.ms.pat.natAt
          have h4 := HL.out.ms.pat.lt.1
          unfold set6 at h1
          rw [h3]
          first | (rw [h1]; omega) | (simp at h1; rw [h1]; omega)
set_option maxRecDepth 100000 in
set_option maxHeartbeats 8000000 in
theorem rand_of (m : Nat) (hA : CQ 59 .cm m) : CQ 34 .an m := by
  intro K at_ bad rest w hP hm
  have HM1 := Lib.hid ((RS.init hP).al zex)
  have HR1 := Lib.hid (Lc.zero w)
  have HA := Lib.hid hA
  have HMm := Lib.hid hm
  clear hA hP hm
  go_enter Tryd.func34, Tryd.ntmps34
  go_upto_region 1 with fail
  obtain ⟨w1, hw1⟩ : ∃ W, w.alloc zex = W := ⟨_, rfl⟩
  obtain ⟨gR, hgR⟩ : ∃ x, w.heap.size = x := ⟨_, rfl⟩
  (try rw [show w.alloc (.cells #[.int .i64 0, .int .i64 0, .int .i64 0, .int .i64 0, .string { data := #[] }, .slice none 0 0] 31) = w1 from hw1])
  rw [hw1] at HM1 HR1
  rw [hgR] at HR1
  (try rw [hgR])
  have HGR := Lib.hid hgR
  have HS1 : Hid (w1.heap.size = gR + 1) := Lib.hid (by rw [← hw1, ← hgR]; simp)
  clear hw1 hgR
  go_wp2_with fail
  refine (HA.out K at_ bad rest _ HM1.out.pat HMm.out).mono ?_
  rintro e w2 ⟨h, a, n, c, bad2, at2, r, rfl, hp2, hle2, hg2, hres⟩
  have HM2 := Lib.hid (HM1.out.call hp2 hg2)
  have HR2 := Lib.hid (HR1.out.gr hg2 (by have := HM1.out.gl; have := HGR.out; omega))
  have hs2 := hg2.size
  have HL3 : Hid (LQ K w gR w2.heap.size .an (CL .an .anL rest) at_ bad rest h a n c bad2 at2 r (w2.alloc (.cells (ecs h (.slice a n c)) 31))) := Lib.hid ⟨HM2.out.al _, HR2.out.al _, Lc.new w2 h (.slice a n c), hle2, by
    rcases hres.out with ⟨h1, h1', ar, h2, h3, h4⟩ | ⟨h1, h1', h2⟩ | hr
    · exact .inl ⟨h1, h1', ar, fun z hz => Ps.an_ok h2 hz, args_mono (args_al _ h3) (fun b hb _ => ⟨by have := hb.1; have := HS1.out; have := HGR.out; omega, by have := hb.1; have := HS1.out; omega, hb.2⟩), h4⟩
    · exact .inr (.inl ⟨h1, h1', Ps.an_bad h2⟩)
    · exact .inr (.inr hr)⟩
  clear hres hp2 hg2
  go_upto_block 0 with fail
  obtain ⟨w3, hw3⟩ : ∃ W, w2.alloc (.cells (ecs h (.slice a n c)) 31) = W := ⟨_, rfl⟩
  obtain ⟨gx, hgx⟩ : ∃ x, w2.heap.size = x := ⟨_, rfl⟩
  (try rw [show w2.alloc (.cells #[.int .i64 h.k, .int .i64 h.op, .int .i64 h.v, .int .i64 h.ln, .string (st h.nm), .slice a n c] 31) = w3 from hw3])
  rw [hw3, hgx] at HL3
  (try rw [hgx])
  have HGX : Hid (gR < gx) := Lib.hid (by have := HS1.out; omega)
  clear hw3 hgx hs2 hle2 HM2 HR2 HM1 HR1
  go_wp2_with fail
  go_loopw [4] (fun _ wr => ∃ (h : Hd) (a : Option Addr) (n c : Nat) (bad2 : Bool) (at2 : Nat) (r : List Tk), Hid (LQ K w gR gx .an (CL .an .anL rest) at_ bad rest h a n c bad2 at2 r wr)) (fun _ wr => K.ts.length - natAt wr K.g)
  case atStart => exact ⟨h, a, n, c, bad2, at2, r, HL3⟩
  case round =>
    rename World => wa
    obtain ⟨h, a, n, c, bad2, at2, r, HL⟩ := hrel
    have hgg := HL.out.ms.gl
    go_wp2_with fail
    refine (ris_any K at2 bad2 r [38, 38] _ HL.out.ms.pat).mono ?_
    rintro e w4 ⟨rfl, hb4⟩
    have HL4 := Lib.hid (HL.out.be hb4)
    clear hb4
    cases hT : (!bad2 && isT [38, 38] r)
    · have HF := Lib.hid (HL4.out.fin (by have := HGR.out; omega) (fun hb F hc => hc _ (Ps.anL_end (by rw [hb] at hT; simpa using hT))))
      (try rw [hT])
      clear hT
      obtain ⟨x0, x1, x2, x3, x4, x5⟩ := HL4.out.xc.cells
      obtain ⟨y0, y1, y2, y3, y4, y5⟩ := HL4.out.rc.cells
      obtain ⟨g0, g1, g2, g3, g4, g5⟩ := HL4.out.rc.froz
      have hlR := HL4.out.rc.lt
      have hlX := HL4.out.xc.lt
      go_wp2_with fail
      obtain ⟨wz, hwz⟩ : ∃ W, set6 w4 gR (.int .i64 h.k) (.int .i64 h.op) (.int .i64 h.v) (.int .i64 h.ln) (.string (st h.nm)) (.slice a n c) = W := ⟨_, rfl⟩
      have hwz2 := hwz
      unfold set6 at hwz2
      (try rw [hwz2])
      rw [hwz] at HF
      obtain ⟨d0, d1, d2, d3, d4, d5⟩ := HF.out.2.cells
      refine bodyPost_ret (v := exv h (.slice a n c)) (by simp [results, Tryd.results34, go_sem, d0, d1, d2, d3, d4, d5]) rfl ?_
      exact HF.out.1
    · obtain ⟨rfl, hT2⟩ : bad2 = false ∧ isT [38, 38] r = true := by simpa using hT
      have HT := Lib.hid hT2
      (try rw [hT])
      clear hT hT2
      obtain ⟨⟨tk, tn, tv, tt⟩, r0, hr0⟩ := HL4.out.ms.pat.en.cons
      have HLO := Lib.hid (now_at K at2 false tk tn tv tt r0 w4 (hr0 ▸ HL4.out.ms.pat))
      have HLN : Hid (lnOf r = tn) := Lib.hid (by rw [hr0]; rfl)
      have hfd : ∀ W : World, (Instr.field 59 (.agg #[.int .i64 tk, .int .i64 tn, .int .i64 tv, .string (st tt)]) 1).run Tryd.prog W = .ok (.int .i64 tn) W := fun _ => by kernel_rfl
      clear hr0
      go_wp2_with fail
      refine HLO.out.mono ?_
      rintro e w5 ⟨rfl, hb5⟩
      have HL5 := Lib.hid (HL4.out.be hb5)
      obtain ⟨rfl, ar, hn⟩ := HL5.out.stp (by have := HGR.out; omega) HGX.out (isT_k HT.out).2.2.1
      have HN := Lib.hid hn
      clear hb5 hn
      obtain ⟨-, p1, -, f1, -, hlp⟩ := HL5.out.ms.pat.cells
      have hw1 := HL5.out.ms.w1
      go_upto_region 5 with fail
      obtain ⟨wd, hwd⟩ : ∃ W, (w5.setCell ⟨K.g, 1, none⟩ (.int .i64 ((at2 : Int) + 1))).drew = W := ⟨_, rfl⟩
      rw [hwd] at HN
      clear p1 f1 hlp hw1 HLO
      refine wp_region_held_drew (S := fun _ => True) (by kernel_rfl) trivial (fun hHeld => ?_)
      (try rw [hwd])
      clear hwd
      refine wpAnyH_takeD (i := 0) (d := some 19) (v := ?_) rfl (by kernel_rfl) (by kernel_rfl) (by kernel_rfl) (by kernel_rfl) (fun _ _ _ h => h) (Or.inl ⟨by kernel_rfl, ?_⟩) (by assumption) ?_
      rotate_left
      · (intro w hSw; (try dsimp only at hSw); go_simp; try with_reducible rfl)
      (try simp only [Act.put, List.setIfInBounds_toArray, List.set_cons_zero, List.set_cons_succ])
      refine wpAnyH_takeD (i := 2) (d := some 21) (v := ?_) rfl (by kernel_rfl) (by kernel_rfl) (by kernel_rfl) (by kernel_rfl) (fun _ _ _ h => h) (Or.inl ⟨by kernel_rfl, ?_⟩) (by assumption) ?_
      rotate_left
      · (intro w hSw; (try dsimp only at hSw); go_simp; try with_reducible rfl)
      (try simp only [Act.put, List.setIfInBounds_toArray, List.set_cons_zero, List.set_cons_succ])
      refine wpAnyH_ready (rs := [1, 3]) (by kernel_rfl) (by simp) ?_
      refine AllReadyH.cons rfl (fun K0 hK => ?_) (AllReadyH.cons rfl (fun K0 hK => ?_) AllReadyH.nil)
      · obtain ⟨x0, x1, x2, x3, x4, x5⟩ := HN.out.xc.cells
        have hlX := HN.out.xc.lt
        go_simp
        refine hK.out _ _ trivial (fun _ => ?_)
        clear hK K0
        (try simp only [Act.put, List.setIfInBounds_toArray, List.set_cons_zero, List.set_cons_succ])
        clear x0 x1 x2 x3 x4 x5 hlX
        refine wpAnyH_ready (rs := [3]) (by kernel_rfl) (by simp) ?_
        refine AllReadyH.cons rfl (fun K0 hK => ?_) AllReadyH.nil
        go_simp
        refine (HA.out K (at2 + 1) false r.tail _ HN.out.ms.pat (by have h1 := HN.out.lt; have h2 := HN.out.tl; have h3 : rest.length ≤ m := HMm.out; show r.tail.length ≤ m; omega)).mono ?_
        rintro e w7 ⟨h2, a2, n2, c2, bad7, at7, r7, rfl, hp7, hle7, hg7, hres7⟩
        have HX7 := Lib.hid (HN.out.xc.gr hg7 (by have := HN.out.b1; have := HN.out.b2; have := HN.out.ms.gl; omega))
        have H7 := Lib.hid (And.intro hp7 (And.intro hle7 hg7))
        refine hK.out _ _ trivial (fun _ => ?_)
        clear hK K0
        (try simp only [Act.put, List.setIfInBounds_toArray, List.set_cons_zero, List.set_cons_succ])
        clear hp7 hle7 hg7
        refine wpAnyH_ready (rs := [4]) (by kernel_rfl) (by simp) ?_
        refine AllReadyH.cons rfl (fun K0 hK => ?_) AllReadyH.nil
        go_simp
        refine (two_any 7 0 tn h h2 a a2 n c n2 c2 w7).mono ?_
        rintro e w8 ⟨g, rfl, hb8, hargs⟩
        have HX8 := Lib.hid (HX7.out.be hb8)
        have HF : Hid (∀ W, W = (set6 w8 gx (.int .i64 7) (.int .i64 0) (.int .i64 0) (.int .i64 tn) (.string { data := #[] }) (.slice (some ⟨g, 0, none⟩) 2 2)) → LQ K w gR gx .an (CL .an .anL rest) at_ false rest ⟨7, 0, 0, tn, []⟩ (some ⟨g, 0, none⟩) 2 2 bad7 at7 r7 W ∧ at2 < at7) := Lib.hid (fun W hW => by
          subst hW
          exact HN.out.fin H7.out.1 H7.out.2.1 H7.out.2.2 hres7.out hb8 hargs.out (fun ar2 k1 kc z k2 => kc _ (Ps.anL_ok HT.out k1 (by rw [HLN.out]; exact k2))) (fun k1 kc => kc _ (Ps.anL_bad HT.out k1)))
        refine hK.out _ _ trivial (fun _ => ?_)
        clear hK K0
        (try simp only [Act.put, List.setIfInBounds_toArray, List.set_cons_zero, List.set_cons_succ])
        clear hb8
        refine wpAnyH_ready (rs := [5]) (by kernel_rfl) (by simp) ?_
        refine AllReadyH.cons rfl (fun K0 hK => ?_) AllReadyH.nil
        obtain ⟨x0, x1, x2, x3, x4, x5⟩ := HX8.out.cells
        obtain ⟨g0, g1, g2, g3, g4, g5⟩ := HX8.out.froz
        have hlX := HX8.out.lt
        go_simp
        refine hK.out _ _ trivial (fun _ => ?_)
        clear hK K0
        (try simp only [Act.put, List.setIfInBounds_toArray, List.set_cons_zero, List.set_cons_succ])
        refine wpAnyH_done (by kernel_rfl) ?_ _
        (try simp only [Act.put, List.setIfInBounds_toArray, List.set_cons_zero, List.set_cons_succ])
        go_wp2_with fail
        go_roundw
        case rel => exact ⟨_, some ⟨g, 0, none⟩, 2, 2, bad7, at7, r7, Lib.hid (HF.out _ rfl).1⟩
        case measure =>
          have h1 := (HF.out _ rfl).1.ms.pat.natAt
          have h2 := (HF.out _ rfl).2
          have h3 := HL.out.ms.pat.natAt
          have h4 := HL.out.ms.pat.lt.1
          unfold set6 at h1
          rw [h3]
          first | (rw [h1]; omega) | (simp at h1; rw [h1]; omega)
      · go_simp
        refine (HA.out K (at2 + 1) false r.tail _ HN.out.ms.pat (by have h1 := HN.out.lt; have h2 := HN.out.tl; have h3 : rest.length ≤ m := HMm.out; show r.tail.length ≤ m; omega)).mono ?_
        rintro e w7 ⟨h2, a2, n2, c2, bad7, at7, r7, rfl, hp7, hle7, hg7, hres7⟩
        have HX7 := Lib.hid (HN.out.xc.gr hg7 (by have := HN.out.b1; have := HN.out.b2; have := HN.out.ms.gl; omega))
        have H7 := Lib.hid (And.intro hp7 (And.intro hle7 hg7))
        refine hK.out _ _ trivial (fun _ => ?_)
        clear hK K0
        (try simp only [Act.put, List.setIfInBounds_toArray, List.set_cons_zero, List.set_cons_succ])
        clear hp7 hle7 hg7
        refine wpAnyH_ready (rs := [1]) (by kernel_rfl) (by simp) ?_
        refine AllReadyH.cons rfl (fun K0 hK => ?_) AllReadyH.nil
        obtain ⟨x0, x1, x2, x3, x4, x5⟩ := HX7.out.cells
        have hlX := HX7.out.lt
        go_simp
        refine hK.out _ _ trivial (fun _ => ?_)
        clear hK K0
        (try simp only [Act.put, List.setIfInBounds_toArray, List.set_cons_zero, List.set_cons_succ])
        clear x0 x1 x2 x3 x4 x5 hlX
        refine wpAnyH_ready (rs := [4]) (by kernel_rfl) (by simp) ?_
        refine AllReadyH.cons rfl (fun K0 hK => ?_) AllReadyH.nil
        go_simp
        refine (two_any 7 0 tn h h2 a a2 n c n2 c2 w7).mono ?_
        rintro e w8 ⟨g, rfl, hb8, hargs⟩
        have HX8 := Lib.hid (HX7.out.be hb8)
        have HF : Hid (∀ W, W = (set6 w8 gx (.int .i64 7) (.int .i64 0) (.int .i64 0) (.int .i64 tn) (.string { data := #[] }) (.slice (some ⟨g, 0, none⟩) 2 2)) → LQ K w gR gx .an (CL .an .anL rest) at_ false rest ⟨7, 0, 0, tn, []⟩ (some ⟨g, 0, none⟩) 2 2 bad7 at7 r7 W ∧ at2 < at7) := Lib.hid (fun W hW => by
          subst hW
          exact HN.out.fin H7.out.1 H7.out.2.1 H7.out.2.2 hres7.out hb8 hargs.out (fun ar2 k1 kc z k2 => kc _ (Ps.anL_ok HT.out k1 (by rw [HLN.out]; exact k2))) (fun k1 kc => kc _ (Ps.anL_bad HT.out k1)))
        refine hK.out _ _ trivial (fun _ => ?_)
        clear hK K0
        (try simp only [Act.put, List.setIfInBounds_toArray, List.set_cons_zero, List.set_cons_succ])
        clear hb8
        refine wpAnyH_ready (rs := [5]) (by kernel_rfl) (by simp) ?_
        refine AllReadyH.cons rfl (fun K0 hK => ?_) AllReadyH.nil
        obtain ⟨x0, x1, x2, x3, x4, x5⟩ := HX8.out.cells
        obtain ⟨g0, g1, g2, g3, g4, g5⟩ := HX8.out.froz
        have hlX := HX8.out.lt
        go_simp
        refine hK.out _ _ trivial (fun _ => ?_)
        clear hK K0
        (try simp only [Act.put, List.setIfInBounds_toArray, List.set_cons_zero, List.set_cons_succ])
        refine wpAnyH_done (by kernel_rfl) ?_ _
        (try simp only [Act.put, List.setIfInBounds_toArray, List.set_cons_zero, List.set_cons_succ])
        go_wp2_with fail
        go_roundw
        case rel => exact ⟨_, some ⟨g, 0, none⟩, 2, 2, bad7, at7, r7, Lib.hid (HF.out _ rfl).1⟩
        case measure =>
          have h1 := (HF.out _ rfl).1.ms.pat.natAt
          have h2 := (HF.out _ rfl).2
          have h3 := HL.out.ms.pat.natAt
          have h4 := HL.out.ms.pat.lt.1
          unfold set6 at h1
          rw [h3]
          first | (rw [h1]; omega) | (simp at h1; rw [h1]; omega)
end Go.Proofs.YtlbjdglgnkajnaaDoor
