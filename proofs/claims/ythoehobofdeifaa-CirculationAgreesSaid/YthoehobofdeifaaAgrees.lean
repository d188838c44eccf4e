/-
  It is proved that CirculationAgrees returns true for every input: a circulation has the least cost exactly if it has potentials, these prove it, and no potentials prove a circulation that costs more than that of Solve, under no further condition.
-/
import Derived.Test.YthoehobofdeifaaPrW
namespace Go.Proofs.Ythoehobofdeifaa.circulationAgrees
open Go.ChangeShapes Go.WideShapes Go.ChangeAt Go.RowKit
set_option linter.unusedVariables false

theorem own : ownKnob Try.prog.godebug = none := by kernel_rfl
theorem laidOut : laidOutB Try.prog = true := by kernel_rfl
set_option linter.unusedVariables false
set_option linter.unusedSimpArgs false

theorem cert_fits {N : Nw} (hok : N.ok) {f : Nat → Int} (h : N.cert f) : ∃ p, N.fits p f := by
  have hb := cert_best hok h
  obtain ⟨p, f0, z0, h1, h2, h3, h4⟩ := h
  exact ⟨p, least_fits hok h1 h2 hb.1 (hb.2 f0 h2).1⟩
/-- what Potentials says of a circulation, beside that of Solve -/
theorem agree_yes {R : Rw} {m : Nat} {l g d : Nat → Int} {code : Int} {k : Nat} (hf : R.feas m l = true) (hc : R.nw.cert g) (he : R.nw.cost l = R.nw.cost g) (hp : PtA R m l code k d) : code = 0 ∧ R.opt m l k d = true := by
  obtain ⟨hg, _, hl⟩ := (R.feas_iff m l).1 hf
  have hv := Rw.valid hg
  obtain ⟨p, hpf⟩ := cert_fits hv.ok hc
  have hgb := cert_best hv.ok hc
  have hfl : R.nw.fits p l := least_fits hv.ok hpf hgb.1 hl (by omega)
  rcases hp with ⟨h1, _⟩ | ⟨_, h1, _⟩ | ⟨_, h1, _⟩ | ⟨_, rfl, rfl, h1⟩
  · exact absurd hg h1
  · rw [h1] at hf; cases hf
  · exact absurd ⟨p, hfl⟩ h1
  · refine ⟨rfl, (R.opt_iff _ _ _ _).2 ⟨hf, ?_, fun v hvV => ?_, h1.fits⟩⟩
    · have := Rw.VI hg; omega
    · have := h1.lo hv hvV; omega
theorem agree_no {R : Rw} {m : Nat} {l g d q : Nat → Int} {code : Int} {k n : Nat} (hf : R.feas m l = true) (hc : R.nw.cert g) (he : R.nw.cost l ≠ R.nw.cost g) (hp : PtA R m l code k d) : code = 32 ∧ R.opt m l n q = false := by
  obtain ⟨hg, _, hl⟩ := (R.feas_iff m l).1 hf
  have hv := Rw.valid hg
  have hgb := cert_best hv.ok hc
  have hno : ¬ ∃ p, R.nw.fits p l := fun ⟨p, hp⟩ => he (by
    have h1 := fit_least hv.ok hp hl hgb.1
    have h2 := (hgb.2 l hl).1
    omega)
  refine ⟨?_, Rw.opt_false (fun h => hno ⟨q, h.2.2.2⟩)⟩
  rcases hp with ⟨h1, _⟩ | ⟨_, h1, _⟩ | ⟨_, _, h1, _⟩ | ⟨_, _, _, h1⟩
  · exact absurd hg h1
  · rw [h1] at hf; cases hf
  · exact h1
  · exact absurd ⟨d, h1.fits⟩ hno
theorem agree_le {R : Rw} {m : Nat} {l g : Nat → Int} (hf : R.feas m l = true) (hc : R.nw.cert g) : R.nw.cost g ≤ R.nw.cost l := by
  obtain ⟨hg, _, hl⟩ := (R.feas_iff m l).1 hf
  exact ((cert_best (Rw.valid hg).ok hc).2 l hl).1
set_option maxRecDepth 100000 in
set_option maxHeartbeats 8000000 in
theorem walk (a0 : Option Addr) (len0 cap0 : Nat) (z0 : List Int) (a1 : Option Addr) (len1 cap1 : Nat) (z1 : List Int) (w : World) (w0 : InInts .u8 w a0 len0 cap0 z0) (w1 : InInts .i8 w a1 len1 cap1 z1) :
    Calls Try.prog 8 #[.slice a0 len0 cap0, .slice a1 len1 cap1] w fun e w' => e = .returned (.bool true) ∧ Below w.heap.size w w' := by
  have HI := Lib.hid w0
  have HP8 := Lib.hid w1
  clear w0 w1
  go_enter Try.func8, Try.ntmps8
  go_wp2_with fail
  refine (awake_any _).mono ?_
  rintro e w2 ⟨rfl, hb1⟩
  have HB2 := Lib.hid hb1
  have HI2 := Lib.hid (HI.out.below HB2.out)
  clear hb1 HI
  go_wp2_with fail
  refine (New_any a0 len0 cap0 z0 160 (by omega) (by omega) _ HI2.out).mono ?_
  rintro e w3 ⟨g, rfl, hg, hcod, hb3⟩
  have hgw : w.heap.size ≤ g := by have := HB2.out.size; omega
  have HG3 := Lib.hid (grownBy_of_below (HB2.out.trans (hb3.mono HB2.out.size)) (some g))
  have HC3 := Lib.hid hcod
  have HGW := Lib.hid hgw
  clear hb3 hcod HI2 hg HB2 hgw
  go_wp2_with fail
  refine (Network_any g _ HC3.out).mono ?_
  rintro e w4 ⟨V, l, v, rfl, hsm, hown, hcod4, hg4⟩
  have HG4 := Lib.hid (grownBy_trans HG3.out hg4)
  obtain ⟨av, cv, rfl, hlc, hcm, hArc, hblk⟩ := Arcs.of_own (V := V) hown
  have hgl3 := HC3.out.lt
  have HBLK : Hid (∀ x, av = some x → x.block ≠ g) := Lib.hid (fun x hx => by have := hblk x hx; omega)
  have HC4 := Lib.hid hcod4
  have HARC4 := Lib.hid hArc
  have HVAL := Lib.hid (hsm.valid (by omega) (by omega) (by omega))
  have hl9 := hsm.m
  have hV5 := hsm.V2
  clear hown hsm hArc hblk hcod4 hg4 HC3 HG3 hgl3 hlc hcm
  go_upto_region 5 with fail
  obtain ⟨w5, hw5⟩ : ∃ w5, w5 = (w4.alloc (.cells #[.int .i64 (V : Int), .slice av l.length cv] 25)) := ⟨_, rfl⟩
  rw [← hw5]
  have hb5 : Below w4.heap.size w4 w5 := by rw [hw5]; exact (Below.refl _ _).alloc (Nat.le_refl _) _
  have x0 : w5.cell? ⟨w4.heap.size, 0, none⟩ = some (.int .i64 (V : Int)) := by rw [hw5]; exact cell_mk _ _ _ rfl rfl
  have x1 : w5.cell? ⟨w4.heap.size, 1, none⟩ = some (.slice av l.length cv) := by rw [hw5]; exact cell_mk _ _ _ rfl rfl
  have HG5 := Lib.hid (grownBy_trans HG4.out (grownBy_of_below hb5 (some g)))
  have HC5 := Lib.hid (HC4.out.under hb5)
  have HARC5 := Lib.hid (HARC4.out.below hb5)
  have hgl := HC4.out.lt
  obtain ⟨gx, hgx⟩ : ∃ gx, w4.heap.size = gx := ⟨_, rfl⟩
  rw [hgx] at x0 x1 hgl ⊢
  have HXG : Hid (gx ≠ g) := Lib.hid (by omega)
  have HNK : Hid (∀ W, w5.grownBy W (some g) → (W.cell? ⟨gx, 0, none⟩ = some (.int .i64 (V : Int)) ∧ W.cell? ⟨gx, 1, none⟩ = some (.slice av l.length cv))) := Lib.hid (fun W hW => ⟨cell_grown hW HXG.out x0, cell_grown hW HXG.out x1⟩)
  have HAK : Hid (∀ W, w5.grownBy W (some g) → Arcs W av (nwOf V l)) := Lib.hid (fun W hW => HARC5.out.grown hW (fun _ x hx => HBLK.out x hx))
  have HFIN : Hid (∀ W, w5.grownBy W (some g) → Below w.heap.size w W) := Lib.hid (fun W hW => below_grown1 (Below.refl _ _) (grownBy_trans HG5.out hW) (Nat.le_refl _) HGW.out)
  have HP85 : Hid (∀ W, w5.grownBy W (some g) → InInts .i8 W a1 len1 cap1 z1) := Lib.hid (fun W hW => HP8.out.below (below_grown1 (Below.refl _ _) (grownBy_trans HG5.out hW) (Nat.le_refl _) HGW.out))
  have xl := block_lt_of_cell x0
  clear hw5 hb5 hgx HG4 HC4 HARC4 HP8 hgl
  clear w4
  obtain ⟨R, hR⟩ : ∃ R, rwA V l.length (fun j => l.getD j default) = R := ⟨_, rfl⟩
  have hRV : R.V = (V : Int) := by rw [← hR]; rfl
  have hRm : R.m = l.length := by rw [← hR]; rfl
  have HRV := Lib.hid hRV
  have HRM := Lib.hid hRm
  have HRA : Hid (∀ W, w5.grownBy W (some g) → RA W av R.m R.A) := Lib.hid (fun W hW => by rw [← hR]; exact rwA_nets (HAK.out W hW))
  have HGOOD : Hid R.good := Lib.hid (by rw [← hR]; exact rwA_good HVAL.out)
  have HVV : Hid (R.nw.V = V) := Lib.hid (by show R.V.toNat = V; rw [hRV]; rfl)
  have hval : R.val av cv = .agg #[.int .i64 (V : Int), .slice av l.length cv] := by show Value.agg #[.int .i64 R.V, .slice av R.m cv] = _; rw [hRV, hRm]
  have HVL := Lib.hid hval
  clear hR hRV hRm hval
  have hcall := Solve_any R av cv (by rw [HRM.out]; omega) w5 (HRA.out _ (grownBy_of_below (Below.refl _ _) _))
  rw [HVL.out] at hcall
  have HCALL := Lib.hid hcall
  clear hcall
  go_wp2_with fail
  refine HCALL.out.mono ?_
  rintro e w6 hpost
  obtain ⟨sb, nb, kb, fb, code, rfl, hrb, hansb, hb6, hnmb⟩ := sol_of hpost
  have HG6 : Hid (w5.grownBy w6 (some g)) := Lib.hid (grownBy_of_below hb6 _)
  have HC6 := Lib.hid (HC5.out.under hb6)
  have HRB := Lib.hid hrb
  have HANS := Lib.hid hansb
  have HBO : Hid (0 < nb → ∀ x, sb = some x → x.block ≠ g) := Lib.hid (by
    obtain ⟨_, hh⟩ := hpost
    rcases hh with ⟨_, hh⟩ | ⟨_, hh, _⟩ | ⟨_, gf, f, hh, hrow, hlo, _⟩
    · injection hh with hh; injection hh with hh; injection hh with hh; injection hh with hh _; injection hh with h1 h2 h3; intro h0; omega
    · injection hh with hh; injection hh with hh; injection hh with hh; injection hh with hh _; injection hh with h1 h2 h3; intro h0; omega
    · injection hh with hh; injection hh with hh; injection hh with hh; injection hh with hh _; injection hh with h1 h2 h3
      intro h0 x hx
      rw [h1] at hx
      injection hx with hx
      subst hx
      have := HC5.out.lt
      show gf ≠ g
      omega)
  obtain ⟨x0, x1⟩ := HNK.out w6 HG6.out
  have xl := block_lt_of_cell x0
  clear hpost hrb hansb hb6 HCALL
  go_wp2_with fail
  refine (flow_any g (nwOf V l) HVAL.out (show l.length ≤ 12 by omega) av cv _ (HAK.out _ HG6.out) HC6.out).mono ?_
  rintro e w7 ⟨sf, nf, cf, ff, rfl, hnf, hrf, hbf, hc7, hg7⟩
  have HG7 : Hid (w5.grownBy w7 (some g) ∧ Cod w7 g) := Lib.hid ⟨grownBy_trans HG6.out hg7, hc7⟩
  have HRF := Lib.hid hrf
  have HRB7 := Lib.hid (HRB.out.grown hg7 HBO.out)
  have hnf2 : nf ≤ 13 := by have : (nwOf V l).m = l.length := rfl; omega
  have hnb2 : nb ≤ 13 := by have := HRM.out; omega
  have HFT : Hid (∀ W, Below w7.heap.size w7 W → ∀ (s : Option Addr) (n c : Nat) (f : Nat → Int), n ≤ 40 → Rd W s n f → Calls Try.prog 17 #[.agg #[.int .i64 (V : Int), .slice av l.length cv], .slice s n c] W fun e w' => e = .returned (.bool (R.feas n f)) ∧ Below W.heap.size W w') := Lib.hid (fun W hW s n c f hn hr => by
    have hc := Feasible_any R av cv (by rw [HRM.out]; omega) s n c f (by omega) W (HRA.out W (grownBy_trans HG7.out.1 (grownBy_of_below hW _))) hr
    rwa [HVL.out] at hc)
  obtain ⟨x0, x1⟩ := HNK.out w7 HG7.out.1
  have xl := block_lt_of_cell x0
  clear hrf hbf hc7 hg7 HRB HBO HC6 HG6 hnf
  rcases HANS.out with ⟨h1, _⟩ | ⟨_, rfl, rfl, hnoc⟩ | ⟨_, rfl, rfl, hcert⟩
  · exact absurd HGOOD.out h1
  · have HFF : Hid (R.feas nf ff = false) := Lib.hid (Rw.feas_false (fun h => noc_none (Rw.valid HGOOD.out).ok hnoc _ h.2.2))
    clear hnoc
    go_wp2_with fail
    refine (HFT.out _ (Below.refl _ _) sf nf cf ff (by omega) HRF.out).mono ?_
    rintro e w8 ⟨rfl, hb8⟩
    rw [HFF.out]
    have HE := Lib.hid (HFIN.out w8 (grownBy_trans HG7.out.1 (grownBy_of_below hb8 _)))
    clear hb8
    go_wp2_with fail
    go_ret
    exact ⟨rfl, HE.out⟩
  · have HCERT := Lib.hid hcert
    clear hcert HANS
    have mk1 := make_ints V (by omega)
    have HRM2 := HRM
    rw [HRM.out] at HRB7 hnb2 ⊢
    go_upto_region 10 with fail
    obtain ⟨w8, hw8⟩ : ∃ w8, w8 = (w7.alloc (.cells (vrow V fun _ => .int .i64 0) 3)) := ⟨_, rfl⟩
    rw [← hw8]
    have hb8 : Below w7.heap.size w7 w8 := by rw [hw8]; exact (Below.refl _ _).alloc (Nat.le_refl _) _
    have hq8 : IRow w8 w7.heap.size V (fun _ => 0) := by rw [hw8]; exact VRow.new w7 _ _ _ rfl
    have HG8 : Hid (w5.grownBy w8 (some g) ∧ Cod w8 g) := Lib.hid ⟨grownBy_trans HG7.out.1 (grownBy_of_below hb8 _), HG7.out.2.under hb8⟩
    have HB8 := Lib.hid hb8
    have HQ8 := Lib.hid hq8
    obtain ⟨gq, hgq⟩ : ∃ gq, w7.heap.size = gq := ⟨_, rfl⟩
    have HGQ := Lib.hid hgq
    rw [hgq] at HQ8 ⊢
    clear hw8 hb8 hq8 hgq mk1 x0 x1 xl
    go_upto_region 11 with fail
    have H8K : Hid (∀ W, Kp [gq] w8 W → Below w7.heap.size w7 W) := Lib.hid (fun W hW => HB8.out.trans (hW.to_below HB8.out.size (by have := HGQ.out; simp; omega)))
    go_loopw [11] (fun v11 wr => ∃ (i : Nat) (q : Nat → Int), i ≤ V ∧ v11 = .int .i64 i ∧ Hid (IRow wr gq V q ∧ Kp [gq] w8 wr)) (fun v _ => V - (intOf v).toNat)
    case atStart => exact ⟨0, fun _ => 0, by omega, rfl, Lib.hid ⟨HQ8.out, Kp.refl _ _⟩⟩
    case round =>
      obtain ⟨i, q, hi, rfl, HR⟩ := hrel
      by_cases hgo : i < V ∧ i < len1
      · obtain ⟨hiV, hil⟩ := hgo
        have d1 : decide ((i : Int) < (V : Int)) = true := by rw [decide_eq_true_iff]; omega
        have d2 : decide ((i : Int) < (len1 : Int)) = true := by rw [decide_eq_true_iff]; omega
        obtain ⟨_, hlc1, ⟨hcm1, _⟩, hpc⟩ := HP85.out _ (grownBy_trans HG7.out.1 (grownBy_of_below (H8K.out _ HR.out.2) _))
        obtain ⟨bp, op, rfl, hbp, hpz, hwf⟩ := hpc i hil
        obtain ⟨z, hz⟩ : ∃ z, z1.getD i 0 = z := ⟨_, rfl⟩
        rw [hz] at hpz hwf
        have hzr : -128 ≤ z ∧ z ≤ 127 := by
          have h : (decide (IntKind.i8.min ≤ z) && decide (z ≤ IntKind.i8.max)) = true := hwf
          rw [Bool.and_eq_true, decide_eq_true_iff, decide_eq_true_iff] at h
          have e1 : IntKind.i8.min = -128 := by decide
          have e2 : IntKind.i8.max = 127 := by decide
          omega
        have hwz : IntKind.i64.wrap z = z := by rw [IntKind.wrap_i64]; omega
        have r1 := HR.out.1.cell i hiV
        have r2 := HR.out.1.frozen i
        have r3 := HR.out.1.lt
        have HN : Hid (IRow (wr.setCell ⟨gq, i, none⟩ (.int .i64 z)) gq V (upd q i z) ∧ Kp [gq] w8 (wr.setCell ⟨gq, i, none⟩ (.int .i64 z))) := Lib.hid ⟨IRow.set HR.out.1 i z (upd_same _ _ _) (fun j hj => upd_other _ _ hj), HR.out.2.setCell _ _ (.inl (by simp))⟩
        clear hpc hz hwf
        go_wp2_with fail
        go_roundw
        case rel => exact ⟨i + 1, _, by omega, by go_num, HN⟩
        case measure => simp [intOf]; omega
      · have HB := Lib.hid (H8K.out _ HR.out.2)
        have HQR : Hid (Rd wr (some ⟨gq, 0, none⟩) V q) := Lib.hid (Rd.of_row HR.out.1)
        have HGR : Hid (w5.grownBy wr (some g) ∧ Cod wr g) := Lib.hid ⟨grownBy_trans HG7.out.1 (grownBy_of_below HB.out _), HG7.out.2.under HB.out⟩
        have HRFR := Lib.hid (HRF.out.below HB.out)
        have HRBR := Lib.hid (HRB7.out.below HB.out)
        obtain ⟨x0, x1⟩ := HNK.out wr HGR.out.1
        have xl := block_lt_of_cell x0
        have hz1 : ∃ b1 b2 : Bool, decide (i < V) = b1 ∧ decide (i < len1) = b2 ∧ (b1 = true → b2 = false) := by
          refine ⟨_, _, rfl, rfl, fun h => ?_⟩
          rw [decide_eq_true_iff] at h
          rw [decide_eq_false_iff_not]
          omega
        obtain ⟨b1, b2, d1, d2, hbb⟩ := hz1
        have HBASE : Hid (∀ W, w5.grownBy W (some g) → ∀ W', Below W.heap.size W W' → w5.grownBy W' (some g)) := Lib.hid (fun W h W' h' => grownBy_trans h (grownBy_of_below h' _))
        have HZ : Hid (∀ W, w5.grownBy W (some g) → (∀ (s : Option Addr) (n c : Nat) (f : Nat → Int), n ≤ 40 → Rd W s n f →
            (Calls Try.prog 17 #[.agg #[.int .i64 (V : Int), .slice av l.length cv], .slice s n c] W fun e w' => e = .returned (.bool (R.feas n f)) ∧ Below W.heap.size W w') ∧
            (Calls Try.prog 19 #[.agg #[.int .i64 (V : Int), .slice av l.length cv], .slice s n c] W fun e w' => e = .returned (.int .i64 (R.costB n f)) ∧ Below W.heap.size W w') ∧
            (Calls Try.prog 26 #[.agg #[.int .i64 (V : Int), .slice av l.length cv], .slice s n c] W (PtPost R n f W)) ∧
            (∀ (t : Option Addr) (k d : Nat) (p : Nat → Int), k ≤ 520 → Rd W t k p → Calls Try.prog 28 #[.agg #[.int .i64 (V : Int), .slice av l.length cv], .slice s n c, .slice t k d] W fun e w' => e = .returned (.bool (R.opt n f k p)) ∧ Below W.heap.size W w'))) := Lib.hid (fun W hW s n c f hn hr => by
          have hra := HRA.out W hW
          have hm : R.m ≤ 9223372036854775806 := by rw [HRM2.out]; omega
          rw [← HVL.out]
          exact ⟨Feasible_any R av cv hm s n c f (by omega) W hra hr, Cost_any R av cv hm s n c f (by omega) W hra hr, Potentials_any R av cv hm s n c f (by omega) W hra hr,
            fun t k d p hk hp => Optimal_any R av cv hm s n c f (by omega) t k d p (by omega) W hra hr hp⟩)
        have HEX : R.m = l.length := HRM2.out
        have HFB : Hid (R.feas l.length fb = true) := Lib.hid (by rw [← HEX]; exact Rw.feas_true ⟨HGOOD.out, rfl, (cert_best (Rw.valid HGOOD.out).ok HCERT.out).1⟩)
        clear HEX hgo HB HR HB8 HQ8 HGQ H8K HG8 HRF HRB7 HFT HG7 HP85
        have hbc : (b1 = false) ∨ (b1 = true ∧ b2 = false) := by
          cases b1
          · exact .inl rfl
          · exact .inr ⟨rfl, hbb rfl⟩
        clear hbb
        rcases hbc with rfl | ⟨rfl, rfl⟩
        all_goals
          go_upto_region 14 with fail
          go_wp2_with fail
          clear d1 d2 x0 x1 xl
          have HST : Hid (∀ W, W = (wr.alloc (.cells #[.slice sf nf cf, .slice sb l.length kb] 26)) → Below wr.heap.size wr W ∧ (∀ j, j < 2 → ∃ (t : Option Addr) (k d : Nat) (p : Nat → Int), W.cell? ⟨wr.heap.size, j, none⟩ = some (.slice t k d) ∧ k ≤ 40 ∧ Rd W t k p)) := Lib.hid (fun W hW => by
            subst hW
            have hb : Below wr.heap.size wr (wr.alloc (.cells #[.slice sf nf cf, .slice sb l.length kb] 26)) := (Below.refl _ _).alloc (Nat.le_refl _) _
            refine ⟨hb, fun j hj => ?_⟩
            have hj2 : j = 0 ∨ j = 1 := by omega
            rcases hj2 with rfl | rfl
            · exact ⟨sf, nf, cf, ff, cell_mk _ _ _ rfl rfl, by omega, HRFR.out.below hb⟩
            · exact ⟨sb, l.length, kb, fb, cell_mk _ _ _ rfl rfl, by omega, HRBR.out.below hb⟩)
          obtain ⟨wE, hwE⟩ : ∃ wE, wE = (wr.alloc (.cells #[.slice sf nf cf, .slice sb l.length kb] 26)) := ⟨_, rfl⟩
          rw [← hwE]
          obtain ⟨hbE, hst⟩ := HST.out wE hwE
          have HGE : Hid (w5.grownBy wE (some g)) := Lib.hid (HBASE.out _ HGR.out.1 _ hbE)
          obtain ⟨gl, hgl⟩ : ∃ gl, wr.heap.size = gl := ⟨_, rfl⟩
          have hgll : gl < wE.heap.size := by rw [hwE, ← hgl]; simp
          rw [hgl] at hst ⊢
          have HROW : Hid (∀ W, Below wE.heap.size wE W → ∀ j, j < 2 → ∃ (t : Option Addr) (k d : Nat) (p : Nat → Int), W.cell? ⟨gl, j, none⟩ = some (.slice t k d) ∧ k ≤ 40 ∧ Rd W t k p) := Lib.hid (fun W hW j hj => by
            obtain ⟨s, n, c, f, h1, h2, h3⟩ := hst j hj
            exact ⟨s, n, c, f, (hW.cell (p := ⟨gl, j, none⟩) hgll).trans h1, h2, h3.below hW⟩)
          have HQE : Hid (∀ W, Below wE.heap.size wE W → Rd W (some ⟨gq, 0, none⟩) V q) := Lib.hid (fun W hW => (HQR.out.below hbE).below hW)
          have HBE : Hid (∀ W, Below wE.heap.size wE W → Rd W sb l.length fb) := Lib.hid (fun W hW => (HRBR.out.below hbE).below hW)
          have HGLL := Lib.hid hgll
          clear hwE hgl hgll hst hbE HST HQR HGR HRFR HRBR
          clear wr
          go_loopw [68] (fun v68 wr => ∃ k : Nat, k ≤ 2 ∧ v68 = .int .i64 k ∧ Hid (Below wE.heap.size wE wr)) (fun v _ => 2 - (intOf v).toNat)
          case atStart => exact ⟨0, by omega, rfl, Lib.hid (Below.refl _ _)⟩
          case round =>
            obtain ⟨k, hk, rfl, HR⟩ := hrel
            by_cases hkt : k < 2
            · obtain ⟨s, n, c, f, r0, hn40, hrd⟩ := HROW.out wr HR.out k hkt
              have HG := Lib.hid (HBASE.out _ HGE.out _ HR.out)
              obtain ⟨x0, x1⟩ := HNK.out wr HG.out
              have HRD := Lib.hid hrd
              have rl := block_lt_of_cell r0
              have xl := block_lt_of_cell x0
              clear hrd
              go_wp2_with fail
              refine (HZ.out wr HG.out s n c f hn40 HRD.out).1.mono ?_
              rintro e wA ⟨rfl, hbA⟩
              have HRA := Lib.hid (HR.out.trans (hbA.mono HR.out.size))
              clear r0 rl x0 x1 xl
              have HRDA := Lib.hid (HRD.out.below hbA)
              clear hbA HRD HG
              have HG := Lib.hid (HBASE.out _ HGE.out _ HRA.out)
              obtain ⟨x0, x1⟩ := HNK.out wA HG.out
              have xl := block_lt_of_cell x0
              cases hfe : R.feas n f
              · go_wp2_with fail
                go_roundw
                case rel => exact ⟨k + 1, by omega, by go_num, HRA⟩
                case measure => simp [intOf]; omega
              · have HFE := Lib.hid hfe
                clear hfe
                have HK1 : Hid (∀ W0, Below wE.heap.size wE W0 → Rd W0 s n f → ∀ W, Below W0.heap.size W0 W → Calls Try.prog 19 #[.agg #[.int .i64 (V : Int), .slice av l.length cv], .slice s n c] W fun e w' => e = .returned (.int .i64 (R.nw.cost f)) ∧ Below W.heap.size W w') := Lib.hid (fun W0 h0 hr0 W hW => by
                  have h := (HZ.out W (HBASE.out _ (HBASE.out _ HGE.out _ h0) _ hW) s n c f hn40 (hr0.below hW)).2.1
                  unfold Rw.costB at h
                  rwa [if_pos HFE.out] at h)
                have HK2 : Hid (∀ W0, Below wE.heap.size wE W0 → ∀ W, Below W0.heap.size W0 W → Calls Try.prog 19 #[.agg #[.int .i64 (V : Int), .slice av l.length cv], .slice sb l.length kb] W fun e w' => e = .returned (.int .i64 (R.nw.cost fb)) ∧ Below W.heap.size W w') := Lib.hid (fun W0 h0 W hW => by
                  have h := (HZ.out W (HBASE.out _ (HBASE.out _ HGE.out _ h0) _ hW) sb l.length kb fb (by omega) (HBE.out W (h0.trans (hW.mono h0.size)))).2.1
                  unfold Rw.costB at h
                  rwa [if_pos HFB.out] at h)
                have HLE : Hid (decide (R.nw.cost f < R.nw.cost fb) = false) := Lib.hid (by rw [decide_eq_false_iff_not]; have := agree_le HFE.out HCERT.out; omega)
                have HYES : Hid (R.nw.cost f = R.nw.cost fb → ∀ code k d, PtA R n f code k d → code = 0 ∧ R.opt n f k d = true) := Lib.hid (fun he code k d hp => agree_yes HFE.out HCERT.out he hp)
                have HNO : Hid (R.nw.cost f ≠ R.nw.cost fb → ∀ code k d, PtA R n f code k d → code = 32 ∧ R.opt n f V q = false) := Lib.hid (fun he code k d hp => agree_no HFE.out HCERT.out he hp)
                obtain ⟨kf, hkf⟩ : ∃ z, R.nw.cost f = z := ⟨_, rfl⟩
                obtain ⟨kg, hkg⟩ : ∃ z, R.nw.cost fb = z := ⟨_, rfl⟩
                rw [hkf] at HK1 HLE HYES HNO
                rw [hkg] at HK2 HLE HYES HNO
                clear hkf hkg
                obtain ⟨ch, hch⟩ : ∃ ch : Bool, (kf == kg) = ch := ⟨_, rfl⟩
                have HCH : Hid ((ch = true → kf = kg) ∧ (ch = false → kf ≠ kg)) := Lib.hid (by rw [← hch]; simp)
                go_upto_region 18 with fail
                have K1 := Lib.hid (HK1.out wA HRA.out HRDA.out)
                have K2 := Lib.hid (HK2.out wA HRA.out)
                refine wp_region_below (by kernel_rfl) (by kernel_rfl) ?_
                have g1 := fun y : Since wA => y.cell x0
                have g2 := fun y : Since wA => y.cell x1
                repeat (go_big_quiet_step (first
                  | (go_at_call 19; with_reducible exact calls_since _ (K1.out _ (Since.property _)))
                  | (go_at_call 19; with_reducible exact calls_since _ (K2.out _ (Since.property _)))))
                clear K1 K2
                refine wpQuiet_nil ?_
                intro wB hbB
                (try rw [hch])
                clear g1 g2 x0 x1 xl hch
                have HRB := Lib.hid (HRA.out.trans (hbB.mono HRA.out.size))
                have HRDB := Lib.hid (HRDA.out.below hbB)
                have HGB := Lib.hid (HBASE.out _ HGE.out _ HRB.out)
                obtain ⟨x0, x1⟩ := HNK.out wB HGB.out
                have xl := block_lt_of_cell x0
                clear hbB HRDA HG
                go_wp2_with fail
                refine (HZ.out wB HGB.out s n c f hn40 HRDB.out).2.2.1.mono ?_
                rintro e wC hpost
                obtain ⟨t1, m1, p1, code1, rfl, hr1, ha1, hbC, hm1, _, _⟩ := pt_of hpost
                have HRC := Lib.hid (HRB.out.trans (hbC.mono HRB.out.size))
                have HRDC := Lib.hid (HRDB.out.below hbC)
                have HGC := Lib.hid (HBASE.out _ HGE.out _ HRC.out)
                clear x0 x1 xl
                obtain ⟨x0, x1⟩ := HNK.out wC HGC.out
                have xl := block_lt_of_cell x0
                have HP1 := Lib.hid hr1
                have HA1 := Lib.hid ha1
                clear hpost hr1 ha1 hbC HRDB HGB
                cases ch
                · obtain ⟨h32, hop⟩ := HNO.out (HCH.out.2 rfl) _ _ _ HA1.out
                  subst h32
                  have HOP := Lib.hid hop
                  clear hop HNO HYES HCH HA1
                  go_wp2_with fail
                  refine ((HZ.out wC HGC.out s n c f hn40 HRDC.out).2.2.2 (some ⟨gq, 0, none⟩) V V q (by omega) (HQE.out _ HRC.out)).mono ?_
                  rintro e wD ⟨rfl, hbD⟩
                  rw [HOP.out]
                  have HRD := Lib.hid (HRC.out.trans (hbD.mono HRC.out.size))
                  have HRDD := Lib.hid (HRDC.out.below hbD)
                  have HGD := Lib.hid (HBASE.out _ HGE.out _ HRD.out)
                  clear x0 x1 xl hbD HOP
                  obtain ⟨x0, x1⟩ := HNK.out wD HGD.out
                  have xl := block_lt_of_cell x0
                  have K1 := Lib.hid (HK1.out wD HRD.out HRDD.out)
                  have K2 := Lib.hid (HK2.out wD HRD.out)
                  have dle := HLE.out
                  go_upto_region 22 with fail
                  refine wp_region_below (by kernel_rfl) (by kernel_rfl) ?_
                  have g1 := fun y : Since wD => y.cell x0
                  have g2 := fun y : Since wD => y.cell x1
                  repeat (go_big_quiet_step (first
                    | (go_at_call 19; with_reducible exact calls_since _ (K1.out _ (Since.property _)))
                    | (go_at_call 19; with_reducible exact calls_since _ (K2.out _ (Since.property _)))))
                  clear K1 K2
                  refine wpQuiet_nil ?_
                  intro wF hbF
                  clear g1 g2 x0 x1 xl
                  have HRF := Lib.hid (HRD.out.trans (hbF.mono HRD.out.size))
                  clear hbF
                  go_wp2_with fail
                  go_roundw
                  case rel => exact ⟨k + 1, by omega, by go_num, HRF⟩
                  case measure => simp [intOf]; omega
                · obtain ⟨h0, hop⟩ := HYES.out (HCH.out.1 rfl) _ _ _ HA1.out
                  subst h0
                  have HOP := Lib.hid hop
                  clear hop HNO HYES HCH HA1
                  go_wp2_with fail
                  refine ((HZ.out wC HGC.out s n c f hn40 HRDC.out).2.2.2 t1 m1 m1 p1 hm1 HP1.out).mono ?_
                  rintro e wD ⟨rfl, hbD⟩
                  rw [HOP.out]
                  have HRD := Lib.hid (HRC.out.trans (hbD.mono HRC.out.size))
                  have HRDD := Lib.hid (HRDC.out.below hbD)
                  have HGD := Lib.hid (HBASE.out _ HGE.out _ HRD.out)
                  clear x0 x1 xl hbD HOP
                  obtain ⟨x0, x1⟩ := HNK.out wD HGD.out
                  have xl := block_lt_of_cell x0
                  have K1 := Lib.hid (HK1.out wD HRD.out HRDD.out)
                  have K2 := Lib.hid (HK2.out wD HRD.out)
                  have dle := HLE.out
                  go_upto_region 22 with fail
                  refine wp_region_below (by kernel_rfl) (by kernel_rfl) ?_
                  have g1 := fun y : Since wD => y.cell x0
                  have g2 := fun y : Since wD => y.cell x1
                  repeat (go_big_quiet_step (first
                    | (go_at_call 19; with_reducible exact calls_since _ (K1.out _ (Since.property _)))
                    | (go_at_call 19; with_reducible exact calls_since _ (K2.out _ (Since.property _)))))
                  clear K1 K2
                  refine wpQuiet_nil ?_
                  intro wF hbF
                  clear g1 g2 x0 x1 xl
                  have HRF := Lib.hid (HRD.out.trans (hbF.mono HRD.out.size))
                  clear hbF
                  go_wp2_with fail
                  go_roundw
                  case rel => exact ⟨k + 1, by omega, by go_num, HRF⟩
                  case measure => simp [intOf]; omega
            · obtain rfl : k = 2 := by omega
              have HE := Lib.hid (HFIN.out wr (HBASE.out _ HGE.out _ HR.out))
              go_wp2_with fail
              go_ret
              exact ⟨rfl, HE.out⟩

/-! ### THE ROW's STEP -/
set_option maxRecDepth 100000 in
theorem lifted (os : Os) (started : os.Started) (H : Type) (enc : TypeId × Value → H) :
    ReturnsInHanded {} Try.checked os 8 .any (Rows.circulationAgreesSpec.pre6 enc Try.prog Try.f8 Rows.circulationAgreesRow.domain false) (Rows.circulationAgreesSpec.post enc Try.prog Try.f8 false true false false) := by
  refine returnsInHanded_of_change (C := Try.checked) own started (by kernel_rfl) Try.func8
    (ChangeSpec.witness6 (enc := enc) (C := Try.checked) false ⟨#[], #[.slice none 0 0, .slice none 0 0], []⟩ 8 (by kernel_rfl) (by kernel_rfl) (by kernel_rfl) (by kernel_rfl)) ?_
  intro W base args ds gs before hval0 hW hcnd _
  have hval : ∀ (j : Nat) t v, Try.f8.params[j]? = some t → args[j]? = some v → Value.okWide Try.prog W .any base t v := hval0
  have hW' := hW
  obtain ⟨p, q, hA0, hV, rfl, hfz, hnd⟩ := hW
  have hA : DataW.TrodAll enc Try.prog W 0 (fun _ => true) true Try.f8.params.toList args.toList ds p := hA0
  rw [Try.params8] at hA hval
  obtain ⟨v0, vs0, d0, ds0, p0, q0, hargs, rfl, rfl, h0, r0⟩ := trodAll_cons hA
  obtain ⟨v1, vs1, d1, ds1, p1, q1, rfl, rfl, rfl, h1, r1⟩ := trodAll_cons r0
  obtain ⟨rfl, rfl, rfl⟩ := trodAll_nil r1
  obtain rfl : args = #[v0, v1] := by cases args; simp_all
  obtain ⟨rfl, rfl⟩ := trodVars_none hV
  have k0 := h0
  have lt0 : ∀ x ∈ p0, x.block < W.heap.size := by obtain ⟨m, hm⟩ := k0; exact DataW.trod_lt m _ _ _ hm
  obtain ⟨a0, len0, cap0, zs0, rfl, w0⟩ := in_ints (k := .u8) Try.underlying22 Try.underlying5 (by kernel_rfl) (hval 0 22 v0 rfl rfl) h0
  have k1 := h1
  have lt1 : ∀ x ∈ p1, x.block < W.heap.size := by obtain ⟨m, hm⟩ := k1; exact DataW.trod_lt m _ _ _ hm
  obtain ⟨a1, len1, cap1, zs1, rfl, w1⟩ := in_ints (k := .i8) Try.underlying55 Try.underlying56 (by kernel_rfl) (hval 1 55 v1 rfl rfl) h1
  clear hA0 hval0
  refine (walk a0 len0 cap0 zs0 a1 len1 cap1 zs1 W w0 w1).mono fun e W' ⟨he, bel⟩ => ?_
  subst he
  exact ⟨_, rfl, _, _, _, [], _, [], hW', trodAll_mk1 (shut_bool Try.underlying4 _), (trodAll_cons_mk (Below.trod laidOut (by kernel_rfl) (of_decide_eq_true (by kernel_rfl)) k0 bel lt0) (trodAll_cons_mk (Below.trod laidOut (by kernel_rfl) (of_decide_eq_true (by kernel_rfl)) k1 bel lt1) trodAll_mk0)), rfl, bel.frame _, fun h => by cases h⟩

theorem over : Rows.circulationAgreesRow.holds Try.pinned (OpenSpec.ofChange Rows.circulationAgreesSpec) :=
  OpenClaim.holds_of_wide 8 Try.f8 rfl rfl rfl rfl rfl rfl rfl ⟨rfl, rfl, rfl, rfl, rfl⟩ rfl rfl rfl rfl rfl (by kernel_rfl) Try.func8 (by kernel_rfl)
    (of_decide_eq_true (by kernel_rfl)) (by unfold Func.isWrapper; first | (rw [if_pos (by decide +kernel)]; kernel_rfl) | (rw [if_neg (by decide +kernel)]; exact ⟨rfl, rfl⟩))
    (fun os started H enc _ => lifted os started H enc)

/-- the statement -/
theorem proved : Rows.CirculationAgreesSaid := over
#print axioms proved
end Go.Proofs.Ythoehobofdeifaa.circulationAgrees
