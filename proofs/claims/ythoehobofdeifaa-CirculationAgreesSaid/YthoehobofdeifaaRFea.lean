/-
  WALK of warmpathref24.Feasible. (Filled in from a template of this repo.)
-/
import Derived.Test.YthoehobofdeifaaCirF
import Derived.Test.YthoehobofdeifaaRVal
namespace Go.Proofs.Ythoehobofdeifaa
open Go.ChangeShapes Go.WideShapes Go.ChangeAt Go.RowKit
set_option linter.unusedVariables false

set_option maxRecDepth 100000 in
set_option maxHeartbeats 8000000 in
theorem RFeasible_good (R : Rw) (hg : R.good) (a : Option Addr) (ca : Nat) (la : Option Addr) (n lc : Nat) (x : Nat → Int) (hnm : n = R.m) (w : World) (h : RA w a R.m R.A) (hx : Rd w la n x) :
    Calls Try.prog 18 #[R.nw.val a ca, .slice la n lc] w fun e w' => e = .returned (.bool (R.feas n x)) ∧ Below w.heap.size w w' := by
  have hv := Rw.valid hg
  have hA := RA.arcs hg h
  have hV2 := hv.V2
  have hm2 := hv.m2
  have HV := Lib.hid hv
  have HA := Lib.hid hA
  have HX := Lib.hid hx
  have HG := Lib.hid hg
  have HRA := Lib.hid h
  have hm3 : R.m ≤ 9223372036854775806 := by have := hg.1; omega
  have HOK : Hid (∀ w', Below w.heap.size w w' → Calls Try.prog 16 #[R.nw.val a ca] w' fun e w'' => e = .returned (.bool true) ∧ Below w'.heap.size w' w'') := Lib.hid (fun w' hb => by
    have := RValid_any R a ca hm3 w' (HRA.out.below hb)
    rw [Rw.val_eq HG.out, Rw.okB_true HG.out] at this
    exact this)
  have HT : Hid (R.nw.circ x → R.feas n x = true) := Lib.hid (fun hc => Rw.feas_true ⟨HG.out, hnm, hc⟩)
  have HFL : Hid (¬ R.nw.circ x → R.feas n x = false) := Lib.hid (fun hc => Rw.feas_false (fun h => hc h.2.2))
  clear hv hA h hx hg HRA HG
  obtain ⟨N, hN⟩ : ∃ N, R.nw = N := ⟨_, rfl⟩
  have hNm : n = N.m := by rw [hnm, ← hN]; rfl
  rw [hN] at HV HA HOK HT HFL hV2 hm2 ⊢
  clear hN hm3 hnm
  obtain ⟨z, hz⟩ : ∃ z, R.feas n x = z := ⟨_, rfl⟩
  rw [hz] at HT HFL ⊢
  clear hz
  subst hNm
  clear R
  have mk1 := make_ints N.V (by omega)
  have hb0 : Below w.heap.size w (w.alloc (.cells #[.int .i64 (N.V : Int), .slice a N.m ca] 25)) := (Below.refl _ _).alloc (Nat.le_refl _) _
  have HB0 := Lib.hid hb0
  have HC0 : Hid ((w.alloc (.cells #[.int .i64 (N.V : Int), .slice a N.m ca] 25)).cell? ⟨w.heap.size, 0, none⟩ = some (.int .i64 (N.V : Int)) ∧ (w.alloc (.cells #[.int .i64 (N.V : Int), .slice a N.m ca] 25)).cell? ⟨w.heap.size, 1, none⟩ = some (.slice a N.m ca)) := Lib.hid ⟨cell_mk _ _ _ rfl rfl, cell_mk _ _ _ rfl rfl⟩
  clear hb0
  go_enter Try.func18, Try.ntmps18
  go_wp2_with fail
  refine (HOK.out _ HB0.out).mono ?_
  rintro e w1 ⟨rfl, hb1⟩
  have HB1 := Lib.hid (HB0.out.trans (hb1.mono HB0.out.size))
  have hlt0 : w.heap.size < (w.alloc (.cells #[.int .i64 (N.V : Int), .slice a N.m ca] 25)).heap.size := by simp
  have c0 := (hb1.cell (p := ⟨w.heap.size, 0, none⟩) hlt0).trans HC0.out.1
  have c1 := (hb1.cell (p := ⟨w.heap.size, 1, none⟩) hlt0).trans HC0.out.2
  have hlt1 : w.heap.size < w1.heap.size := by have := hb1.size; omega
  clear hb1 hlt0 HB0 HC0
  go_wp2_with fail
  have HC : Hid (∀ W, Below w1.heap.size w1 W → W.cell? ⟨w.heap.size, 0, none⟩ = some (.int .i64 (N.V : Int)) ∧ W.cell? ⟨w.heap.size, 1, none⟩ = some (.slice a N.m ca) ∧ w.heap.size < W.heap.size) := Lib.hid (fun W hW => ⟨(hW.cell (p := ⟨w.heap.size, 0, none⟩) hlt1).trans c0, (hW.cell (p := ⟨w.heap.size, 1, none⟩) hlt1).trans c1, Nat.lt_of_lt_of_le hlt1 hW.size⟩)
  have h1 : F1 N w1.heap.size w1 (fun _ => 0) (w1.alloc (.cells (vrow N.V fun _ => .int .i64 0) 3)) := ⟨(Below.refl _ _).alloc (Nat.le_refl _) _, VRow.new _ _ _ _ rfl, Nat.le_refl _⟩
  have H1 := Lib.hid (h1.congr (x' := xg N x 0) (fun v _ => rfl))
  clear h1 c0 c1 hlt1
  generalize (w1.alloc (.cells (vrow N.V fun _ => .int .i64 0) 3)) = w3 at *
  generalize w1.heap.size = ge at H1 ⊢
  go_loopw [6] (fun v6 wr => ∃ i : Nat, i ≤ N.m ∧ v6 = .int .i64 i ∧ Hid (F1 N ge w1 (xg N x i) wr) ∧ Hid (∀ j, j < i → N.lo j ≤ x j ∧ x j ≤ N.up j)) (fun v _ => N.m - (intOf v).toNat)
  case atStart => exact ⟨0, by omega, rfl, H1, Lib.hid (fun j hj => absurd hj (by omega))⟩
  case round =>
    obtain ⟨i, hi, rfl, H2, HBD⟩ := hrel
    by_cases hlt : i < N.m
    · obtain ⟨b, off, rfl, hb, k0, k1, k2, k3, k4⟩ := HA.out.below (HB1.out.trans (H2.out.below.mono HB1.out.size)) i hlt
      obtain ⟨cn0, cn1, cnl⟩ := HC.out _ H2.out.below
      clear cn0
      obtain ⟨hfV, htV⟩ := HV.out.ok i hlt
      have hlo := HV.out.lo i hlt
      have hS1 := H2.out.more ((Below.refl _ _).alloc (Nat.le_refl _) (.cells #[.int .i64 (N.fr i : Int), .int .i64 (N.to i : Int), .int .i64 (N.lo i), .int .i64 (N.up i), .int .i64 (N.c i)] 46))
      have hAT : ArcAt (wr.alloc (.cells #[.int .i64 (N.fr i : Int), .int .i64 (N.to i : Int), .int .i64 (N.lo i), .int .i64 (N.up i), .int .i64 (N.c i)] 46)) wr.heap.size N i := ⟨cell_mk _ _ _ rfl rfl, cell_mk _ _ _ rfl rfl, cell_mk _ _ _ rfl rfl, cell_mk _ _ _ rfl rfl, cell_mk _ _ _ rfl rfl⟩
      have hga2 : ge ≠ wr.heap.size := by have := H2.out.x.lt; omega
      have Hq : Hid (F1 N ge w1 (xg N x i) (wr.alloc (.cells #[.int .i64 (N.fr i : Int), .int .i64 (N.to i : Int), .int .i64 (N.lo i), .int .i64 (N.up i), .int .i64 (N.c i)] 46)) ∧ ArcAt (wr.alloc (.cells #[.int .i64 (N.fr i : Int), .int .i64 (N.to i : Int), .int .i64 (N.lo i), .int .i64 (N.up i), .int .i64 (N.c i)] 46)) wr.heap.size N i) := Lib.hid ⟨hS1, hAT⟩
      clear hS1 hAT
      go_upto_region 8 with fail
      generalize (wr.alloc (.cells #[.int .i64 (N.fr i : Int), .int .i64 (N.to i : Int), .int .i64 (N.lo i), .int .i64 (N.up i), .int .i64 (N.c i)] 46)) = wB at *
      clear k0 k1 k2 k3 k4 H2 hb cn1 cnl
      generalize wr.heap.size = ga at *
      clear wr
      obtain ⟨bl, offl, rfl, hbl, p0⟩ := HX.out.below (HB1.out.trans (Hq.out.1.below.mono HB1.out.size)) i hlt
      obtain ⟨a0, a1, a2, a3, a4⟩ := Hq.out.2
      have hal := block_lt_of_cell a0
      by_cases c1 : x i < N.lo i
      · have HE := Lib.hid (HFL.out (fun hc => by have := hc.1 i hlt; omega))
        have HBQ := Lib.hid (HB1.out.trans (Hq.out.1.below.mono HB1.out.size))
        go_quiet (fail)
        go_wp2_with fail
        go_ret
        exact ⟨by rw [HE.out]; rfl, below_drewN HBQ.out _⟩
      · have d1 : decide (x i < N.lo i) = false := by simpa using c1
        by_cases c2 : N.up i < x i
        · have HE := Lib.hid (HFL.out (fun hc => by have := hc.1 i hlt; omega))
          have HBQ := Lib.hid (HB1.out.trans (Hq.out.1.below.mono HB1.out.size))
          go_quiet (fail)
          go_wp2_with fail
          go_ret
          exact ⟨by rw [HE.out]; rfl, below_drewN HBQ.out _⟩
        · have d2 : decide (N.up i < x i) = false := by simpa using c2
          have HBD2 : Hid (∀ j, j < i + 1 → N.lo j ≤ x j ∧ x j ≤ N.up j) := Lib.hid (fun j hj => by
            by_cases e : j = i
            · subst e; omega
            · exact HBD.out j (by omega))
          have hxl : 0 ≤ x i ∧ x i ≤ 1099511627776 := by omega
          have hxb := xg_bd HV.out hi HBD.out (N.fr i)
          have hxb2 : -2639927418290176 ≤ xgh N x i (N.to i) ∧ xgh N x i (N.to i) ≤ 2639927418290176 := by
            have h1 := xg_bd HV.out hi HBD.out (N.to i)
            have h2 : xgh N x i (N.to i) = xg N x i (N.to i) - (if N.fr i = N.to i then x i else 0) := rfl
            rw [h2]; split <;> omega
          go_quiet (fail)
          have Hr : Hid (F1 N ge w1 (xg N x i) (wB.drewN nq) ∧ ArcAt (wB.drewN nq) ga N i) := Lib.hid ⟨Hq.out.1.more (below_drewN (Below.refl _ _) _), Hq.out.2.kp (X := []) ((Kp.refl _ _).drewN nq) (by simp)⟩
          clear a0 a1 a2 a3 a4 hal p0 Hq d1 d2 c1 c2 hlo
          go_upto_region 10 with fail
          generalize (wB.drewN nq) = w4 at *
          obtain ⟨a0, a1, a2, a3, a4⟩ := Hr.out.2
          have hal := block_lt_of_cell a0
          have q1 := Hr.out.1.x.cell (N.fr i) hfV
          have q2 := Hr.out.1.x.frozen (N.fr i)
          have q3 := Hr.out.1.x.lt
          obtain ⟨b', off', e', hbl2, p0⟩ := HX.out.below (HB1.out.trans (Hr.out.1.below.mono HB1.out.size)) i hlt
          injection e' with e'
          injection e' with e1 e2
          subst e1 e2
          obtain ⟨xv, hxv⟩ : ∃ xv, xg N x i (N.fr i) = xv := ⟨_, rfl⟩
          obtain ⟨fv, hfv⟩ : ∃ fv, x i = fv := ⟨_, rfl⟩
          rw [hxv] at q1 hxb
          rw [hfv] at p0 hxl
          obtain ⟨xb1, xb2⟩ := hxb
          obtain ⟨fb1, fb2⟩ := hxl
          have HXV := Lib.hid hxv
          have HFV := Lib.hid hfv
          obtain ⟨yb1, yb2⟩ := hxb2
          clear hxv hfv
          go_cut [7] from 50 to 60 (fun v7 wx => v7 = .pointer (some ⟨ga, 0, none⟩) ∧ Hid (F1 N ge w1 (upd (xg N x i) (N.fr i) (xv - fv)) wx ∧ ArcAt wx ga N i))
          case first =>
            go_region
            all_goals
              go_wp2
              go_meet
              exact ⟨rfl, Lib.hid ⟨(Hr.out.1.put (N.fr i) (xv - fv)).more (Below.refl _ _).drew, Hr.out.2.kp (X := [ge]) (((Kp.refl _ _).setCell _ _ (.inl (by simp))).drew) (by simp; omega)⟩⟩
          case rest =>
            obtain ⟨rfl, Ht⟩ := hcut
            clear a0 a1 a2 a3 a4 hal q1 q2 q3 p0 Hr hbl2
            have Hu : Hid (F1 N ge w1 (xgh N x i) wc ∧ ArcAt wc ga N i) := Lib.hid ⟨Ht.out.1.congr (fun v _ => by rw [← HXV.out, ← HFV.out]; exact xgh_eq N x i v), Ht.out.2⟩
            clear Ht HXV xb1 xb2
            go_upto_region 11 with fail
            obtain ⟨a0, a1, a2, a3, a4⟩ := Hu.out.2
            have hal := block_lt_of_cell a0
            have q1 := Hu.out.1.x.cell (N.to i) htV
            have q2 := Hu.out.1.x.frozen (N.to i)
            have q3 := Hu.out.1.x.lt
            obtain ⟨b', off', e', hbl2, p0⟩ := HX.out.below (HB1.out.trans (Hu.out.1.below.mono HB1.out.size)) i hlt
            injection e' with e'
            injection e' with e1 e2
            subst e1 e2
            rw [HFV.out] at p0
            obtain ⟨xv, hxv⟩ : ∃ xv, xgh N x i (N.to i) = xv := ⟨_, rfl⟩
            rw [hxv] at q1 yb1 yb2
            have HXV := Lib.hid hxv
            clear hxv
            go_region
            all_goals
              go_wp2
              exact ⟨⟨i + 1, by omega, by go_num, Lib.hid (((Hu.out.1.put (N.to i) (xv + fv)).more (Below.refl _ _).drew).congr (fun v _ => by rw [← HXV.out, ← HFV.out]; exact xg_eq N x i v)), HBD2⟩, by simp [intOf]; omega⟩
    · obtain rfl : i = N.m := by omega
      have HB2 := Lib.hid (HB1.out.trans (H2.out.below.mono HB1.out.size))
      have HROW := Lib.hid H2.out.x
      obtain ⟨cn0, _, cnl⟩ := HC.out _ H2.out.below
      have HT2 : Hid ((∀ v, v < N.V → xg N x N.m v = 0) → z = true) := Lib.hid (fun hz => HT.out ⟨fun i hi => HBD.out i hi, hz⟩)
      have HF2 : Hid (∀ v, v < N.V → xg N x N.m v ≠ 0 → z = false) := Lib.hid (fun v hv hne => HFL.out (fun hc => hne (hc.2 v hv)))
      have q3 := H2.out.x.lt
      clear hi hlt H2 HT HFL HBD HC
      go_wp2_with fail
      go_loopw [8] (fun v8 wq => ∃ k : Nat, k ≤ N.V ∧ v8 = .int .i64 k ∧ Hid (∀ j, j < k → xg N x N.m j = 0) ∧ Hid (Below wr.heap.size wr wq)) (fun v _ => N.V - (intOf v).toNat)
      case atStart => exact ⟨0, by omega, rfl, Lib.hid (fun j hj => absurd hj (by omega)), Lib.hid (Below.refl _ _)⟩
      case round =>
        obtain ⟨k, hk, rfl, HP, HBQ⟩ := hrel
        have cn0 := (HBQ.out.cell (p := ⟨w.heap.size, 0, none⟩) cnl).trans cn0
        have cnl := block_lt_of_cell cn0
        have HRQ := Lib.hid (VRow.below HROW.out HBQ.out HROW.out.lt)
        have q3 := HRQ.out.lt
        have HB3 := Lib.hid (HB2.out.trans (HBQ.out.mono HB2.out.size))
        by_cases hlt : k < N.V
        · have q1 := HRQ.out.cell k hlt
          by_cases e : xg N x N.m k = 0
          · rw [e] at q1
            have HP2 : Hid (∀ j, j < k + 1 → xg N x N.m j = 0) := Lib.hid (fun j hj => by
              by_cases e2 : j = k
              · subst e2; exact e
              · exact HP.out j (by omega))
            clear e
            have d0 : ((0 : Int) != 0) = false := by simp
            go_wp2_with fail
            go_roundw
            case rel => exact ⟨k + 1, by omega, by go_num, HP2, HBQ⟩
            case measure => simp [intOf]; omega
          · have HE := Lib.hid (HF2.out k hlt e)
            have d0 : ((xg N x N.m k : Int) != 0) = true := by simpa using e
            clear e
            go_wp2_with fail
            go_ret
            exact ⟨by rw [HE.out]; rfl, HB3.out⟩
        · obtain rfl : k = N.V := by omega
          have HE := Lib.hid (HT2.out HP.out)
          go_wp2_with fail
          go_ret
          exact ⟨by rw [HE.out]; rfl, HB3.out⟩
end Go.Proofs.Ythoehobofdeifaa
