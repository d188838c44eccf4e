/-
  WALKS of circulation.Feasible and Cost. (Filled in from a template of this repo.)
-/
import Derived.Test.YthoehobofdeifaaCirS2
namespace Go.Proofs.Ythoehobofdeifaa
open Go.ChangeShapes Go.WideShapes Go.ChangeAt Go.RowKit
set_option linter.unusedVariables false

/-- what is too much, by the first k arcs of a flow -/
def xg (N : Nw) (f : Nat → Int) (k : Nat) (v : Nat) : Int := sm k fun i => (if N.to i = v then f i else 0) - (if N.fr i = v then f i else 0)
theorem xg_end (N : Nw) (f : Nat → Int) (v : Nat) : xg N f N.m v = N.exc f v := rfl
def xgh (N : Nw) (f : Nat → Int) (k : Nat) (v : Nat) : Int := xg N f k v - (if N.fr k = v then f k else 0)
theorem xgh_eq (N : Nw) (f : Nat → Int) (k v : Nat) : upd (xg N f k) (N.fr k) (xg N f k (N.fr k) - f k) v = xgh N f k v := by
  unfold xgh
  by_cases e : v = N.fr k
  · subst e; rw [upd_same, if_pos rfl]
  · rw [upd_other _ _ e, if_neg (fun h => e h.symm)]; omega
theorem xg_eq (N : Nw) (f : Nat → Int) (k v : Nat) : upd (xgh N f k) (N.to k) (xgh N f k (N.to k) + f k) v = xg N f (k + 1) v := by
  have e1 : xg N f (k + 1) v = xg N f k v + ((if N.to k = v then f k else 0) - (if N.fr k = v then f k else 0)) := rfl
  rw [e1]
  by_cases e : v = N.to k
  · subst e; rw [upd_same, if_pos rfl]; unfold xgh; omega
  · rw [upd_other _ _ e, if_neg (fun h => e h.symm)]; unfold xgh; omega
theorem xg_bd {N : Nw} (hv : N.valid) {f : Nat → Int} {k : Nat} (hk : k ≤ N.m) (hb : ∀ i, i < k → N.lo i ≤ f i ∧ f i ≤ N.up i) (v : Nat) : -2638827906662400 ≤ xg N f k v ∧ xg N f k v ≤ 2638827906662400 := by
  have h := sm_bound (n := k) (f := fun i => (if N.to i = v then f i else 0) - (if N.fr i = v then f i else 0)) (C := 1099511627776) (fun i hi => by
    have h1 := hb i hi
    have h2 := hv.lo i (by omega)
    show -1099511627776 ≤ (if N.to i = v then f i else 0) - (if N.fr i = v then f i else 0) ∧ (if N.to i = v then f i else 0) - (if N.fr i = v then f i else 0) ≤ 1099511627776
    split <;> split <;> omega)
  have hm : (k : Int) * 1099511627776 ≤ 2400 * 1099511627776 := Int.mul_le_mul_of_nonneg_right (by have := hv.m2; omega) (by omega)
  unfold xg
  omega
/-- is it a circulation? -/
noncomputable def Rw.feas (R : Rw) (n : Nat) (x : Nat → Int) : Bool := @decide (R.good ∧ n = R.m ∧ R.nw.circ x) (Classical.propDecidable _)
theorem Rw.feas_true {R : Rw} {n : Nat} {x : Nat → Int} (h : R.good ∧ n = R.m ∧ R.nw.circ x) : R.feas n x = true := by unfold Rw.feas; simp [h]
theorem Rw.feas_false {R : Rw} {n : Nat} {x : Nat → Int} (h : ¬ (R.good ∧ n = R.m ∧ R.nw.circ x)) : R.feas n x = false := by unfold Rw.feas; simp [h]
theorem Rw.feas_iff (R : Rw) (n : Nat) (x : Nat → Int) : R.feas n x = true ↔ (R.good ∧ n = R.m ∧ R.nw.circ x) := by unfold Rw.feas; simp
/-- the worlds of Feasible's loop -/
structure F1 (N : Nw) (ge : Nat) (w0 : World) (x : Nat → Int) (w : World) : Prop where
  below : Below w0.heap.size w0 w
  x : IRow w ge N.V x
  n : w0.heap.size ≤ ge
theorem F1.more {N : Nw} {ge : Nat} {w0 w w' : World} {x : Nat → Int} (h : F1 N ge w0 x w) (hb : Below w.heap.size w w') : F1 N ge w0 x w' := ⟨h.below.trans (hb.mono h.below.size), VRow.below h.x hb h.x.lt, h.n⟩
theorem F1.put {N : Nw} {ge : Nat} {w0 w : World} {x : Nat → Int} (h : F1 N ge w0 x w) (i : Nat) (v : Int) : F1 N ge w0 (upd x i v) (w.setCell ⟨ge, i, none⟩ (.int .i64 v)) :=
  ⟨h.below.setCell h.n _, IRow.set h.x i v (upd_same _ _ _) (fun j hj => upd_other _ _ hj), h.n⟩
theorem F1.congr {N : Nw} {ge : Nat} {w0 w : World} {x x' : Nat → Int} (h : F1 N ge w0 x w) (hx : ∀ v, v < N.V → x v = x' v) : F1 N ge w0 x' w := ⟨h.below, VRow.congr h.x _ (fun j hj => by rw [hx j hj]), h.n⟩
set_option maxRecDepth 100000 in
set_option maxHeartbeats 8000000 in
theorem Feasible_good (R : Rw) (hg : R.good) (a : Option Addr) (ca : Nat) (la : Option Addr) (n lc : Nat) (x : Nat → Int) (hnm : n = R.m) (w : World) (h : RA w a R.m R.A) (hx : Rd w la n x) :
    Calls Try.prog 17 #[R.nw.val a ca, .slice la n lc] w fun e w' => e = .returned (.bool (R.feas n x)) ∧ Below w.heap.size w w' := by
  have hv := Rw.valid hg
  have hA := RA.arcs hg h
  have hV2 := hv.V2
  have hm2 := hv.m2
  have HV := Lib.hid hv
  have HA := Lib.hid hA
  have HX := Lib.hid hx
  have HG := Lib.hid hg
  have HRA := Lib.hid h
  have hm3 : R.m ≤ 9223372036854775806 := by have := hg.1; omega
  have HOK : Hid (∀ w', Below w.heap.size w w' → Calls Try.prog 15 #[R.nw.val a ca] w' fun e w'' => e = .returned (.bool true) ∧ Below w'.heap.size w' w'') := Lib.hid (fun w' hb => by
    have := Valid_any R a ca hm3 w' (HRA.out.below hb)
    rw [Rw.val_eq HG.out, Rw.okB_true HG.out] at this
    exact this)
  have HT : Hid (R.nw.circ x → R.feas n x = true) := Lib.hid (fun hc => Rw.feas_true ⟨HG.out, hnm, hc⟩)
  have HFL : Hid (¬ R.nw.circ x → R.feas n x = false) := Lib.hid (fun hc => Rw.feas_false (fun h => hc h.2.2))
  clear hv hA h hx hg HRA HG
  obtain ⟨N, hN⟩ : ∃ N, R.nw = N := ⟨_, rfl⟩
  have hNm : n = N.m := by rw [hnm, ← hN]; rfl
  rw [hN] at HV HA HOK HT HFL hV2 hm2 ⊢
  clear hN hm3 hnm
  obtain ⟨z, hz⟩ : ∃ z, R.feas n x = z := ⟨_, rfl⟩
  rw [hz] at HT HFL ⊢
  clear hz
  subst hNm
  clear R
  have mk1 := make_ints N.V (by omega)
  have hb0 : Below w.heap.size w (w.alloc (.cells #[.int .i64 (N.V : Int), .slice a N.m ca] 25)) := (Below.refl _ _).alloc (Nat.le_refl _) _
  have HB0 := Lib.hid hb0
  have HC0 : Hid ((w.alloc (.cells #[.int .i64 (N.V : Int), .slice a N.m ca] 25)).cell? ⟨w.heap.size, 0, none⟩ = some (.int .i64 (N.V : Int)) ∧ (w.alloc (.cells #[.int .i64 (N.V : Int), .slice a N.m ca] 25)).cell? ⟨w.heap.size, 1, none⟩ = some (.slice a N.m ca)) := Lib.hid ⟨cell_mk _ _ _ rfl rfl, cell_mk _ _ _ rfl rfl⟩
  clear hb0
  go_enter Try.func17, Try.ntmps17
  go_wp2_with fail
  refine (HOK.out _ HB0.out).mono ?_
  rintro e w1 ⟨rfl, hb1⟩
  have HB1 := Lib.hid (HB0.out.trans (hb1.mono HB0.out.size))
  have hlt0 : w.heap.size < (w.alloc (.cells #[.int .i64 (N.V : Int), .slice a N.m ca] 25)).heap.size := by simp
  have c0 := (hb1.cell (p := ⟨w.heap.size, 0, none⟩) hlt0).trans HC0.out.1
  have c1 := (hb1.cell (p := ⟨w.heap.size, 1, none⟩) hlt0).trans HC0.out.2
  have hlt1 : w.heap.size < w1.heap.size := by have := hb1.size; omega
  clear hb1 hlt0 HB0 HC0
  go_wp2_with fail
  have h1 : F1 N w1.heap.size w (fun _ => 0) (w1.alloc (.cells (vrow N.V fun _ => .int .i64 0) 3)) := ⟨HB1.out.alloc HB1.out.size _, VRow.new _ _ _ _ rfl, by omega⟩
  have H1 := Lib.hid (h1.congr (x' := xg N x 0) (fun v _ => rfl))
  generalize (w1.alloc (.cells (vrow N.V fun _ => .int .i64 0) 3)) = w3 at *
  generalize w1.heap.size = ge at *
  clear h1 c0 c1
  go_loopw [25] (fun v25 wr => ∃ i : Nat, i ≤ N.m ∧ v25 = .int .i64 i ∧ Hid (F1 N ge w (xg N x i) wr) ∧ Hid (∀ j, j < i → N.lo j ≤ x j ∧ x j ≤ N.up j)) (fun v _ => N.m - (intOf v).toNat)
  case atStart => exact ⟨0, by omega, rfl, H1, Lib.hid (fun j hj => absurd hj (by omega))⟩
  case round =>
    obtain ⟨i, hi, rfl, H2, HBD⟩ := hrel
    by_cases hlt : i < N.m
    · obtain ⟨b, off, rfl, hb, k0, k1, k2, k3, k4⟩ := HA.out.below H2.out.below i hlt
      obtain ⟨hfV, htV⟩ := HV.out.ok i hlt
      have hlo := HV.out.lo i hlt
      have hS1 := H2.out.more ((Below.refl _ _).alloc (Nat.le_refl _) (.cells #[.int .i64 (N.fr i : Int), .int .i64 (N.to i : Int), .int .i64 (N.lo i), .int .i64 (N.up i), .int .i64 (N.c i)] 46))
      have hAT : ArcAt (wr.alloc (.cells #[.int .i64 (N.fr i : Int), .int .i64 (N.to i : Int), .int .i64 (N.lo i), .int .i64 (N.up i), .int .i64 (N.c i)] 46)) wr.heap.size N i := ⟨cell_mk _ _ _ rfl rfl, cell_mk _ _ _ rfl rfl, cell_mk _ _ _ rfl rfl, cell_mk _ _ _ rfl rfl, cell_mk _ _ _ rfl rfl⟩
      have hga2 : ge ≠ wr.heap.size := by have := H2.out.x.lt; omega
      have Hq : Hid (F1 N ge w (xg N x i) (wr.alloc (.cells #[.int .i64 (N.fr i : Int), .int .i64 (N.to i : Int), .int .i64 (N.lo i), .int .i64 (N.up i), .int .i64 (N.c i)] 46)) ∧ ArcAt (wr.alloc (.cells #[.int .i64 (N.fr i : Int), .int .i64 (N.to i : Int), .int .i64 (N.lo i), .int .i64 (N.up i), .int .i64 (N.c i)] 46)) wr.heap.size N i) := Lib.hid ⟨hS1, hAT⟩
      clear hS1 hAT
      go_upto_region 7 with fail
      generalize (wr.alloc (.cells #[.int .i64 (N.fr i : Int), .int .i64 (N.to i : Int), .int .i64 (N.lo i), .int .i64 (N.up i), .int .i64 (N.c i)] 46)) = wB at *
      clear k0 k1 k2 k3 k4 H2 hb
      generalize wr.heap.size = ga at *
      clear wr
      obtain ⟨bl, offl, rfl, hbl, p0⟩ := HX.out.below Hq.out.1.below i hlt
      obtain ⟨a0, a1, a2, a3, a4⟩ := Hq.out.2
      have hal := block_lt_of_cell a0
      by_cases c1 : x i < N.lo i
      · have HE := Lib.hid (HFL.out (fun hc => by have := hc.1 i hlt; omega))
        have HBQ := Lib.hid Hq.out.1.below
        go_quiet (fail)
        go_wp2_with fail
        go_ret
        exact ⟨by rw [HE.out]; rfl, below_drewN HBQ.out _⟩
      · have d1 : decide (x i < N.lo i) = false := by simpa using c1
        by_cases c2 : N.up i < x i
        · have HE := Lib.hid (HFL.out (fun hc => by have := hc.1 i hlt; omega))
          have HBQ := Lib.hid Hq.out.1.below
          go_quiet (fail)
          go_wp2_with fail
          go_ret
          exact ⟨by rw [HE.out]; rfl, below_drewN HBQ.out _⟩
        · have d2 : decide (N.up i < x i) = false := by simpa using c2
          have HBD2 : Hid (∀ j, j < i + 1 → N.lo j ≤ x j ∧ x j ≤ N.up j) := Lib.hid (fun j hj => by
            by_cases e : j = i
            · subst e; omega
            · exact HBD.out j (by omega))
          have hxl : 0 ≤ x i ∧ x i ≤ 1099511627776 := by omega
          have hxb := xg_bd HV.out hi HBD.out (N.fr i)
          have hxb2 : -2639927418290176 ≤ xgh N x i (N.to i) ∧ xgh N x i (N.to i) ≤ 2639927418290176 := by
            have h1 := xg_bd HV.out hi HBD.out (N.to i)
            have h2 : xgh N x i (N.to i) = xg N x i (N.to i) - (if N.fr i = N.to i then x i else 0) := rfl
            rw [h2]; split <;> omega
          go_quiet (fail)
          have Hr : Hid (F1 N ge w (xg N x i) (wB.drewN nq) ∧ ArcAt (wB.drewN nq) ga N i) := Lib.hid ⟨Hq.out.1.more (below_drewN (Below.refl _ _) _), Hq.out.2.kp (X := []) ((Kp.refl _ _).drewN nq) (by simp)⟩
          clear a0 a1 a2 a3 a4 hal p0 Hq d1 d2 c1 c2 hlo
          go_upto_region 9 with fail
          generalize (wB.drewN nq) = w4 at *
          obtain ⟨a0, a1, a2, a3, a4⟩ := Hr.out.2
          have hal := block_lt_of_cell a0
          have q1 := Hr.out.1.x.cell (N.fr i) hfV
          have q2 := Hr.out.1.x.frozen (N.fr i)
          have q3 := Hr.out.1.x.lt
          obtain ⟨b', off', e', hbl2, p0⟩ := HX.out.below Hr.out.1.below i hlt
          injection e' with e'
          injection e' with e1 e2
          subst e1 e2
          obtain ⟨xv, hxv⟩ : ∃ xv, xg N x i (N.fr i) = xv := ⟨_, rfl⟩
          obtain ⟨fv, hfv⟩ : ∃ fv, x i = fv := ⟨_, rfl⟩
          rw [hxv] at q1 hxb
          rw [hfv] at p0 hxl
          obtain ⟨xb1, xb2⟩ := hxb
          obtain ⟨fb1, fb2⟩ := hxl
          have HXV := Lib.hid hxv
          have HFV := Lib.hid hfv
          obtain ⟨yb1, yb2⟩ := hxb2
          clear hxv hfv
          go_cut [7] from 46 to 56 (fun v7 wx => v7 = .pointer (some ⟨ga, 0, none⟩) ∧ Hid (F1 N ge w (upd (xg N x i) (N.fr i) (xv - fv)) wx ∧ ArcAt wx ga N i))
          case first =>
            go_region
            all_goals
              go_wp2
              go_meet
              exact ⟨rfl, Lib.hid ⟨(Hr.out.1.put (N.fr i) (xv - fv)).more (Below.refl _ _).drew, Hr.out.2.kp (X := [ge]) (((Kp.refl _ _).setCell _ _ (.inl (by simp))).drew) (by simp; omega)⟩⟩
          case rest =>
            obtain ⟨rfl, Ht⟩ := hcut
            clear a0 a1 a2 a3 a4 hal q1 q2 q3 p0 Hr hbl2
            have Hu : Hid (F1 N ge w (xgh N x i) wc ∧ ArcAt wc ga N i) := Lib.hid ⟨Ht.out.1.congr (fun v _ => by rw [← HXV.out, ← HFV.out]; exact xgh_eq N x i v), Ht.out.2⟩
            clear Ht HXV xb1 xb2
            go_upto_region 10 with fail
            obtain ⟨a0, a1, a2, a3, a4⟩ := Hu.out.2
            have hal := block_lt_of_cell a0
            have q1 := Hu.out.1.x.cell (N.to i) htV
            have q2 := Hu.out.1.x.frozen (N.to i)
            have q3 := Hu.out.1.x.lt
            obtain ⟨b', off', e', hbl2, p0⟩ := HX.out.below Hu.out.1.below i hlt
            injection e' with e'
            injection e' with e1 e2
            subst e1 e2
            rw [HFV.out] at p0
            obtain ⟨xv, hxv⟩ : ∃ xv, xgh N x i (N.to i) = xv := ⟨_, rfl⟩
            rw [hxv] at q1 yb1 yb2
            have HXV := Lib.hid hxv
            clear hxv
            go_region
            all_goals
              go_wp2
              exact ⟨⟨i + 1, by omega, by go_num, Lib.hid (((Hu.out.1.put (N.to i) (xv + fv)).more (Below.refl _ _).drew).congr (fun v _ => by rw [← HXV.out, ← HFV.out]; exact xg_eq N x i v)), HBD2⟩, by simp [intOf]; omega⟩
    · obtain rfl : i = N.m := by omega
      have HZ : Hid (∀ z' : Bool, z' = !z → (z' = true ↔ ∃ j, j < N.V ∧ (xg N x N.m j != 0) = true)) := Lib.hid (fun z' hz' => by
        subst hz'
        constructor
        · intro e
          apply Classical.byContradiction
          intro hno
          have : z = true := HT.out ⟨fun i hi => HBD.out i hi, fun v hv => by
            apply Classical.byContradiction
            intro hne
            have hne2 : xg N x N.m v ≠ 0 := hne
            exact hno ⟨v, hv, by simpa using hne2⟩⟩
          rw [this] at e; cases e
        · rintro ⟨j, hj, e⟩
          have : z = false := HFL.out (fun hc => by
            have h1 : xg N x N.m j = 0 := hc.2 j hj
            rw [h1] at e; cases e)
          rw [this]; rfl)
      have HB2 := Lib.hid H2.out.below
      clear hi hlt
      go_wp2_with fail
      refine (Contains_nz _ rfl (some ⟨ge, 0, none⟩) N.V N.V (xg N x N.m) (by omega) _ (HZ.out _ rfl) _ (Rd.of_row H2.out.x)).mono ?_
      rintro e w5 ⟨rfl, rfl⟩
      go_wp2_with fail
      go_ret
      exact ⟨by simp, HB2.out⟩
end Go.Proofs.Ythoehobofdeifaa
