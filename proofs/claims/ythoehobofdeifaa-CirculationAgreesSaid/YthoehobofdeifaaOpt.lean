/-
  WALK of the closure of circulation.Optimal: does a step cost nothing less than nothing? (Filled in from a template of this repo.)
  WALK of circulation.residual with the closure of Optimal. (Filled in from a template of this repo; printed by mk_opr.py.)
  WALK of circulation.Optimal. (Filled in from a template of this repo.)
  WALK of the reference's Optimal. (Filled in from a template of this repo; printed by mk_rop.py.)
-/
import Derived.Test.YthoehobofdeifaaCirG
import Derived.Test.YthoehobofdeifaaRFeb
namespace Go.Proofs.Ythoehobofdeifaa
open Go.ChangeShapes Go.WideShapes Go.ChangeAt Go.RowKit
set_option linter.unusedVariables false
set_option linter.unusedSimpArgs false

/-! ### OpC -/

set_option maxRecDepth 100000 in
set_option maxHeartbeats 2000000 in
theorem opt_any (x y n cp gp : Nat) (c : Int) (ap : Option Addr) (p : Nat → Int) (hx : x < n) (hy : y < n) (hb : ∀ v, v < n → -1099511627776 ≤ p v ∧ p v ≤ 1099511627776) (hc : -1000 ≤ c ∧ c ≤ 1000) (hn : n ≤ 520) (w : World)
    (h0 : w.cell? ⟨gp, 0, none⟩ = some (.slice ap n cp)) (hp : Rd w ap n p) :
    Calls Try.prog 46 #[.int .i64 (x : Int), .int .i64 (y : Int), .int .i64 c, .pointer (some ⟨gp, 0, none⟩)] w fun e w' => e = .returned (.bool (decide (p y ≤ p x + c))) ∧ Below w.heap.size w w' := by
  obtain ⟨b, off, e1, hbl, cx⟩ := hp x hx
  obtain ⟨b', off', e2, _, cy⟩ := hp y hy
  rw [e1] at e2
  injection e2 with e2
  injection e2 with e2 e3
  subst e2 e3 e1
  obtain ⟨x1, x2⟩ := hb x hx
  have hgl := block_lt_of_cell h0
  obtain ⟨px, hpx⟩ : ∃ z, p x = z := ⟨_, rfl⟩
  obtain ⟨py, hpy⟩ : ∃ z, p y = z := ⟨_, rfl⟩
  rw [hpx] at cx x1 x2 ⊢
  rw [hpy] at cy ⊢
  have hw : IntKind.i64.wrap (px + c) = px + c := by rw [IntKind.wrap_i64]; omega
  clear hb hp hpx hpy
  go_enter Try.func46, Try.ntmps46
  go_wp2
  go_quiet (fail)
  go_wp2
  go_ret
  exact ⟨rfl, below_drewN (Below.refl _ _) _⟩

/-! ### OpR -/

set_option maxRecDepth 100000 in
set_option maxHeartbeats 8000000 in
theorem residual_op (N : Nw) (hv : N.valid) (a : Option Addr) (ca : Nat) (la : Option Addr) (lc : Nat) (f : Nat → Int) (gp cp : Nat) (ap : Option Addr) (p : Nat → Int) (hb : ∀ v, v < N.V → -1099511627776 ≤ p v ∧ p v ≤ 1099511627776) (z : Bool) (hz : z = true ↔ N.fits p f)
    (w : World) (hA : Arcs w a N) (hX : Rd w la N.m f) (h0 : w.cell? ⟨gp, 0, none⟩ = some (.slice ap N.V cp)) (hp : Rd w ap N.V p) :
    Calls Try.prog 42 #[N.val a ca, .slice la N.m lc, .func (.func 46) #[] #[.pointer (some ⟨gp, 0, none⟩)]] w fun e w' => e = .returned (.bool z) ∧ Below w.heap.size w w' := by
  have hb0 : Below w.heap.size w (w.alloc (.cells #[.int .i64 (N.V : Int), .slice a N.m ca] 25)) := (Below.refl _ _).alloc (Nat.le_refl _) _
  have n1 : (w.alloc (.cells #[.int .i64 (N.V : Int), .slice a N.m ca] 25)).cell? ⟨w.heap.size, 1, none⟩ = some (.slice a N.m ca) := cell_mk _ _ _ rfl rfl
  have hm2 := hv.m2
  have hgpl := block_lt_of_cell h0
  have HW : Hid (∀ W, Below w.heap.size w W → Arcs W a N ∧ Rd W la N.m f ∧ W.cell? ⟨gp, 0, none⟩ = some (.slice ap N.V cp) ∧ Rd W ap N.V p) := Lib.hid (fun W hW => ⟨hA.below hW, hX.below hW, (hW.cell (p := ⟨gp, 0, none⟩) hgpl).trans h0, hp.below hW⟩)
  have HV := Lib.hid hv
  have HB := Lib.hid hb
  have HB0 := Lib.hid hb0
  have HZ := Lib.hid hz
  clear hb0 hv hb hA hX h0 hp hgpl hz
  go_enter Try.func42, Try.ntmps42
  go_upto_region 1 with fail
  obtain ⟨w1, hw1⟩ : ∃ w1, w1 = (w.alloc (.cells #[.int .i64 (N.V : Int), .slice a N.m ca] 25)) := ⟨_, rfl⟩
  rw [← hw1] at HB0 n1 ⊢
  obtain ⟨gn, hgn⟩ : ∃ gn, w.heap.size = gn := ⟨_, rfl⟩
  have HGN := Lib.hid hgn
  rw [hgn] at n1 ⊢
  have nl := block_lt_of_cell n1
  clear hw1 hgn
  go_upto_region 2 with fail
  go_loopw [12] (fun v12 wr => ∃ k : Nat, k ≤ N.m ∧ v12 = .int .i64 k ∧ Hid (Below w.heap.size w wr) ∧ Hid (∀ i, i < k → (f i < N.up i → 0 ≤ N.price p i) ∧ (N.lo i < f i → N.price p i ≤ 0))) (fun v _ => N.m - (intOf v).toNat)
  case atStart => exact ⟨0, by omega, rfl, Lib.hid (by rw [HGN.out]; have := HB0.out; rwa [HGN.out] at this), Lib.hid (fun i hi => absurd hi (by omega))⟩
  case round =>
    obtain ⟨k, hk, rfl, HR, HF⟩ := hrel
    by_cases hlt : k < N.m
    · obtain ⟨hA, hX, h0, hp⟩ := HW.out _ HR.out
      obtain ⟨ba, oa, ea, hbl, q0, q1, q2, q3, q4⟩ := hA k hlt
      obtain ⟨bx, ox, ex, hbx, qx⟩ := hX k hlt
      have HOK := HV.out.ok k hlt
      have HCB := HV.out.c k hlt
      have HS1 : Hid (∀ W, Below wr.heap.size wr W → Calls Try.prog 46 #[.int .i64 (N.fr k : Int), .int .i64 (N.to k : Int), .int .i64 (N.c k), .pointer (some ⟨gp, 0, none⟩)] W fun e w' => e = .returned (.bool (decide (p (N.to k) ≤ p (N.fr k) + N.c k))) ∧ Below W.heap.size W w') := Lib.hid (fun W hW => by
        obtain ⟨_, _, h0, hp⟩ := HW.out _ (HR.out.trans (hW.mono HR.out.size))
        exact opt_any (N.fr k) (N.to k) N.V cp gp (N.c k) ap p HOK.1 HOK.2 HB.out HCB HV.out.V2 W h0 hp)
      have HS2 : Hid (∀ W, Below wr.heap.size wr W → Calls Try.prog 46 #[.int .i64 (N.to k : Int), .int .i64 (N.fr k : Int), .int .i64 (-(N.c k)), .pointer (some ⟨gp, 0, none⟩)] W fun e w' => e = .returned (.bool (decide (p (N.fr k) ≤ p (N.to k) + -(N.c k)))) ∧ Below W.heap.size W w') := Lib.hid (fun W hW => by
        obtain ⟨_, _, h0, hp⟩ := HW.out _ (HR.out.trans (hW.mono HR.out.size))
        exact opt_any (N.to k) (N.fr k) N.V cp gp (-(N.c k)) ap p HOK.2 HOK.1 HB.out (by omega) HV.out.V2 W h0 hp)
      have hwc : IntKind.i64.wrap (-(N.c k)) = -(N.c k) := by rw [IntKind.wrap_i64]; omega
      have HPR : Hid (N.price p k = N.c k + p (N.fr k) - p (N.to k)) := Lib.hid rfl
      have HAD : Hid ((f k < N.up k → 0 ≤ N.price p k) ∧ (N.lo k < f k → N.price p k ≤ 0) → ∀ i, i < k + 1 → (f i < N.up i → 0 ≤ N.price p i) ∧ (N.lo i < f i → N.price p i ≤ 0)) := Lib.hid (fun h i hi => by
        by_cases e : i = k
        · subst e; exact h
        · exact HF.out i (by omega))
      have HNO : Hid (¬ ((f k < N.up k → 0 ≤ N.price p k) ∧ (N.lo k < f k → N.price p k ≤ 0)) → z = false) := Lib.hid (fun h => by
        cases hz : z
        · rfl
        · exact absurd (HZ.out.1 hz k hlt) h)
      rw [HPR.out] at HAD HNO
      obtain ⟨fr, hfr⟩ : ∃ x, N.fr k = x := ⟨_, rfl⟩
      obtain ⟨to_, hto⟩ : ∃ x, N.to k = x := ⟨_, rfl⟩
      obtain ⟨lo, hlo⟩ : ∃ x, N.lo k = x := ⟨_, rfl⟩
      obtain ⟨up, hup⟩ : ∃ x, N.up k = x := ⟨_, rfl⟩
      obtain ⟨co, hco⟩ : ∃ x, N.c k = x := ⟨_, rfl⟩
      obtain ⟨fk, hfk⟩ : ∃ x, f k = x := ⟨_, rfl⟩
      rw [hfr, hto, hco] at HS1 HS2
      rw [hfk, hup, hlo, hfr, hto, hco] at HAD HNO
      rw [hfr] at q0
      rw [hto] at q1
      rw [hlo] at q2
      rw [hup] at q3
      rw [hco] at q4 hwc
      rw [hfk] at qx
      obtain ⟨z1, hz1⟩ : ∃ z, decide (p to_ ≤ p fr + co) = z := ⟨_, rfl⟩
      obtain ⟨z2, hz2⟩ : ∃ z, decide (p fr ≤ p to_ + -co) = z := ⟨_, rfl⟩
      rw [hz1] at HS1
      rw [hz2] at HS2
      have HZ1 : Hid (z1 = true ↔ 0 ≤ co + p fr - p to_) := Lib.hid (by rw [← hz1, decide_eq_true_iff]; omega)
      have HZ2 : Hid (z2 = true ↔ co + p fr - p to_ ≤ 0) := Lib.hid (by rw [← hz2, decide_eq_true_iff]; omega)
      clear hfr hto hlo hup hco hfk hz1 hz2 hA hX h0 hp HPR HOK HCB
      subst ea ex
      go_upto_region 4 with fail
      obtain ⟨wA, hwA⟩ : ∃ wA, wA = (wr.alloc (.cells #[.int .i64 (fr : Int), .int .i64 (to_ : Int), .int .i64 lo, .int .i64 up, .int .i64 co] 46)) := ⟨_, rfl⟩
      rw [← hwA]
      have hbA : Below wr.heap.size wr wA := by rw [hwA]; exact (Below.refl _ _).alloc (Nat.le_refl _) _
      have e0 : wA.cell? ⟨wr.heap.size, 0, none⟩ = some (.int .i64 (fr : Int)) := by rw [hwA]; exact cell_mk _ _ _ rfl rfl
      have e1 : wA.cell? ⟨wr.heap.size, 1, none⟩ = some (.int .i64 (to_ : Int)) := by rw [hwA]; exact cell_mk _ _ _ rfl rfl
      have e2 : wA.cell? ⟨wr.heap.size, 2, none⟩ = some (.int .i64 lo) := by rw [hwA]; exact cell_mk _ _ _ rfl rfl
      have e3 : wA.cell? ⟨wr.heap.size, 3, none⟩ = some (.int .i64 up) := by rw [hwA]; exact cell_mk _ _ _ rfl rfl
      have e4 : wA.cell? ⟨wr.heap.size, 4, none⟩ = some (.int .i64 co) := by rw [hwA]; exact cell_mk _ _ _ rfl rfl
      replace qx := (hbA.cell (p := ⟨bx, ox + k, none⟩) hbx).trans qx
      have HBA := Lib.hid hbA
      have HR1 := Lib.hid (HR.out.trans (hbA.mono HR.out.size))
      obtain ⟨gz, hgz⟩ : ∃ gz, wr.heap.size = gz := ⟨_, rfl⟩
      have HGZ := Lib.hid hgz
      rw [hgz] at e0 e1 e2 e3 e4 ⊢
      clear hwA hbA q0 q1 q2 q3 q4 hgz
      have g0 := fun x : Since wA => x.cell e0
      have g1 := fun x : Since wA => x.cell e1
      have g2 := fun x : Since wA => x.cell e2
      have g3 := fun x : Since wA => x.cell e3
      have g4 := fun x : Since wA => x.cell e4
      have g5 := fun x : Since wA => x.cell qx
      have HT1 : Hid (∀ W, Below wA.heap.size wA W → Calls Try.prog 46 #[.int .i64 (fr : Int), .int .i64 (to_ : Int), .int .i64 co, .pointer (some ⟨gp, 0, none⟩)] W fun e w' => e = .returned (.bool z1) ∧ Below W.heap.size W w') := Lib.hid (fun W hW => HS1.out W (HBA.out.trans (hW.mono HBA.out.size)))
      have HT2 : Hid (∀ W, Below wA.heap.size wA W → Calls Try.prog 46 #[.int .i64 (to_ : Int), .int .i64 (fr : Int), .int .i64 (-co), .pointer (some ⟨gp, 0, none⟩)] W fun e w' => e = .returned (.bool z2) ∧ Below W.heap.size W w') := Lib.hid (fun W hW => HS2.out W (HBA.out.trans (hW.mono HBA.out.size)))
      clear HS1 HS2 e0 e1 e2 e3 e4 qx HGZ HBA HR
      by_cases hA : fk < up
      · have dA : decide (fk < up) = true := by simpa using hA
        cases z1
        · have HNA := Lib.hid hA
          clear hA
          refine wp_region_below (by kernel_rfl) (by kernel_rfl) ?_
          repeat (go_big_quiet_step (first
            | (go_at_call 46; with_reducible exact calls_since _ (HT1.out _ (Since.property _)))
            | (go_at_call 46; with_reducible exact calls_since _ (HT2.out _ (Since.property _)))))
          refine wpQuiet_nil ?_
          intro W1 hb1
          clear g0 g1 g2 g3 g4 g5
          have HR2 := Lib.hid (HR1.out.trans (hb1.mono HR1.out.size))
          clear hb1
          have HN := Lib.hid (HNO.out (fun h => by have h1 := HZ1.out.2 (h.1 HNA.out); cases h1))
          clear HAD HNO
          go_wp2_with fail
          go_ret
          exact ⟨by rw [HN.out]; rfl, HR2.out⟩
        · by_cases hB : lo < fk
          · have dB : decide (lo < fk) = true := by simpa using hB
            cases z2
            · have HNB := Lib.hid hB
              clear hB
              refine wp_region_below (by kernel_rfl) (by kernel_rfl) ?_
              repeat (go_big_quiet_step (first
                | (go_at_call 46; with_reducible exact calls_since _ (HT1.out _ (Since.property _)))
                | (go_at_call 46; with_reducible exact calls_since _ (HT2.out _ (Since.property _)))))
              refine wpQuiet_nil ?_
              intro W1 hb1
              clear g0 g1 g2 g3 g4 g5
              have HR2 := Lib.hid (HR1.out.trans (hb1.mono HR1.out.size))
              clear hb1
              have HN := Lib.hid (HNO.out (fun h => by have h1 := HZ2.out.2 (h.2 HNB.out); cases h1))
              clear HAD HNO
              go_wp2_with fail
              go_ret
              exact ⟨by rw [HN.out]; rfl, HR2.out⟩
            · have HHH : Hid ((fk < up → 0 ≤ co + p fr - p to_) ∧ (lo < fk → co + p fr - p to_ ≤ 0)) := Lib.hid ⟨fun _ => HZ1.out.1 rfl, fun _ => HZ2.out.1 rfl⟩
              clear hB hA
              refine wp_region_below (by kernel_rfl) (by kernel_rfl) ?_
              repeat (go_big_quiet_step (first
                | (go_at_call 46; with_reducible exact calls_since _ (HT1.out _ (Since.property _)))
                | (go_at_call 46; with_reducible exact calls_since _ (HT2.out _ (Since.property _)))))
              refine wpQuiet_nil ?_
              intro W1 hb1
              clear g0 g1 g2 g3 g4 g5
              have HR2 := Lib.hid (HR1.out.trans (hb1.mono HR1.out.size))
              clear hb1
              have HN := Lib.hid (HAD.out (HHH.out))
              clear HAD HNO
              go_wp2_with fail
              go_roundw
              case rel => exact ⟨k + 1, by omega, by go_num, HR2, HN⟩
              case measure => simp [intOf]; omega
          · have dB : decide (lo < fk) = false := by simpa using hB
            have HHH : Hid ((fk < up → 0 ≤ co + p fr - p to_) ∧ (lo < fk → co + p fr - p to_ ≤ 0)) := Lib.hid ⟨fun _ => HZ1.out.1 rfl, fun h => absurd h hB⟩
            clear hB hA
            refine wp_region_below (by kernel_rfl) (by kernel_rfl) ?_
            repeat (go_big_quiet_step (first
              | (go_at_call 46; with_reducible exact calls_since _ (HT1.out _ (Since.property _)))
              | (go_at_call 46; with_reducible exact calls_since _ (HT2.out _ (Since.property _)))))
            refine wpQuiet_nil ?_
            intro W1 hb1
            clear g0 g1 g2 g3 g4 g5
            have HR2 := Lib.hid (HR1.out.trans (hb1.mono HR1.out.size))
            clear hb1
            have HN := Lib.hid (HAD.out (HHH.out))
            clear HAD HNO
            go_wp2_with fail
            go_roundw
            case rel => exact ⟨k + 1, by omega, by go_num, HR2, HN⟩
            case measure => simp [intOf]; omega
      · have dA : decide (fk < up) = false := by simpa using hA
        by_cases hB : lo < fk
        · have dB : decide (lo < fk) = true := by simpa using hB
          cases z2
          · have HNB := Lib.hid hB
            clear hB
            refine wp_region_below (by kernel_rfl) (by kernel_rfl) ?_
            repeat (go_big_quiet_step (first
              | (go_at_call 46; with_reducible exact calls_since _ (HT1.out _ (Since.property _)))
              | (go_at_call 46; with_reducible exact calls_since _ (HT2.out _ (Since.property _)))))
            refine wpQuiet_nil ?_
            intro W1 hb1
            clear g0 g1 g2 g3 g4 g5
            have HR2 := Lib.hid (HR1.out.trans (hb1.mono HR1.out.size))
            clear hb1
            have HN := Lib.hid (HNO.out (fun h => by have h1 := HZ2.out.2 (h.2 HNB.out); cases h1))
            clear HAD HNO
            go_wp2_with fail
            go_ret
            exact ⟨by rw [HN.out]; rfl, HR2.out⟩
          · have HHH : Hid ((fk < up → 0 ≤ co + p fr - p to_) ∧ (lo < fk → co + p fr - p to_ ≤ 0)) := Lib.hid ⟨fun h => absurd h hA, fun _ => HZ2.out.1 rfl⟩
            clear hB hA
            refine wp_region_below (by kernel_rfl) (by kernel_rfl) ?_
            repeat (go_big_quiet_step (first
              | (go_at_call 46; with_reducible exact calls_since _ (HT1.out _ (Since.property _)))
              | (go_at_call 46; with_reducible exact calls_since _ (HT2.out _ (Since.property _)))))
            refine wpQuiet_nil ?_
            intro W1 hb1
            clear g0 g1 g2 g3 g4 g5
            have HR2 := Lib.hid (HR1.out.trans (hb1.mono HR1.out.size))
            clear hb1
            have HN := Lib.hid (HAD.out (HHH.out))
            clear HAD HNO
            go_wp2_with fail
            go_roundw
            case rel => exact ⟨k + 1, by omega, by go_num, HR2, HN⟩
            case measure => simp [intOf]; omega
        · have dB : decide (lo < fk) = false := by simpa using hB
          have HHH : Hid ((fk < up → 0 ≤ co + p fr - p to_) ∧ (lo < fk → co + p fr - p to_ ≤ 0)) := Lib.hid ⟨fun h => absurd h hA, fun h => absurd h hB⟩
          clear hB hA
          refine wp_region_below (by kernel_rfl) (by kernel_rfl) ?_
          repeat (go_big_quiet_step (first
            | (go_at_call 46; with_reducible exact calls_since _ (HT1.out _ (Since.property _)))
            | (go_at_call 46; with_reducible exact calls_since _ (HT2.out _ (Since.property _)))))
          refine wpQuiet_nil ?_
          intro W1 hb1
          clear g0 g1 g2 g3 g4 g5
          have HR2 := Lib.hid (HR1.out.trans (hb1.mono HR1.out.size))
          clear hb1
          have HN := Lib.hid (HAD.out (HHH.out))
          clear HAD HNO
          go_wp2_with fail
          go_roundw
          case rel => exact ⟨k + 1, by omega, by go_num, HR2, HN⟩
          case measure => simp [intOf]; omega
    · obtain rfl : k = N.m := by omega
      go_wp2_with fail
      go_ret
      exact ⟨by rw [HZ.out.2 HF.out]; rfl, HR.out⟩

/-! ### OpI -/

/-- do these potentials prove that list? -/
def Rw.optP (R : Rw) (n : Nat) (x : Nat → Int) (k : Nat) (p : Nat → Int) : Prop := R.feas n x = true ∧ (k : Int) = R.V ∧ (∀ v, v < k → -1099511627776 ≤ p v ∧ p v ≤ 1099511627776) ∧ R.nw.fits p x
noncomputable def Rw.opt (R : Rw) (n : Nat) (x : Nat → Int) (k : Nat) (p : Nat → Int) : Bool := @decide (R.optP n x k p) (Classical.propDecidable _)
theorem Rw.opt_iff (R : Rw) (n : Nat) (x : Nat → Int) (k : Nat) (p : Nat → Int) : R.opt n x k p = true ↔ R.optP n x k p := by unfold Rw.opt; simp
theorem Rw.opt_false {R : Rw} {n : Nat} {x : Nat → Int} {k : Nat} {p : Nat → Int} (h : ¬ R.optP n x k p) : R.opt n x k p = false := by unfold Rw.opt; simp [h]
set_option maxRecDepth 100000 in
set_option maxHeartbeats 4000000 in
theorem Optimal_any (R : Rw) (a : Option Addr) (ca : Nat) (hm : R.m ≤ 9223372036854775806) (la : Option Addr) (n lc : Nat) (x : Nat → Int) (hn : n ≤ 9223372036854775806) (ap : Option Addr) (k cp : Nat) (p : Nat → Int) (hk : k ≤ 9223372036854775806) (w : World) (h : RA w a R.m R.A) (hx : Rd w la n x) (hp : Rd w ap k p) :
    Calls Try.prog 28 #[R.val a ca, .slice la n lc, .slice ap k cp] w fun e w' => e = .returned (.bool (R.opt n x k p)) ∧ Below w.heap.size w w' := by
  have HW : Hid (∀ W, W = ((w.alloc (.cells #[.int .i64 R.V, .slice a R.m ca] 25)).alloc (.cells #[.slice ap k cp] 26)) → Below w.heap.size w W ∧ W.cell? ⟨w.heap.size, 0, none⟩ = some (.int .i64 R.V) ∧ W.cell? ⟨w.heap.size, 1, none⟩ = some (.slice a R.m ca) ∧ W.cell? ⟨w.heap.size + 1, 0, none⟩ = some (.slice ap k cp)) := Lib.hid (fun W hW => by
    subst hW
    exact ⟨((Below.refl _ _).alloc (Nat.le_refl _) _).alloc (by simp) _, cell_ml _ (cell_mk _ _ _ rfl rfl), cell_ml _ (cell_mk _ _ _ rfl rfl), cell_mk _ _ _ (by simp) rfl⟩)
  have H := Lib.hid h
  have HX := Lib.hid hx
  have HP := Lib.hid hp
  clear h hx hp
  by_cases hf : R.feas n x = true
  · obtain ⟨hg, hnm, hci⟩ := (R.feas_iff n x).1 hf
    subst hnm
    have HF := Lib.hid hf
    have HA := Lib.hid (RA.arcs hg H.out)
    have HV := Lib.hid (Rw.valid hg)
    have HVI := Lib.hid (Rw.VI hg)
    have hV2 : R.nw.V ≤ 520 := HV.out.V2
    have hval : R.val a ca = R.nw.val a ca := Rw.val_eq hg a ca
    have HVAL := Lib.hid hval
    clear hf hg hci hval
    by_cases hkV : k = R.nw.V
    · have d0 : ((k : Int) != R.V) = false := by rw [HVI.out, hkV]; simp
      have HKV := Lib.hid hkV
      clear hkV
      by_cases hr : ∀ v, v < k → -1099511627776 ≤ p v ∧ p v ≤ 1099511627776
      · have HZ : Hid (false = true ↔ ∃ j, j < k ∧ (decide (p j < -1099511627776) || decide (1099511627776 < p j)) = true) := Lib.hid ⟨(fun h => by cases h), fun ⟨j, hj, e⟩ => by
          have := hr j hj
          simp at e; omega⟩
        have HO : Hid (R.opt R.m x k p = true ↔ R.nw.fits p x) := Lib.hid (by
          rw [R.opt_iff]
          exact ⟨fun h => h.2.2.2, fun h => ⟨HF.out, by rw [HVI.out, HKV.out], hr, h⟩⟩)
        have HR := Lib.hid hr
        clear hr
        have hmf : ∀ (fn : Fn) (first cap : Array Value) (w : World), (Instr.makeFunc fn first cap).run Try.prog w = .ok (.func fn first cap) w := fun _ _ _ _ => rfl
        go_enter Try.func28, Try.ntmps28
        go_upto_region 1 with fail
        obtain ⟨w1, hw1⟩ : ∃ w1, w1 = ((w.alloc (.cells #[.int .i64 R.V, .slice a R.m ca] 25)).alloc (.cells #[.slice ap k cp] 26)) := ⟨_, rfl⟩
        rw [← hw1]
        obtain ⟨hb1, c0, c1, c2⟩ := HW.out w1 hw1
        have HB1 := Lib.hid hb1
        have cl := block_lt_of_cell c0
        have cl2 := block_lt_of_cell c2
        obtain ⟨gn, hgn⟩ : ∃ gn, w.heap.size = gn := ⟨_, rfl⟩
        obtain ⟨gp, hgp⟩ : ∃ gp, w.heap.size + 1 = gp := ⟨_, rfl⟩
        rw [hgp] at c2 cl2
        rw [hgn] at c0 c1 cl
        rw [hgp]
        try rw [hgn]
        clear hw1 hb1 hgn hgp
        go_wp2_with fail
        refine (Feasible_any R a ca hm la R.m lc x hn _ (H.out.below HB1.out) (HX.out.below HB1.out)).mono ?_
        rintro e w2 ⟨rfl, hb2⟩
        rw [HF.out]
        replace c0 := (hb2.cell (p := ⟨gn, 0, none⟩) cl).trans c0
        replace c1 := (hb2.cell (p := ⟨gn, 1, none⟩) cl).trans c1
        replace c2 := (hb2.cell (p := ⟨gp, 0, none⟩) cl2).trans c2
        replace cl := block_lt_of_cell c0
        replace cl2 := block_lt_of_cell c2
        have HB2 := Lib.hid (HB1.out.trans (hb2.mono HB1.out.size))
        clear hb2
        go_wp2_with fail
        refine (Contains_far _ rfl ap k cp p hk false HZ.out _ (HP.out.below HB2.out)).mono ?_
        rintro e w3 ⟨rfl, rfl⟩
        go_wp2_with fail
        have hcall := residual_op R.nw HV.out a ca la lc x gp cp ap p (fun v hv => HR.out v (by rw [HKV.out]; exact hv)) (R.opt R.m x k p) HO.out w2 (HA.out.below HB2.out) (HX.out.below HB2.out) (by rw [← HKV.out]; exact c2) (by rw [← HKV.out]; exact HP.out.below HB2.out)
        rw [← HVAL.out] at hcall
        refine Calls.mono hcall ?_
        rintro e w4 ⟨rfl, hb4⟩
        have HB4 := Lib.hid (HB2.out.trans (hb4.mono HB2.out.size))
        clear hb4 hcall
        go_wp2_with fail
        go_ret
        exact ⟨rfl, HB4.out⟩
      · have HZ : Hid (∃ j, j < k ∧ (decide (p j < -1099511627776) || decide (1099511627776 < p j)) = true) := Lib.hid (by
          apply Classical.byContradiction
          intro hno
          refine hr (fun v hv => ?_)
          have h1 : ¬ ((decide (p v < -1099511627776) || decide (1099511627776 < p v)) = true) := fun e => hno ⟨v, hv, e⟩
          simp at h1; omega)
        have HO := Lib.hid (Rw.opt_false (R := R) (n := R.m) (x := x) (k := k) (p := p) (fun h => hr h.2.2.1))
        clear hr
        go_enter Try.func28, Try.ntmps28
        go_upto_region 1 with fail
        obtain ⟨w1, hw1⟩ : ∃ w1, w1 = ((w.alloc (.cells #[.int .i64 R.V, .slice a R.m ca] 25)).alloc (.cells #[.slice ap k cp] 26)) := ⟨_, rfl⟩
        rw [← hw1]
        obtain ⟨hb1, c0, c1, c2⟩ := HW.out w1 hw1
        have HB1 := Lib.hid hb1
        have cl := block_lt_of_cell c0
        have cl2 := block_lt_of_cell c2
        obtain ⟨gn, hgn⟩ : ∃ gn, w.heap.size = gn := ⟨_, rfl⟩
        obtain ⟨gp, hgp⟩ : ∃ gp, w.heap.size + 1 = gp := ⟨_, rfl⟩
        rw [hgp] at c2 cl2
        rw [hgn] at c0 c1 cl
        rw [hgp]
        try rw [hgn]
        clear hw1 hb1 hgn hgp
        go_wp2_with fail
        refine (Feasible_any R a ca hm la R.m lc x hn _ (H.out.below HB1.out) (HX.out.below HB1.out)).mono ?_
        rintro e w2 ⟨rfl, hb2⟩
        rw [HF.out]
        replace c0 := (hb2.cell (p := ⟨gn, 0, none⟩) cl).trans c0
        replace c1 := (hb2.cell (p := ⟨gn, 1, none⟩) cl).trans c1
        replace c2 := (hb2.cell (p := ⟨gp, 0, none⟩) cl2).trans c2
        replace cl := block_lt_of_cell c0
        replace cl2 := block_lt_of_cell c2
        have HB2 := Lib.hid (HB1.out.trans (hb2.mono HB1.out.size))
        clear hb2
        go_wp2_with fail
        refine (Contains_far _ rfl ap k cp p hk true ⟨fun _ => HZ.out, fun _ => rfl⟩ _ (HP.out.below HB2.out)).mono ?_
        rintro e w3 ⟨rfl, rfl⟩
        go_wp2_with fail
        go_ret
        exact ⟨by rw [HO.out]; rfl, HB2.out⟩
    · have d0 : ((k : Int) != R.V) = true := by rw [HVI.out]; simp; omega
      have HO := Lib.hid (Rw.opt_false (R := R) (n := R.m) (x := x) (k := k) (p := p) (fun h => hkV (by have := h.2.1; rw [HVI.out] at this; omega)))
      clear hkV
      go_enter Try.func28, Try.ntmps28
      go_upto_region 1 with fail
      obtain ⟨w1, hw1⟩ : ∃ w1, w1 = ((w.alloc (.cells #[.int .i64 R.V, .slice a R.m ca] 25)).alloc (.cells #[.slice ap k cp] 26)) := ⟨_, rfl⟩
      rw [← hw1]
      obtain ⟨hb1, c0, c1, c2⟩ := HW.out w1 hw1
      have HB1 := Lib.hid hb1
      have cl := block_lt_of_cell c0
      have cl2 := block_lt_of_cell c2
      obtain ⟨gn, hgn⟩ : ∃ gn, w.heap.size = gn := ⟨_, rfl⟩
      obtain ⟨gp, hgp⟩ : ∃ gp, w.heap.size + 1 = gp := ⟨_, rfl⟩
      rw [hgp] at c2 cl2
      rw [hgn] at c0 c1 cl
      rw [hgp]
      try rw [hgn]
      clear hw1 hb1 hgn hgp
      go_wp2_with fail
      refine (Feasible_any R a ca hm la R.m lc x hn _ (H.out.below HB1.out) (HX.out.below HB1.out)).mono ?_
      rintro e w2 ⟨rfl, hb2⟩
      rw [HF.out]
      replace c0 := (hb2.cell (p := ⟨gn, 0, none⟩) cl).trans c0
      replace c1 := (hb2.cell (p := ⟨gn, 1, none⟩) cl).trans c1
      replace c2 := (hb2.cell (p := ⟨gp, 0, none⟩) cl2).trans c2
      replace cl := block_lt_of_cell c0
      replace cl2 := block_lt_of_cell c2
      have HB2 := Lib.hid (HB1.out.trans (hb2.mono HB1.out.size))
      clear hb2
      go_wp2_with fail
      go_ret
      exact ⟨by rw [HO.out]; rfl, HB2.out⟩
  · have hf' : R.feas n x = false := by cases h : R.feas n x <;> simp_all
    have HF := Lib.hid hf'
    have HO := Lib.hid (Rw.opt_false (R := R) (n := n) (x := x) (k := k) (p := p) (fun h => hf h.1))
    clear hf hf'
    go_enter Try.func28, Try.ntmps28
    go_upto_region 1 with fail
    obtain ⟨w1, hw1⟩ : ∃ w1, w1 = ((w.alloc (.cells #[.int .i64 R.V, .slice a R.m ca] 25)).alloc (.cells #[.slice ap k cp] 26)) := ⟨_, rfl⟩
    rw [← hw1]
    obtain ⟨hb1, c0, c1, c2⟩ := HW.out w1 hw1
    have HB1 := Lib.hid hb1
    have cl := block_lt_of_cell c0
    clear hw1 hb1
    go_wp2_with fail
    refine (Feasible_any R a ca hm la n lc x hn _ (H.out.below HB1.out) (HX.out.below HB1.out)).mono ?_
    rintro e w2 ⟨rfl, hb2⟩
    rw [HF.out]
    have HB2 := Lib.hid (HB1.out.trans (hb2.mono HB1.out.size))
    clear hb2 c0 c1 c2 cl
    go_wp2_with fail
    go_ret
    exact ⟨by rw [HO.out]; rfl, HB2.out⟩

/-! ### ROp -/

set_option maxRecDepth 100000 in
set_option maxHeartbeats 8000000 in
theorem ROptimal_any (R : Rw) (a : Option Addr) (ca : Nat) (hm : R.m ≤ 9223372036854775806) (la : Option Addr) (n lc : Nat) (x : Nat → Int) (hn : n ≤ 9223372036854775806) (ap : Option Addr) (k cp : Nat) (p : Nat → Int) (hk : k ≤ 9223372036854775806) (w : World) (h : RA w a R.m R.A) (hx : Rd w la n x) (hp : Rd w ap k p) :
    Calls Try.prog 29 #[R.val a ca, .slice la n lc, .slice ap k cp] w fun e w' => e = .returned (.bool (R.opt n x k p)) ∧ Below w.heap.size w w' := by
  have HW : Hid (∀ W, W = (w.alloc (.cells #[.int .i64 R.V, .slice a R.m ca] 25)) → Below w.heap.size w W ∧ W.cell? ⟨w.heap.size, 0, none⟩ = some (.int .i64 R.V) ∧ W.cell? ⟨w.heap.size, 1, none⟩ = some (.slice a R.m ca)) := Lib.hid (fun W hW => by
    subst hW
    exact ⟨(Below.refl _ _).alloc (Nat.le_refl _) _, cell_mk _ _ _ rfl rfl, cell_mk _ _ _ rfl rfl⟩)
  have H := Lib.hid h
  have HX := Lib.hid hx
  have HP := Lib.hid hp
  clear h hx hp
  by_cases hf : R.feas n x = true
  · obtain ⟨hg, hnm, hci⟩ := (R.feas_iff n x).1 hf
    subst hnm
    have HF := Lib.hid hf
    have HA := Lib.hid (RA.arcs hg H.out)
    have HV := Lib.hid (Rw.valid hg)
    have HVI := Lib.hid (Rw.VI hg)
    have hV2 : R.nw.V ≤ 520 := HV.out.V2
    have hm2 : R.m ≤ 2400 := HV.out.m2
    clear hf hg hci
    by_cases hkV : k = R.nw.V
    · have HO : Hid (R.opt R.m x k p = true ↔ (∀ v, v < R.nw.V → -1099511627776 ≤ p v ∧ p v ≤ 1099511627776) ∧ R.nw.fits p x) := Lib.hid (by
        rw [R.opt_iff]
        exact ⟨fun h => ⟨fun v hv => h.2.2.1 v (by omega), h.2.2.2⟩, fun h => ⟨HF.out, by rw [HVI.out, hkV], fun v hv => h.1 v (by omega), h.2⟩⟩)
      subst hkV
      obtain ⟨zz, hzz⟩ : ∃ zz, R.opt R.m x R.nw.V p = zz := ⟨_, rfl⟩
      rw [hzz] at HO ⊢
      clear hzz
      have d0 : ((R.nw.V : Int) != (R.nw.V : Int)) = false := by simp
      go_enter Try.func29, Try.ntmps29
      go_upto_region 1 with fail
      obtain ⟨w1, hw1⟩ : ∃ w1, w1 = (w.alloc (.cells #[.int .i64 R.V, .slice a R.m ca] 25)) := ⟨_, rfl⟩
      rw [← hw1]
      obtain ⟨hb1, c0, c1⟩ := HW.out w1 hw1
      have HB1 := Lib.hid hb1
      have cl := block_lt_of_cell c0
      obtain ⟨gn, hgn⟩ : ∃ gn, w.heap.size = gn := ⟨_, rfl⟩
      have HGN := Lib.hid hgn
      rw [hgn] at c0 c1 cl ⊢
      clear hw1 hb1 hgn
      go_wp2_with fail
      refine (RFeasible_any R a ca hm la R.m lc x hn _ (H.out.below HB1.out) (HX.out.below HB1.out)).mono ?_
      rintro e w2 ⟨rfl, hb2⟩
      rw [HF.out]
      replace c0 := (hb2.cell (p := ⟨gn, 0, none⟩) cl).trans c0
      replace c1 := (hb2.cell (p := ⟨gn, 1, none⟩) cl).trans c1
      replace cl := block_lt_of_cell c0
      have HB2 := Lib.hid (HB1.out.trans (hb2.mono HB1.out.size))
      clear hb2
      rw [HVI.out] at c0
      obtain ⟨N, hN⟩ : ∃ N, R.nw = N := ⟨_, rfl⟩
      have hNm : N.m = R.m := by rw [← hN]; rfl
      rw [hN] at HA HV HO HP d0 hV2 c0 ⊢
      rw [← hNm] at HX c1 hm2 ⊢
      have HA2 := Lib.hid (HA.out.below HB2.out)
      have HX2 := Lib.hid (HX.out.below HB2.out)
      have HP2 := Lib.hid (HP.out.below HB2.out)
      clear hN hNm HVI HF HA HX HP H
      go_upto_region 4 with fail
      go_loopw [7] (fun v7 wr => ∃ v : Nat, v ≤ N.V ∧ v7 = .int .i64 v ∧ w2 = wr ∧ Hid (∀ u, u < v → -1099511627776 ≤ p u ∧ p u ≤ 1099511627776)) (fun v _ => N.V - (intOf v).toNat)
      case atStart => exact ⟨0, by omega, rfl, rfl, Lib.hid (fun u hu => absurd hu (by omega))⟩
      case round =>
        obtain ⟨v, hv, rfl, rfl, HR⟩ := hrel
        by_cases hlt : v < N.V
        · obtain ⟨b, off, rfl, hbl, c2⟩ := HP2.out v hlt
          obtain ⟨pv, hpv⟩ : ∃ z, p v = z := ⟨_, rfl⟩
          rw [hpv] at c2
          by_cases h1 : pv < -1099511627776
          · have d1 : decide (pv < -1099511627776) = true := by simpa using h1
            have HN : Hid (zz = false) := Lib.hid (by
              cases zz
              · rfl
              · have := (HO.out.1 rfl).1 v hlt; omega)
            clear hpv h1
            go_wp2_with fail
            go_ret
            exact ⟨by rw [HN.out]; rfl, HB2.out⟩
          · have d1 : decide (pv < -1099511627776) = false := by simpa using h1
            by_cases h2 : 1099511627776 < pv
            · have d2 : decide (1099511627776 < pv) = true := by simpa using h2
              have HN : Hid (zz = false) := Lib.hid (by
                cases zz
                · rfl
                · have := (HO.out.1 rfl).1 v hlt; omega)
              clear hpv h1 h2
              go_wp2_with fail
              go_ret
              exact ⟨by rw [HN.out]; rfl, HB2.out⟩
            · have d2 : decide (1099511627776 < pv) = false := by simpa using h2
              have HR2 : Hid (∀ u, u < v + 1 → -1099511627776 ≤ p u ∧ p u ≤ 1099511627776) := Lib.hid (fun u hu => by
                by_cases e : u = v
                · subst e; omega
                · exact HR.out u (by omega))
              clear hpv h1 h2
              go_wp2_with fail
              go_roundw
              case rel => exact ⟨v + 1, by omega, by go_num, by first | rfl | trivial, HR2⟩
              case measure => simp [intOf]; omega
        · obtain rfl : v = N.V := by omega
          have HBD := Lib.hid HR.out
          clear HR hlt hv
          go_upto_region 9 with fail
          go_loopw [8] (fun v8 wr => ∃ i : Nat, i ≤ N.m ∧ v8 = .int .i64 i ∧ Hid (Below w2.heap.size w2 wr) ∧ Hid (∀ j, j < i → (x j < N.up j → 0 ≤ N.price p j) ∧ (N.lo j < x j → N.price p j ≤ 0))) (fun v _ => N.m - (intOf v).toNat)
          case atStart => exact ⟨0, by omega, rfl, Lib.hid (Below.refl _ _), Lib.hid (fun i hi => absurd hi (by omega))⟩
          case round =>
            obtain ⟨i, hi, rfl, HR, HFI⟩ := hrel
            have r0 := (HR.out.cell (p := ⟨gn, 0, none⟩) cl).trans c0
            have r1 := (HR.out.cell (p := ⟨gn, 1, none⟩) cl).trans c1
            have rl := block_lt_of_cell r0
            by_cases hit : i < N.m
            · obtain ⟨ba, oa, ea, hbl, q0, q1, q2, q3, q4⟩ := HA2.out.below HR.out i hit
              obtain ⟨bx, ox, ex, hbx, qx⟩ := HX2.out.below HR.out i hit
              obtain ⟨HOK1, HOK2⟩ := HV.out.ok i hit
              have HCB := HV.out.c i hit
              obtain ⟨bp, op, ep, hbp, p0⟩ := HP2.out.below HR.out (N.fr i) HOK1
              obtain ⟨bp', op', ep', hbp2, p1⟩ := HP2.out.below HR.out (N.to i) HOK2
              rw [ep] at ep'
              injection ep' with e1
              injection e1 with e1 e2
              subst e1 e2
              have hb1 := HBD.out _ HOK1
              have hb2 := HBD.out _ HOK2
              have HPR : Hid (N.price p i = N.c i + p (N.fr i) - p (N.to i)) := Lib.hid rfl
              have HAD : Hid ((x i < N.up i → 0 ≤ N.price p i) ∧ (N.lo i < x i → N.price p i ≤ 0) → ∀ j, j < i + 1 → (x j < N.up j → 0 ≤ N.price p j) ∧ (N.lo j < x j → N.price p j ≤ 0)) := Lib.hid (fun h j hj => by
                by_cases e : j = i
                · subst e; exact h
                · exact HFI.out j (by omega))
              have HNO : Hid (¬ ((x i < N.up i → 0 ≤ N.price p i) ∧ (N.lo i < x i → N.price p i ≤ 0)) → zz = false) := Lib.hid (fun h => by
                cases zz
                · rfl
                · exact absurd ((HO.out.1 rfl).2 i hit) h)
              rw [HPR.out] at HAD HNO
              obtain ⟨fr, hfr⟩ : ∃ y, N.fr i = y := ⟨_, rfl⟩
              obtain ⟨to_, hto⟩ : ∃ y, N.to i = y := ⟨_, rfl⟩
              obtain ⟨lo, hlo⟩ : ∃ y, N.lo i = y := ⟨_, rfl⟩
              obtain ⟨up, hup⟩ : ∃ y, N.up i = y := ⟨_, rfl⟩
              obtain ⟨co, hco⟩ : ∃ y, N.c i = y := ⟨_, rfl⟩
              obtain ⟨fk, hfk⟩ : ∃ y, x i = y := ⟨_, rfl⟩
              rw [hfr] at q0 p0 hb1 HOK1
              rw [hto] at q1 p1 hb2 HOK2
              rw [hlo] at q2
              rw [hup] at q3
              rw [hco] at q4 HCB
              rw [hfk] at qx
              rw [hfk, hup, hlo, hfr, hto, hco] at HAD HNO
              obtain ⟨pf, hpf⟩ : ∃ y, p fr = y := ⟨_, rfl⟩
              obtain ⟨pt, hpt⟩ : ∃ y, p to_ = y := ⟨_, rfl⟩
              rw [hpf] at p0 hb1 HAD HNO
              rw [hpt] at p1 hb2 HAD HNO
              have hw1 : IntKind.i64.wrap (co + pf) = co + pf := by rw [IntKind.wrap_i64]; omega
              have hw2 : IntKind.i64.wrap (co + pf - pt) = co + pf - pt := by rw [IntKind.wrap_i64]; omega
              clear hfr hto hlo hup hco hfk HPR HCB hb1 hb2 hpf hpt
              subst ea ex ep
              go_upto_region 12 with fail
              obtain ⟨wA, hwA⟩ : ∃ wA, wA = (wr.alloc (.cells #[.int .i64 (fr : Int), .int .i64 (to_ : Int), .int .i64 lo, .int .i64 up, .int .i64 co] 46)) := ⟨_, rfl⟩
              rw [← hwA]
              have hbA : Below wr.heap.size wr wA := by rw [hwA]; exact (Below.refl _ _).alloc (Nat.le_refl _) _
              have e0 : wA.cell? ⟨wr.heap.size, 0, none⟩ = some (.int .i64 (fr : Int)) := by rw [hwA]; exact cell_mk _ _ _ rfl rfl
              have e1 : wA.cell? ⟨wr.heap.size, 1, none⟩ = some (.int .i64 (to_ : Int)) := by rw [hwA]; exact cell_mk _ _ _ rfl rfl
              have e2 : wA.cell? ⟨wr.heap.size, 2, none⟩ = some (.int .i64 lo) := by rw [hwA]; exact cell_mk _ _ _ rfl rfl
              have e3 : wA.cell? ⟨wr.heap.size, 3, none⟩ = some (.int .i64 up) := by rw [hwA]; exact cell_mk _ _ _ rfl rfl
              have e4 : wA.cell? ⟨wr.heap.size, 4, none⟩ = some (.int .i64 co) := by rw [hwA]; exact cell_mk _ _ _ rfl rfl
              replace qx := (hbA.cell (p := ⟨bx, ox + i, none⟩) hbx).trans qx
              replace p0 := (hbA.cell (p := ⟨bp, op + fr, none⟩) hbp).trans p0
              replace p1 := (hbA.cell (p := ⟨bp, op + to_, none⟩) hbp).trans p1
              have HR1 := Lib.hid (HR.out.trans (hbA.mono HR.out.size))
              obtain ⟨gz, hgz⟩ : ∃ gz, wr.heap.size = gz := ⟨_, rfl⟩
              rw [hgz] at e0 e1 e2 e3 e4 ⊢
              have ez := block_lt_of_cell e0
              have hbxA := block_lt_of_cell qx
              clear hwA hbA q0 q1 q2 q3 q4 hgz r0 r1 rl hbl hbx hbp hbp2 HR
              clear wr
              refine wp_region_below (by kernel_rfl) (by kernel_rfl) ?_
              have g0 := fun y : Since wA => y.cell e0
              have g1 := fun y : Since wA => y.cell e1
              have g4 := fun y : Since wA => y.cell e4
              have g5 := fun y : Since wA => y.cell p0
              have g6 := fun y : Since wA => y.cell p1
              repeat (go_big_quiet_step (fail))
              refine wpQuiet_nil ?_
              intro wB hbB
              clear g0 g1 g4 g5 g6
              replace e2 := (hbB.cell (p := ⟨gz, 2, none⟩) ez).trans e2
              replace e3 := (hbB.cell (p := ⟨gz, 3, none⟩) ez).trans e3
              replace qx := (hbB.cell (p := ⟨bx, ox + i, none⟩) hbxA).trans qx
              have HR2 := Lib.hid (HR1.out.trans (hbB.mono HR1.out.size))
              clear hbB HR1 e0 e1 e4 p0 p1 ez hbxA hw1 hw2
              obtain ⟨r, hr⟩ : ∃ r, co + pf - pt = r := ⟨_, rfl⟩
              rw [hr] at HAD HNO ⊢
              clear hr
              clear wA
              have g2 := fun y : Since wB => y.cell e2
              have g3 := fun y : Since wB => y.cell e3
              have g5 := fun y : Since wB => y.cell qx
              by_cases hA : fk < up
              · have dA : decide (fk < up) = true := by simpa using hA
                by_cases hr : r < 0
                · have dr : decide (r < 0) = true := by simpa using hr
                  have HNA : Hid (fk < up ∧ r < 0) := Lib.hid ⟨hA, hr⟩
                  clear hA hr
                  go_upto_region 13 with fail
                  refine wp_region_below (by kernel_rfl) (by kernel_rfl) ?_
                  repeat (go_big_quiet_step (fail))
                  refine wpQuiet_nil ?_
                  intro W1 hb1
                  clear g2 g3 g5
                  have HR3 := Lib.hid (HR2.out.trans (hb1.mono HR2.out.size))
                  clear hb1
                  have HN := Lib.hid (HNO.out (fun h => by have h1 := h.1 HNA.out.1; have := HNA.out.2; omega))
                  clear HAD HNO
                  go_wp2_with fail
                  go_ret
                  exact ⟨by rw [HN.out]; rfl, HB2.out.trans (HR3.out.mono HB2.out.size)⟩
                · have dr : decide (r < 0) = false := by simpa using hr
                  by_cases hB : lo < fk
                  · have dB : decide (lo < fk) = true := by simpa using hB
                    by_cases hs : 0 < r
                    · have ds : decide (0 < r) = true := by simpa using hs
                      have HNB : Hid (lo < fk ∧ 0 < r) := Lib.hid ⟨hB, hs⟩
                      clear hB hs
                      go_upto_region 13 with fail
                      refine wp_region_below (by kernel_rfl) (by kernel_rfl) ?_
                      repeat (go_big_quiet_step (fail))
                      refine wpQuiet_nil ?_
                      intro W1 hb1
                      clear g2 g3 g5
                      have HR3 := Lib.hid (HR2.out.trans (hb1.mono HR2.out.size))
                      clear hb1
                      have HN := Lib.hid (HNO.out (fun h => by have h1 := h.2 HNB.out.1; have := HNB.out.2; omega))
                      clear HAD HNO
                      go_wp2_with fail
                      go_ret
                      exact ⟨by rw [HN.out]; rfl, HB2.out.trans (HR3.out.mono HB2.out.size)⟩
                    · have ds : decide (0 < r) = false := by simpa using hs
                      have HHH : Hid ((fk < up → 0 ≤ r) ∧ (lo < fk → r ≤ 0)) := Lib.hid ⟨fun _ => by omega, fun _ => by omega⟩
                      clear hB hA hs
                      go_upto_region 13 with fail
                      refine wp_region_below (by kernel_rfl) (by kernel_rfl) ?_
                      repeat (go_big_quiet_step (fail))
                      refine wpQuiet_nil ?_
                      intro W1 hb1
                      clear g2 g3 g5
                      have HR3 := Lib.hid (HR2.out.trans (hb1.mono HR2.out.size))
                      clear hb1
                      have HN := Lib.hid (HAD.out (HHH.out))
                      clear HAD HNO
                      go_wp2_with fail
                      go_roundw
                      case rel => exact ⟨i + 1, by omega, by go_num, HR3, HN⟩
                      case measure => simp [intOf]; omega
                  · have dB : decide (lo < fk) = false := by simpa using hB
                    have HHH : Hid ((fk < up → 0 ≤ r) ∧ (lo < fk → r ≤ 0)) := Lib.hid ⟨fun _ => by omega, fun h => absurd h hB⟩
                    clear hB hA
                    go_upto_region 13 with fail
                    refine wp_region_below (by kernel_rfl) (by kernel_rfl) ?_
                    repeat (go_big_quiet_step (fail))
                    refine wpQuiet_nil ?_
                    intro W1 hb1
                    clear g2 g3 g5
                    have HR3 := Lib.hid (HR2.out.trans (hb1.mono HR2.out.size))
                    clear hb1
                    have HN := Lib.hid (HAD.out (HHH.out))
                    clear HAD HNO
                    go_wp2_with fail
                    go_roundw
                    case rel => exact ⟨i + 1, by omega, by go_num, HR3, HN⟩
                    case measure => simp [intOf]; omega
              · have dA : decide (fk < up) = false := by simpa using hA
                by_cases hB : lo < fk
                · have dB : decide (lo < fk) = true := by simpa using hB
                  by_cases hs : 0 < r
                  · have ds : decide (0 < r) = true := by simpa using hs
                    have HNB : Hid (lo < fk ∧ 0 < r) := Lib.hid ⟨hB, hs⟩
                    clear hB hs
                    go_upto_region 13 with fail
                    refine wp_region_below (by kernel_rfl) (by kernel_rfl) ?_
                    repeat (go_big_quiet_step (fail))
                    refine wpQuiet_nil ?_
                    intro W1 hb1
                    clear g2 g3 g5
                    have HR3 := Lib.hid (HR2.out.trans (hb1.mono HR2.out.size))
                    clear hb1
                    have HN := Lib.hid (HNO.out (fun h => by have h1 := h.2 HNB.out.1; have := HNB.out.2; omega))
                    clear HAD HNO
                    go_wp2_with fail
                    go_ret
                    exact ⟨by rw [HN.out]; rfl, HB2.out.trans (HR3.out.mono HB2.out.size)⟩
                  · have ds : decide (0 < r) = false := by simpa using hs
                    have HHH : Hid ((fk < up → 0 ≤ r) ∧ (lo < fk → r ≤ 0)) := Lib.hid ⟨fun h => absurd h hA, fun _ => by omega⟩
                    clear hB hA hs
                    go_upto_region 13 with fail
                    refine wp_region_below (by kernel_rfl) (by kernel_rfl) ?_
                    repeat (go_big_quiet_step (fail))
                    refine wpQuiet_nil ?_
                    intro W1 hb1
                    clear g2 g3 g5
                    have HR3 := Lib.hid (HR2.out.trans (hb1.mono HR2.out.size))
                    clear hb1
                    have HN := Lib.hid (HAD.out (HHH.out))
                    clear HAD HNO
                    go_wp2_with fail
                    go_roundw
                    case rel => exact ⟨i + 1, by omega, by go_num, HR3, HN⟩
                    case measure => simp [intOf]; omega
                · have dB : decide (lo < fk) = false := by simpa using hB
                  have HHH : Hid ((fk < up → 0 ≤ r) ∧ (lo < fk → r ≤ 0)) := Lib.hid ⟨fun h => absurd h hA, fun h => absurd h hB⟩
                  clear hB hA
                  go_upto_region 13 with fail
                  refine wp_region_below (by kernel_rfl) (by kernel_rfl) ?_
                  repeat (go_big_quiet_step (fail))
                  refine wpQuiet_nil ?_
                  intro W1 hb1
                  clear g2 g3 g5
                  have HR3 := Lib.hid (HR2.out.trans (hb1.mono HR2.out.size))
                  clear hb1
                  have HN := Lib.hid (HAD.out (HHH.out))
                  clear HAD HNO
                  go_wp2_with fail
                  go_roundw
                  case rel => exact ⟨i + 1, by omega, by go_num, HR3, HN⟩
                  case measure => simp [intOf]; omega
            · obtain rfl : i = N.m := by omega
              have HE := Lib.hid (HO.out.2 ⟨HBD.out, HFI.out⟩)
              have HR3 := Lib.hid (HB2.out.trans (HR.out.mono HB2.out.size))
              go_wp2_with fail
              go_ret
              exact ⟨by rw [HE.out]; rfl, HR3.out⟩
    · have d0 : ((k : Int) != R.V) = true := by rw [HVI.out]; simp; omega
      have HO := Lib.hid (Rw.opt_false (R := R) (n := R.m) (x := x) (k := k) (p := p) (fun h => hkV (by have := h.2.1; rw [HVI.out] at this; omega)))
      clear hkV
      go_enter Try.func29, Try.ntmps29
      go_upto_region 1 with fail
      obtain ⟨w1, hw1⟩ : ∃ w1, w1 = (w.alloc (.cells #[.int .i64 R.V, .slice a R.m ca] 25)) := ⟨_, rfl⟩
      rw [← hw1]
      obtain ⟨hb1, c0, c1⟩ := HW.out w1 hw1
      have HB1 := Lib.hid hb1
      have cl := block_lt_of_cell c0
      obtain ⟨gn, hgn⟩ : ∃ gn, w.heap.size = gn := ⟨_, rfl⟩
      rw [hgn] at c0 c1 cl ⊢
      clear hw1 hb1 hgn
      go_wp2_with fail
      refine (RFeasible_any R a ca hm la R.m lc x hn _ (H.out.below HB1.out) (HX.out.below HB1.out)).mono ?_
      rintro e w2 ⟨rfl, hb2⟩
      rw [HF.out]
      replace c0 := (hb2.cell (p := ⟨gn, 0, none⟩) cl).trans c0
      replace cl := block_lt_of_cell c0
      have HB2 := Lib.hid (HB1.out.trans (hb2.mono HB1.out.size))
      clear hb2 c1
      go_wp2_with fail
      go_ret
      exact ⟨by rw [HO.out]; rfl, HB2.out⟩
  · have hf' : R.feas n x = false := by cases h : R.feas n x <;> simp_all
    have HF := Lib.hid hf'
    have HO := Lib.hid (Rw.opt_false (R := R) (n := n) (x := x) (k := k) (p := p) (fun h => hf h.1))
    clear hf hf'
    go_enter Try.func29, Try.ntmps29
    go_upto_region 1 with fail
    obtain ⟨w1, hw1⟩ : ∃ w1, w1 = (w.alloc (.cells #[.int .i64 R.V, .slice a R.m ca] 25)) := ⟨_, rfl⟩
    rw [← hw1]
    obtain ⟨hb1, c0, c1⟩ := HW.out w1 hw1
    have HB1 := Lib.hid hb1
    have cl := block_lt_of_cell c0
    clear hw1 hb1
    go_wp2_with fail
    refine (RFeasible_any R a ca hm la n lc x hn _ (H.out.below HB1.out) (HX.out.below HB1.out)).mono ?_
    rintro e w2 ⟨rfl, hb2⟩
    rw [HF.out]
    have HB2 := Lib.hid (HB1.out.trans (hb2.mono HB1.out.size))
    clear hb2 c0 c1 cl
    go_wp2_with fail
    go_ret
    exact ⟨by rw [HO.out]; rfl, HB2.out⟩
end Go.Proofs.Ythoehobofdeifaa
