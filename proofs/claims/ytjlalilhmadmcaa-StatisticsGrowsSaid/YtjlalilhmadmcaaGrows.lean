/-
  What is proved: for every codes, n and k the law StatisticsGrows of chapter 43 (statistics) returns true: what is significant stays so with more, with a greater level, and when one more pair is worse; and thresholds are the least significant numbers. No conditions.
-/
import Derived.Test.YtjlalilhmadmcaaThr
namespace Go.Proofs.Ytjlalilhmadmcaa.statisticsGrows
open Go.ChangeShapes Go.WideShapes Go.ChangeAt Go.RowKit
set_option linter.unusedVariables false

theorem own : ownKnob Try.prog.godebug = none := by kernel_rfl
theorem laidOut : laidOutB Try.prog = true := by kernel_rfl

set_option maxRecDepth 100000 in
set_option maxHeartbeats 2000000 in
theorem walk (a0 : Option Addr) (len0 cap0 : Nat) (z0 : List Int) (a1 a2 : Int) (w : World) (w0 : InInts .u8 w a0 len0 cap0 z0) (w1 : (Lit.int .u8 a1).wf = true) (w2 : (Lit.int .u8 a2).wf = true) :
    Calls Try.prog 4 #[.slice a0 len0 cap0, .int .u8 a1, .int .u8 a2] w fun e w' => e = .returned (.bool true) ∧ Below w.heap.size w w' := by
  obtain ⟨b10, b11⟩ := bounds_u8 w1
  obtain ⟨b20, b21⟩ := bounds_u8 w2
  clear w1 w2
  have HI := Lib.hid w0
  clear w0
  obtain ⟨m, hm⟩ : ∃ m : Int, a1 % 60 = m := ⟨_, rfl⟩
  have m0 : 0 ≤ m := by omega
  have m1 : m < 60 := by omega
  obtain ⟨j, hj⟩ : ∃ j : Int, a2 % (m + 1) = j := ⟨_, rfl⟩
  have j0 : 0 ≤ j := by rw [← hj]; exact Int.emod_nonneg _ (by omega)
  have j1 : j < m + 1 := by rw [← hj]; exact Int.emod_lt_of_pos _ (by omega)
  go_enter Try.func4, Try.ntmps4
  go_wp2_with (go_at_call 10; refine (awake_any _).mono ?_; rintro e w1 ⟨rfl, hb1⟩)
  refine (New_any a0 len0 cap0 z0 20 (by omega) (by omega) _ ?hi).mono ?_
  case hi => exact HI.out.below hb1
  rintro e w2 ⟨g, rfl, hg, hcod, hb2⟩
  have hbw2 := hb1.trans (hb2.mono hb1.size)
  have hglt := hcod.lt
  go_wp2_with fail
  refine (level_any g _ hcod).mono ?_
  rintro e w3 ⟨num, den, rfl, d1, d2, n0, n1, hcod3, hg3⟩
  have hbw3 : Below w.heap.size w w3 := below_grown1 hbw2 hg3 hbw2.size (by have := hb1.size; omega)
  clear hcod hcod3 hg3 hb1 hb2 hbw2 HI
  have hX := sig_thr m.toNat num.toNat den.toNat j.toNat (by omega)
  have hu := thr_up m.toNat num.toNat den.toNat
  have ht := thrOf_le m.toNat num.toNat den.toNat
  obtain ⟨t, hT⟩ : ∃ t : Nat, thrOf m.toNat num.toNat den.toNat = t := ⟨_, rfl⟩
  obtain ⟨u, hU⟩ : ∃ u : Nat, thrOf (m + 1).toNat num.toNat den.toNat = u := ⟨_, rfl⟩
  rw [show m.toNat + 1 = (m + 1).toNat by omega] at hu
  rw [hT] at hX hu ht
  rw [hU] at hu
  obtain ⟨u0, u1⟩ := hu
  have HT := Lib.hid hT
  have HU := Lib.hid hU
  clear hT hU
  by_cases htj : (t : Int) ≤ j
  · have hX' : sig m.toNat j.toNat num.toNat den.toNat = true := by rw [hX]; simp; omega
    have hY' : sig m.toNat (j + 1).toNat num.toNat den.toNat = true := by rw [show (j + 1).toNat = j.toNat + 1 by omega]; exact sig_mono _ _ _ _ hX'
    have hZ' : sig (m + 1).toNat (j + 1).toNat num.toNat den.toNat = true := by rw [show (j + 1).toNat = j.toNat + 1 by omega, show (m + 1).toNat = m.toNat + 1 by omega]; exact sig_more _ _ _ _ hX'
    have hW' : ∀ n' : Int, num ≤ n' → sig m.toNat j.toNat n'.toNat den.toNat = true := fun n' h => sig_level _ _ _ _ _ (by omega) hX'
    have HX := Lib.hid hX'
    have HY := Lib.hid hY'
    have HZ := Lib.hid hZ'
    have HW := Lib.hid hW'
    clear hX hX' hY' hZ' hW'
    go_wp2_with fail
    refine (Significant_yes m (by omega) (by omega) j (by omega) (by omega) num den (by omega) (by omega) (by omega) (by omega) _).mono ?_
    rw [HX.out]
    rintro e w4 ⟨rfl, hb4⟩
    have k4 := (bcell hb4).1
    have z4 : w3.heap.size < w4.heap.size := by have := hb4.size; simp at this; omega
    go_wp2_with fail
    refine (Significant_yes m (by omega) (by omega) (j + 1) (by omega) (by omega) num den (by omega) (by omega) (by omega) (by omega) _).mono ?_
    rw [HY.out]
    rintro e w5 ⟨rfl, hb5⟩
    have k5 := (bcell hb5).1
    have z5 : w3.heap.size < w5.heap.size := by have := hb5.size; omega
    go_wp2_with fail
    refine (Significant_yes (m + 1) (by omega) (by omega) (j + 1) (by omega) (by omega) num den (by omega) (by omega) (by omega) (by omega) _).mono ?_
    rw [HZ.out]
    rintro e w6 ⟨rfl, hb6⟩
    have k6 := (bcell hb6).1
    have z6 : w3.heap.size < w6.heap.size := by have := hb6.size; omega
    go_wp2_with fail
    all_goals
      refine (Significant_yes m (by omega) (by omega) j (by omega) (by omega) _ den (by omega) (by omega) (by omega) (by omega) _).mono ?_
      rw [HW.out _ (by omega)]
      rintro e w7 ⟨rfl, hb7⟩
      have k7 := (bcell hb7).1
      have z7 : w3.heap.size < w7.heap.size := by have := hb7.size; omega
      go_wp2_with fail
      refine (Threshold_yes m (by omega) (by omega) num den (by omega) (by omega) (by omega) (by omega) _).mono ?_
      rw [HT.out]
      rintro e w8 ⟨rfl, hb8⟩
      have k8 := (bcell hb8).1
      have z8 : w3.heap.size < w8.heap.size := by have := hb8.size; omega
      go_wp2_with fail
      refine (Threshold_yes (m + 1) (by omega) (by omega) num den (by omega) (by omega) (by omega) (by omega) _).mono ?_
      rw [HU.out]
      rintro e w9 ⟨rfl, hb9⟩
      have hend : Below w.heap.size w w9 := (hbw3.alloc hbw3.size _).trans ((hb4.trans ((hb5.trans ((hb6.trans ((hb7.trans ((hb8.trans (hb9.mono hb8.size)).mono hb7.size)).mono hb6.size)).mono hb5.size)).mono hb4.size)).mono (by have := hbw3.size; simp; omega))
      clear k4 k5 k6 k7 k8 hb4 hb5 hb6 hb7 hb8 hb9
      have x1 : (0 : Int) ≤ (t : Int) := by omega
      have x2 : (t : Int) ≤ m + 1 := by omega
      have x3 : (u : Int) ≤ (t : Int) + 1 := by omega
      go_wp2_with fail
      go_ret
      exact ⟨rfl, hend⟩
  · have hX' : sig m.toNat j.toNat num.toNat den.toNat = false := by rw [hX]; simp; omega
    have HX := Lib.hid hX'
    clear hX hX'
    have htj' : decide ((t : Int) ≤ j) = false := by simp; omega
    go_wp2_with fail
    refine (Significant_yes m (by omega) (by omega) j (by omega) (by omega) num den (by omega) (by omega) (by omega) (by omega) _).mono ?_
    rw [HX.out]
    rintro e w4 ⟨rfl, hb4⟩
    have k4 := (bcell hb4).1
    have z4 : w3.heap.size < w4.heap.size := by have := hb4.size; simp at this; omega
    go_wp2_with fail
    refine (Significant_yes m (by omega) (by omega) (j + 1) (by omega) (by omega) num den (by omega) (by omega) (by omega) (by omega) _).mono ?_
    rintro e w5 ⟨rfl, hb5⟩
    have k5 := (bcell hb5).1
    have z5 : w3.heap.size < w5.heap.size := by have := hb5.size; omega
    go_wp2_with fail
    refine (Significant_yes (m + 1) (by omega) (by omega) (j + 1) (by omega) (by omega) num den (by omega) (by omega) (by omega) (by omega) _).mono ?_
    rintro e w6 ⟨rfl, hb6⟩
    have k6 := (bcell hb6).1
    have z6 : w3.heap.size < w6.heap.size := by have := hb6.size; omega
    go_wp2_with fail
    all_goals
      refine (Significant_yes m (by omega) (by omega) j (by omega) (by omega) _ den (by omega) (by omega) (by omega) (by omega) _).mono ?_
      rintro e w7 ⟨rfl, hb7⟩
      have k7 := (bcell hb7).1
      have z7 : w3.heap.size < w7.heap.size := by have := hb7.size; omega
      go_wp2_with fail
      refine (Threshold_yes m (by omega) (by omega) num den (by omega) (by omega) (by omega) (by omega) _).mono ?_
      rw [HT.out]
      rintro e w8 ⟨rfl, hb8⟩
      have k8 := (bcell hb8).1
      have z8 : w3.heap.size < w8.heap.size := by have := hb8.size; omega
      go_wp2_with fail
      refine (Threshold_yes (m + 1) (by omega) (by omega) num den (by omega) (by omega) (by omega) (by omega) _).mono ?_
      rw [HU.out]
      rintro e w9 ⟨rfl, hb9⟩
      have hend : Below w.heap.size w w9 := (hbw3.alloc hbw3.size _).trans ((hb4.trans ((hb5.trans ((hb6.trans ((hb7.trans ((hb8.trans (hb9.mono hb8.size)).mono hb7.size)).mono hb6.size)).mono hb5.size)).mono hb4.size)).mono (by have := hbw3.size; simp; omega))
      clear k4 k5 k6 k7 k8 hb4 hb5 hb6 hb7 hb8 hb9
      have x1 : (0 : Int) ≤ (t : Int) := by omega
      have x2 : (t : Int) ≤ m + 1 := by omega
      have x3 : (u : Int) ≤ (t : Int) + 1 := by omega
      go_wp2_with fail
      go_ret
      exact ⟨rfl, hend⟩

/-! ### THE ROW's STEP -/
set_option maxRecDepth 100000 in
theorem lifted (os : Os) (started : os.Started) (H : Type) (enc : TypeId × Value → H) :
    ReturnsInHanded {} Try.checked os 4 .any (Rows.statisticsGrowsSpec.pre6 enc Try.prog Try.f4 Rows.statisticsGrowsRow.domain false) (Rows.statisticsGrowsSpec.post enc Try.prog Try.f4 false true false false) := by
  refine returnsInHanded_of_change (C := Try.checked) own started (by kernel_rfl) Try.func4
    (ChangeSpec.witness6 (enc := enc) (C := Try.checked) false ⟨#[], #[.slice none 0 0, .int .u8 0, .int .u8 0], []⟩ 8 (by kernel_rfl) (by kernel_rfl) (by kernel_rfl) (by kernel_rfl)) ?_
  intro W base args ds gs before hval0 hW hcnd _
  have hval : ∀ (j : Nat) t v, Try.f4.params[j]? = some t → args[j]? = some v → Value.okWide Try.prog W .any base t v := hval0
  have hW' := hW
  obtain ⟨p, q, hA0, hV, rfl, hfz, hnd⟩ := hW
  have hA : DataW.TrodAll enc Try.prog W 0 (fun _ => true) true Try.f4.params.toList args.toList ds p := hA0
  rw [Try.params4] at hA hval
  obtain ⟨v0, vs0, d0, ds0, p0, q0, hargs, rfl, rfl, h0, r0⟩ := trodAll_cons hA
  obtain ⟨v1, vs1, d1, ds1, p1, q1, rfl, rfl, rfl, h1, r1⟩ := trodAll_cons r0
  obtain ⟨v2, vs2, d2, ds2, p2, q2, rfl, rfl, rfl, h2, r2⟩ := trodAll_cons r1
  obtain ⟨rfl, rfl, rfl⟩ := trodAll_nil r2
  obtain rfl : args = #[v0, v1, v2] := by cases args; simp_all
  obtain ⟨rfl, rfl⟩ := trodVars_none hV
  have k0 := h0
  have lt0 : ∀ x ∈ p0, x.block < W.heap.size := by obtain ⟨m, hm⟩ := k0; exact DataW.trod_lt m _ _ _ hm
  obtain ⟨a0, len0, cap0, zs0, rfl, w0⟩ := in_ints (k := .u8) Try.underlying31 Try.underlying5 (by kernel_rfl) (hval 0 31 v0 rfl rfl) h0
  obtain ⟨a1, rfl, rfl, rfl, w1⟩ := open_int Try.underlying5 (hval 1 5 v1 rfl rfl) h1
  obtain ⟨a2, rfl, rfl, rfl, w2⟩ := open_int Try.underlying5 (hval 2 5 v2 rfl rfl) h2
  clear hA0 hval0
  refine (walk a0 len0 cap0 zs0 a1 a2 W w0 w1 w2).mono fun e W' ⟨he, bel⟩ => ?_
  subst he
  exact ⟨_, rfl, _, _, _, [], _, [], hW', trodAll_mk1 (shut_bool Try.underlying4 _), (trodAll_cons_mk (Below.trod laidOut (by kernel_rfl) (of_decide_eq_true (by kernel_rfl)) k0 bel lt0) (trodAll_cons_mk (shut_int Try.underlying5 w1) (trodAll_cons_mk (shut_int Try.underlying5 w2) trodAll_mk0))), rfl, bel.frame _, fun h => by cases h⟩

theorem over : Rows.statisticsGrowsRow.holds Try.pinned (OpenSpec.ofChange Rows.statisticsGrowsSpec) :=
  OpenClaim.holds_of_wide 4 Try.f4 rfl rfl rfl rfl rfl rfl rfl ⟨rfl, rfl, rfl, rfl, rfl⟩ rfl rfl rfl rfl rfl (by kernel_rfl) Try.func4 (by kernel_rfl)
    (of_decide_eq_true (by kernel_rfl)) (by unfold Func.isWrapper; first | (rw [if_pos (by decide +kernel)]; kernel_rfl) | (rw [if_neg (by decide +kernel)]; exact ⟨rfl, rfl⟩))
    (fun os started H enc _ => lifted os started H enc)

/-- the statement -/
theorem proved : Rows.StatisticsGrowsSaid := over
#print axioms proved
end Go.Proofs.Ytjlalilhmadmcaa.statisticsGrows
