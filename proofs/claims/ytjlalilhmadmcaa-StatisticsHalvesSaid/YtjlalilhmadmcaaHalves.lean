/-
  What is proved: for every n, num and den the law StatisticsHalves of chapter 43 (statistics) returns true: with as many pairs better as worse nothing is significant at a level below one half, and all of n pairs that are worse are significant exactly if 2^n is at least Den / Num. No conditions.
-/
import Derived.Test.YtjlalilhmadmcaaAwake
namespace Go.Proofs.Ytjlalilhmadmcaa.statisticsHalves
open Go.ChangeShapes Go.WideShapes Go.ChangeAt Go.RowKit
set_option linter.unusedVariables false      -- a walk need not use every 'w<i>' (that an integer argument fits its kind)

theorem own : ownKnob Try.prog.godebug = none := by kernel_rfl

/-! ### THE WALK -/
set_option maxRecDepth 100000 in
set_option maxHeartbeats 1000000 in
theorem walk (a0 : Int) (a1 : Int) (a2 : Int) (w0 : (Lit.int .u8 a0).wf = true) (w1 : (Lit.int .u8 a1).wf = true) (w2 : (Lit.int .u16 a2).wf = true) (w : World) :
    Calls Try.prog 3 #[.int .u8 a0, .int .u8 a1, .int .u16 a2] w fun e w' => e = .returned (.bool true) ∧ Below w.heap.size w w' := by
  have b0 := bounds_u8 w0
  have b1 := bounds_u8 w1
  have b2 := bounds_u16 w2
  obtain ⟨b00, b01⟩ := b0
  obtain ⟨b10, b11⟩ := b1
  obtain ⟨b20, b21⟩ := b2
  clear w0 w1 w2
  obtain ⟨m, hm⟩ : ∃ m : Nat, a0 % 31 = (m : Int) := ⟨(a0 % 31).toNat, by omega⟩
  obtain ⟨num, hnum⟩ : ∃ num : Nat, a1 % 50 = (num : Int) := ⟨(a1 % 50).toNat, by omega⟩
  obtain ⟨den, hden⟩ : ∃ den : Nat, 100 + a2 % 1000 = (den : Int) := ⟨(100 + a2 % 1000).toNat, by omega⟩
  have m30 : m ≤ 30 := by omega
  have n49 : num ≤ 49 := by omega
  have d1 : 100 ≤ den := by omega
  have d2 : den ≤ 1099 := by omega
  have s1 : sig (2 * (m : Int)).toNat (m : Int).toNat (num : Int).toNat (den : Int).toNat = false := by
    rw [show (2 * (m : Int)).toNat = 2 * m from by omega]; exact sig_half m num den (by omega) (by omega)
  have s2 : sig (m : Int).toNat (m : Int).toNat (num : Int).toNat (den : Int).toNat = decide (den ≤ 2 ^ m * num) := sig_all m num den
  have s3 : sig (m : Int).toNat ((m : Int) + 1).toNat (num : Int).toNat (den : Int).toNat = true := by
    rw [show ((m : Int) + 1).toNat = m + 1 from by omega]; exact sig_gt m (m + 1) num den (by omega)
  have hiff : den ≤ 2 ^ m * num ↔ (den : Int) ≤ wrap64 ((num : Int) * 2 ^ m) := by
    have h1 : 2 ^ m ≤ 2 ^ 30 := Nat.pow_le_pow_right (by omega) m30
    have h2 : 2 ^ m * num ≤ 2 ^ 30 * 49 := Nat.mul_le_mul h1 n49
    have e : (num : Int) * 2 ^ m = ((2 ^ m * num : Nat) : Int) := by rw [Nat.mul_comm]; simp
    rw [e, IntWalk.wrap64_in _ ⟨by omega, by omega⟩]
    omega
  have Hiff := Lib.hid hiff
  clear hiff
  have S1 := Lib.hid s1
  have S2 := Lib.hid s2
  have S3 := Lib.hid s3
  clear s1 s2 s3
  go_enter Try.func3, Try.ntmps3
  go_wp2_with (go_at_call 10; refine (awake_any _).mono ?_; rintro e w1 ⟨rfl, hb1⟩)
  refine (Significant_yes (2 * m) (by omega) (by omega) m (by omega) (by omega) num den (by omega) (by omega) (by omega) (by omega) _).mono ?_
  rw [S1.out]
  rintro e w2 ⟨rfl, hb2⟩
  have c2 := (bcell hb2).1
  go_wp2_with fail
  refine (Significant_yes m (by omega) (by omega) m (by omega) (by omega) num den (by omega) (by omega) (by omega) (by omega) _).mono ?_
  rw [S2.out]
  rintro e w3 ⟨rfl, hb3⟩
  have hz2 : w1.heap.size < w2.heap.size := by have := hb2.size; simp at this; omega
  have c3 := (bcell hb3).1
  go_wp2_with fail
  refine (Significant_yes m (by omega) (by omega) (m + 1) (by omega) (by omega) num den (by omega) (by omega) (by omega) (by omega) _).mono ?_
  rw [S3.out]
  rintro e w4 ⟨rfl, hb4⟩
  have hz3 : w1.heap.size < w3.heap.size := by have := hb3.size; omega
  have c4 := (bcell hb4).1
  go_wp2_with fail
  · go_ret
    exact ⟨rfl, hb1.trans ((((Below.refl _ _).alloc (Nat.le_refl _) _).trans ((hb2.trans ((hb3.trans (hb4.mono hb3.size)).mono hb2.size)).mono (by simp))).mono hb1.size)⟩

/-! ### THE ROW's STEP: WRITTEN OUT: LEAVE IT -/
set_option maxRecDepth 100000 in
theorem lifted (os : Os) (started : os.Started) (H : Type) (enc : TypeId × Value → H) :
    ReturnsInHanded {} Try.checked os 3 .any (Rows.statisticsHalvesSpec.pre6 enc Try.prog Try.f3 Rows.statisticsHalvesRow.domain false) (Rows.statisticsHalvesSpec.post enc Try.prog Try.f3 false true false false) := by
  refine returnsInHanded_of_change (C := Try.checked) own started (by kernel_rfl) Try.func3
    (ChangeSpec.witness6 (enc := enc) (C := Try.checked) false ⟨#[], #[.int .u8 0, .int .u8 0, .int .u16 0], []⟩ 8 (by kernel_rfl) (by kernel_rfl) (by kernel_rfl) (by kernel_rfl)) ?_
  intro W base args ds gs before hval0 hW hcnd _
  have hval : ∀ (j : Nat) t v, Try.f3.params[j]? = some t → args[j]? = some v → Value.okWide Try.prog W .any base t v := hval0
  have hW' := hW
  obtain ⟨p, q, hA0, hV, rfl, hfz, hnd⟩ := hW
  have hA : DataW.TrodAll enc Try.prog W 0 (fun _ => true) true Try.f3.params.toList args.toList ds p := hA0
  rw [Try.params3] at hA hval
  obtain ⟨v0, vs0, d0, ds0, p0, q0, hargs, rfl, rfl, h0, r0⟩ := trodAll_cons hA
  obtain ⟨v1, vs1, d1, ds1, p1, q1, rfl, rfl, rfl, h1, r1⟩ := trodAll_cons r0
  obtain ⟨v2, vs2, d2, ds2, p2, q2, rfl, rfl, rfl, h2, r2⟩ := trodAll_cons r1
  obtain ⟨rfl, rfl, rfl⟩ := trodAll_nil r2
  obtain rfl : args = #[v0, v1, v2] := by cases args; simp_all
  obtain ⟨rfl, rfl⟩ := trodVars_none hV
  obtain ⟨a0, rfl, rfl, rfl, w0⟩ := open_int Try.underlying5 (hval 0 5 v0 rfl rfl) h0
  obtain ⟨a1, rfl, rfl, rfl, w1⟩ := open_int Try.underlying5 (hval 1 5 v1 rfl rfl) h1
  obtain ⟨a2, rfl, rfl, rfl, w2⟩ := open_int Try.underlying22 (hval 2 22 v2 rfl rfl) h2
  clear hA0 hval0
  simp only [List.append_nil] at hW'
  refine (walk a0 a1 a2 w0 w1 w2 W).mono fun e W' ⟨he, bel⟩ => ?_
  subst he
  exact ⟨_, rfl, _, _, _, [], _, [], hW', trodAll_mk1 (shut_bool Try.underlying4 _), (trodAll_cons_mk (shut_int Try.underlying5 w0) (trodAll_cons_mk (shut_int Try.underlying5 w1) (trodAll_cons_mk (shut_int Try.underlying22 w2) trodAll_mk0))), rfl, bel.frame _, fun h => by cases h⟩

theorem over : Rows.statisticsHalvesRow.holds Try.pinned (OpenSpec.ofChange Rows.statisticsHalvesSpec) :=
  OpenClaim.holds_of_wide 3 Try.f3 rfl rfl rfl rfl rfl rfl rfl ⟨rfl, rfl, rfl, rfl, rfl⟩ rfl rfl rfl rfl rfl (by kernel_rfl) Try.func3 (by kernel_rfl)
    (of_decide_eq_true (by kernel_rfl)) (by unfold Func.isWrapper; first | (rw [if_pos (by decide +kernel)]; kernel_rfl) | (rw [if_neg (by decide +kernel)]; exact ⟨rfl, rfl⟩))
    (fun os started H enc _ => lifted os started H enc)

/-- the statement -/
theorem proved : Rows.StatisticsHalvesSaid := over
#print axioms proved
end Go.Proofs.Ytjlalilhmadmcaa.statisticsHalves
