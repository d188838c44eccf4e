/-
  What is proved: for every n and k the law StatisticsSums of chapter 43 (statistics) returns true: the binomial numbers of a row and its tails add up to a power of 2, and each number is the sum of both above it. No conditions.
-/
import Derived.Test.YtjlalilhmadmcaaChoose
namespace Go.Proofs.Ytjlalilhmadmcaa.statisticsSums
open Go.ChangeShapes Go.WideShapes Go.ChangeAt Go.RowKit
set_option linter.unusedVariables false

theorem own : ownKnob Try.prog.godebug = none := by kernel_rfl

theorem bin_pascal (m j : Int) (h1 : 1 ≤ m) (h2 : 0 ≤ j) : binI m j = binI (m - 1) j + binI (m - 1) (j - 1) := by
  obtain ⟨m, rfl⟩ : ∃ m' : Nat, m = (m' : Int) + 1 := ⟨(m - 1).toNat, by omega⟩
  obtain ⟨j, rfl⟩ := Int.eq_ofNat_of_zero_le h2
  unfold binI
  rw [if_neg (by omega), if_neg (by omega)]
  cases j with
  | zero => rw [if_pos (by omega)]; simp [bin_zero]
  | succ j =>
    rw [if_neg (by omega), show ((m : Int) + 1).toNat = m + 1 from by omega, show ((m : Int) + 1 - 1).toNat = m from by omega, show (((j + 1 : Nat) : Int) - 1).toNat = j from by omega, show (((j + 1 : Nat) : Int)).toNat = j + 1 from by omega, bin_succ]
    omega
theorem binI_bd (m j : Int) (h2 : m ≤ 60) : 0 ≤ binI m j ∧ binI m j ≤ 1152921504606846976 := by
  unfold binI
  split
  · omega
  · have := bin_le60 (n := m.toNat) (by omega) j.toNat
    omega

set_option maxRecDepth 100000 in
set_option maxHeartbeats 1000000 in
theorem walk (a0 : Int) (a1 : Int) (w : World) (w0 : (Lit.int .u8 a0).wf = true) (w1 : (Lit.int .u8 a1).wf = true) :
    Calls Try.prog 6 #[.int .u8 a0, .int .u8 a1] w fun e w' => e = .returned (.bool true) ∧ Below w.heap.size w w' := by
  obtain ⟨b00, b01⟩ := bounds_u8 w0
  obtain ⟨b10, b11⟩ := bounds_u8 w1
  clear w0 w1
  obtain ⟨m, hm⟩ : ∃ m : Int, a0 % 61 = m := ⟨_, rfl⟩
  have m0 : 0 ≤ m := by omega
  have m1 : m ≤ 60 := by omega
  obtain ⟨j, hj⟩ : ∃ j : Int, a1 % (m + 2) = j := ⟨_, rfl⟩
  have j0 : 0 ≤ j := by rw [← hj]; exact Int.emod_nonneg _ (by omega)
  have j1 : j < m + 2 := by rw [← hj]; exact Int.emod_lt_of_pos _ (by omega)
  have hs := tl_sym m.toNat j.toNat (m - j + 1).toNat (by omega)
  have hp := pow_le60 (n := m.toNat) (by omega)
  obtain ⟨p, hpp⟩ : ∃ p : Nat, 2 ^ m.toNat = p := ⟨_, rfl⟩
  have hw : wrap64 ((2 : Int) ^ m.toNat) = (p : Int) := by
    have e : (2 : Int) ^ m.toNat = ((2 ^ m.toNat : Nat) : Int) := by simp
    rw [e, IntWalk.wrap64_in _ ⟨by omega, by omega⟩, hpp]
  rw [hpp] at hs
  have t1 := tl_le60 (n := m.toNat) (by omega) j.toNat
  have t2 := tl_le60 (n := m.toNat) (by omega) (m - j + 1).toNat
  have bx := binI_bd m j (by omega)
  obtain ⟨bx0, bx1⟩ := bx
  have hx0 : m = 0 → binI m j = 1 - min j 1 := by
    intro h
    subst h
    have : j = 0 ∨ j = 1 := by omega
    rcases this with rfl | rfl <;> rfl
  have hxp : 1 ≤ m → binI m j = binI (m - 1) j + binI (m - 1) (j - 1) := fun h => bin_pascal m j h j0
  have by0 := binI_bd (m - 1) j (by omega)
  have bz0 := binI_bd (m - 1) (j - 1) (by omega)
  obtain ⟨y0, y1⟩ := by0
  obtain ⟨z0, z1⟩ := bz0
  clear hp hpp
  obtain ⟨ta, hta⟩ : ∃ ta : Nat, tl m.toNat j.toNat = ta := ⟨_, rfl⟩
  obtain ⟨tb, htb⟩ : ∃ tb : Nat, tl m.toNat (m - j + 1).toNat = tb := ⟨_, rfl⟩
  obtain ⟨x, hx⟩ : ∃ x : Int, binI m j = x := ⟨_, rfl⟩
  obtain ⟨y, hy⟩ : ∃ y : Int, binI (m - 1) j = y := ⟨_, rfl⟩
  obtain ⟨z, hz⟩ : ∃ z : Int, binI (m - 1) (j - 1) = z := ⟨_, rfl⟩
  rw [hta, htb] at hs
  have hne : ((ta : Int) + tb != (p : Int)) = false := by simp; omega
  rw [hta] at t1
  rw [htb] at t2
  rw [hx] at hx0 hxp bx0 bx1
  rw [hy] at hxp
  rw [hz] at hxp
  rw [hy] at y0 y1
  rw [hz] at z0 z1
  clear hs
  have Hta := Lib.hid hta
  have Htb := Lib.hid htb
  have Hx := Lib.hid hx
  have Hy := Lib.hid hy
  have Hz := Lib.hid hz
  have Hx0 := Lib.hid hx0
  have Hxp := Lib.hid hxp
  clear hta htb hx hy hz hx0 hxp
  by_cases hm0 : m = 0
  · have hm0' : (m == 0) = true := by simp [hm0]
    have hx' := Hx0.out hm0
    have HX := Lib.hid hx'
    clear hx' Hx0 Hxp
    have Hm0 := Lib.hid hm0
    clear hm0
    go_enter Try.func6, Try.ntmps6
    go_wp2_with (first
      | (go_at_call 10; refine (awake_any _).mono ?_; rintro e w1 ⟨rfl, hb1⟩))
    refine (Tail_yes m m0 m1 j (by omega) (by omega) _).mono ?_
    rw [Hta.out]
    rintro e w2 ⟨rfl, hb2⟩
    go_wp2_with fail
    refine (Tail_yes m m0 m1 (m - j + 1) (by omega) (by omega) _).mono ?_
    rw [Htb.out]
    rintro e w3 ⟨rfl, hb3⟩
    go_wp2_with fail
    refine (Choose_yes m m0 m1 j _).mono ?_
    rw [Hx.out]
    rintro e w4 ⟨rfl, hb4⟩
    go_wp2_with fail
    all_goals
      go_ret
      exact ⟨by rw [HX.out]; simp; omega, hb1.trans ((hb2.trans ((hb3.trans (hb4.mono hb3.size)).mono hb2.size)).mono hb1.size)⟩
  · have hm0' : (m == 0) = false := by simp [hm0]
    have hx' := Hxp.out (by omega)
    have HX := Lib.hid hx'
    clear hx' Hx0 Hxp
    have m2 : 1 ≤ m := by omega
    clear hm0
    go_enter Try.func6, Try.ntmps6
    go_wp2_with (first
      | (go_at_call 10; refine (awake_any _).mono ?_; rintro e w1 ⟨rfl, hb1⟩))
    refine (Tail_yes m m0 m1 j (by omega) (by omega) _).mono ?_
    rw [Hta.out]
    rintro e w2 ⟨rfl, hb2⟩
    go_wp2_with fail
    refine (Tail_yes m m0 m1 (m - j + 1) (by omega) (by omega) _).mono ?_
    rw [Htb.out]
    rintro e w3 ⟨rfl, hb3⟩
    go_wp2_with fail
    refine (Choose_yes m m0 m1 j _).mono ?_
    rw [Hx.out]
    rintro e w4 ⟨rfl, hb4⟩
    go_wp2_with fail
    refine (Choose_yes (m - 1) (by omega) (by omega) j _).mono ?_
    rw [Hy.out]
    rintro e w5 ⟨rfl, hb5⟩
    go_wp2_with fail
    refine (Choose_yes (m - 1) (by omega) (by omega) (j - 1) _).mono ?_
    rw [Hz.out]
    rintro e w6 ⟨rfl, hb6⟩
    go_wp2_with fail
    all_goals
      go_ret
      exact ⟨by rw [HX.out]; simp, hb1.trans ((hb2.trans ((hb3.trans ((hb4.trans ((hb5.trans (hb6.mono hb5.size)).mono hb4.size)).mono hb3.size)).mono hb2.size)).mono hb1.size)⟩

/-! ### THE ROW's STEP -/
set_option maxRecDepth 100000 in
theorem lifted (os : Os) (started : os.Started) (H : Type) (enc : TypeId × Value → H) :
    ReturnsInHanded {} Try.checked os 6 .any (Rows.statisticsSumsSpec.pre6 enc Try.prog Try.f6 Rows.statisticsSumsRow.domain false) (Rows.statisticsSumsSpec.post enc Try.prog Try.f6 false true false false) := by
  refine returnsInHanded_of_change (C := Try.checked) own started (by kernel_rfl) Try.func6
    (ChangeSpec.witness6 (enc := enc) (C := Try.checked) false ⟨#[], #[.int .u8 0, .int .u8 0], []⟩ 8 (by kernel_rfl) (by kernel_rfl) (by kernel_rfl) (by kernel_rfl)) ?_
  intro W base args ds gs before hval0 hW hcnd _
  have hval : ∀ (j : Nat) t v, Try.f6.params[j]? = some t → args[j]? = some v → Value.okWide Try.prog W .any base t v := hval0
  have hW' := hW
  obtain ⟨p, q, hA0, hV, rfl, hfz, hnd⟩ := hW
  have hA : DataW.TrodAll enc Try.prog W 0 (fun _ => true) true Try.f6.params.toList args.toList ds p := hA0
  rw [Try.params6] at hA hval
  obtain ⟨v0, vs0, d0, ds0, p0, q0, hargs, rfl, rfl, h0, r0⟩ := trodAll_cons hA
  obtain ⟨v1, vs1, d1, ds1, p1, q1, rfl, rfl, rfl, h1, r1⟩ := trodAll_cons r0
  obtain ⟨rfl, rfl, rfl⟩ := trodAll_nil r1
  obtain rfl : args = #[v0, v1] := by cases args; simp_all
  obtain ⟨rfl, rfl⟩ := trodVars_none hV
  obtain ⟨a0, rfl, rfl, rfl, w0⟩ := open_int Try.underlying5 (hval 0 5 v0 rfl rfl) h0
  obtain ⟨a1, rfl, rfl, rfl, w1⟩ := open_int Try.underlying5 (hval 1 5 v1 rfl rfl) h1
  clear hA0 hval0
  refine (walk a0 a1 W w0 w1).mono fun e W' ⟨he, bel⟩ => ?_
  subst he
  exact ⟨_, rfl, _, _, _, [], _, [], hW', trodAll_mk1 (shut_bool Try.underlying4 _), (trodAll_cons_mk (shut_int Try.underlying5 w0) (trodAll_cons_mk (shut_int Try.underlying5 w1) trodAll_mk0)), rfl, bel.frame _, fun h => by cases h⟩

theorem over : Rows.statisticsSumsRow.holds Try.pinned (OpenSpec.ofChange Rows.statisticsSumsSpec) :=
  OpenClaim.holds_of_wide 6 Try.f6 rfl rfl rfl rfl rfl rfl rfl ⟨rfl, rfl, rfl, rfl, rfl⟩ rfl rfl rfl rfl rfl (by kernel_rfl) Try.func6 (by kernel_rfl)
    (of_decide_eq_true (by kernel_rfl)) (by unfold Func.isWrapper; first | (rw [if_pos (by decide +kernel)]; kernel_rfl) | (rw [if_neg (by decide +kernel)]; exact ⟨rfl, rfl⟩))
    (fun os started H enc _ => lifted os started H enc)

/-- the statement -/
theorem proved : Rows.StatisticsSumsSaid := over
#print axioms proved
end Go.Proofs.Ytjlalilhmadmcaa.statisticsSums
