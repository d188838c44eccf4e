/-
  What is proved: for every n, k, m and j the law StatisticsNumbers of chapter 43 (statistics) returns true: binomial numbers and tails, or the error, are those of the reference. No conditions.
-/
import Derived.Test.YtjlalilhmadmcaaRefTail
namespace Go.Proofs.Ytjlalilhmadmcaa.statisticsNumbers
open Go.ChangeShapes Go.WideShapes Go.ChangeAt Go.RowKit
set_option linter.unusedVariables false

theorem own : ownKnob Try.prog.godebug = none := by kernel_rfl

set_option maxRecDepth 100000 in
set_option maxHeartbeats 1000000 in
theorem walk (a0 a1 a2 a3 : Int) (w : World) (w0 : (Lit.int .i64 a0).wf = true) (w1 : (Lit.int .i64 a1).wf = true) (w2 : (Lit.int .u8 a2).wf = true) (w3 : (Lit.int .u8 a3).wf = true) :
    Calls Try.prog 5 #[.int .i64 a0, .int .i64 a1, .int .u8 a2, .int .u8 a3] w fun e w' => e = .returned (.bool true) ∧ Below w.heap.size w w' := by
  obtain ⟨b00, b01⟩ := bounds_i64 w0
  obtain ⟨b10, b11⟩ := bounds_i64 w1
  obtain ⟨b20, b21⟩ := bounds_u8 w2
  obtain ⟨b30, b31⟩ := bounds_u8 w3
  clear w0 w1 w2 w3
  go_enter Try.func5, Try.ntmps5
  go_wp2_with (go_at_call 10; refine (awake_any _).mono ?_; rintro e w1 ⟨rfl, hb1⟩)
  obtain ⟨B, hB⟩ : ∃ B, B = w1.heap.size := ⟨_, rfl⟩
  have hx : ∀ k : Nat, k < 4 → ∃ x y : Int, (w1.alloc (.cells #[.int .i64 a0, .int .i64 a1, .int .i64 (a2 % 64), .int .i64 a1, .int .i64 (a2 % 64), .int .i64 (a3 % 70 - 3), .int .i64 a0, .int .i64 a3] 38)).cell? ⟨B, k * 2, none⟩ = some (.int .i64 x) ∧ (w1.alloc (.cells #[.int .i64 a0, .int .i64 a1, .int .i64 (a2 % 64), .int .i64 a1, .int .i64 (a2 % 64), .int .i64 (a3 % 70 - 3), .int .i64 a0, .int .i64 a3] 38)).cell? ⟨B, k * 2 + 1, none⟩ = some (.int .i64 y) ∧ -9223372036854775808 ≤ y ∧ y ≤ 9223372036854775807 := by
    intro k hk
    have : k = 0 ∨ k = 1 ∨ k = 2 ∨ k = 3 := by omega
    subst hB
    rcases this with rfl | rfl | rfl | rfl
    · exact ⟨a0, a1, by simp [go_sem], by simp [go_sem], by omega, by omega⟩
    · exact ⟨a2 % 64, a1, by simp [go_sem], by simp [go_sem], by omega, by omega⟩
    · exact ⟨a2 % 64, a3 % 70 - 3, by simp [go_sem], by simp [go_sem], by omega, by omega⟩
    · exact ⟨a0, a3, by simp [go_sem], by simp [go_sem], by omega, by omega⟩
  have hW : Below w.heap.size w (w1.alloc (.cells #[.int .i64 a0, .int .i64 a1, .int .i64 (a2 % 64), .int .i64 a1, .int .i64 (a2 % 64), .int .i64 (a3 % 70 - 3), .int .i64 a0, .int .i64 a3] 38)) := hb1.alloc hb1.size _
  rw [← hB]
  generalize (w1.alloc (.cells #[.int .i64 a0, .int .i64 a1, .int .i64 (a2 % 64), .int .i64 a1, .int .i64 (a2 % 64), .int .i64 (a3 % 70 - 3), .int .i64 a0, .int .i64 a3] 38)) = W0 at *
  clear hb1 hB
  have HX := Lib.hid hx
  clear hx
  go_loopw [43] (fun v wr => ∃ k : Nat, k ≤ 4 ∧ v = .int .i64 k ∧ Below W0.heap.size W0 wr) (fun v _ => 4 - (intOf v).toNat)
  case atStart => exact ⟨0, by omega, rfl, Below.refl _ _⟩
  case round =>
    obtain ⟨k, hk, rfl, hb⟩ := hrel
    by_cases hlt : k < 4
    · obtain ⟨x, y, c1, c2, y0, y1⟩ := HX.out k hlt
      have d1 := (hb.cell (p := ⟨B, k * 2, none⟩) (block_lt_of_cell c1)).trans c1
      have d2 := (hb.cell (p := ⟨B, k * 2 + 1, none⟩) (block_lt_of_cell c2)).trans c2
      clear c1 c2
      go_wp2_with fail
      refine (Choose_tot x y _).mono ?_
      rintro e w2 ⟨rfl, hb2⟩
      have k2 := (bcell hb2).1
      have z2 : wr.heap.size < w2.heap.size := by have := hb2.size; simp at this; omega
      go_wp2_with fail
      refine (refChoose_tot x y _).mono ?_
      rintro e w3 ⟨rfl, hb3⟩
      have k3 := (bcell hb3).1
      have z3 : wr.heap.size < w3.heap.size := by have := hb3.size; omega
      go_wp2_with fail
      refine (Tail_tot x y y0 y1 _).mono ?_
      rintro e w4 ⟨rfl, hb4⟩
      have k4 := (bcell hb4).1
      have z4 : wr.heap.size < w4.heap.size := by have := hb4.size; omega
      go_wp2_with fail
      refine (refTail_tot x y y0 y1 _).mono ?_
      rintro e w5 ⟨rfl, hb5⟩
      have hend : Below W0.heap.size W0 w5 := hb.trans (((Below.refl _ _).alloc (Nat.le_refl _) _).trans ((hb2.trans ((hb3.trans ((hb4.trans (hb5.mono hb4.size)).mono hb3.size)).mono hb2.size)).mono (by simp)) |>.mono hb.size)
      clear k2 k3 k4 d1 d2 hb2 hb3 hb4 hb5
      go_wp2_with fail
      go_roundw
      case rel => exact ⟨k + 1, by omega, by go_num, hend⟩
      case measure => simp [intOf]; omega
    · go_wp2_with fail
      go_ret
      exact ⟨rfl, hW.trans (hb.mono hW.size)⟩

/-! ### THE ROW's STEP -/
set_option maxRecDepth 100000 in
theorem lifted (os : Os) (started : os.Started) (H : Type) (enc : TypeId × Value → H) :
    ReturnsInHanded {} Try.checked os 5 .any (Rows.statisticsNumbersSpec.pre6 enc Try.prog Try.f5 Rows.statisticsNumbersRow.domain false) (Rows.statisticsNumbersSpec.post enc Try.prog Try.f5 false true false false) := by
  refine returnsInHanded_of_change (C := Try.checked) own started (by kernel_rfl) Try.func5
    (ChangeSpec.witness6 (enc := enc) (C := Try.checked) false ⟨#[], #[.int .i64 0, .int .i64 0, .int .u8 0, .int .u8 0], []⟩ 8 (by kernel_rfl) (by kernel_rfl) (by kernel_rfl) (by kernel_rfl)) ?_
  intro W base args ds gs before hval0 hW hcnd _
  have hval : ∀ (j : Nat) t v, Try.f5.params[j]? = some t → args[j]? = some v → Value.okWide Try.prog W .any base t v := hval0
  have hW' := hW
  obtain ⟨p, q, hA0, hV, rfl, hfz, hnd⟩ := hW
  have hA : DataW.TrodAll enc Try.prog W 0 (fun _ => true) true Try.f5.params.toList args.toList ds p := hA0
  rw [Try.params5] at hA hval
  obtain ⟨v0, vs0, d0, ds0, p0, q0, hargs, rfl, rfl, h0, r0⟩ := trodAll_cons hA
  obtain ⟨v1, vs1, d1, ds1, p1, q1, rfl, rfl, rfl, h1, r1⟩ := trodAll_cons r0
  obtain ⟨v2, vs2, d2, ds2, p2, q2, rfl, rfl, rfl, h2, r2⟩ := trodAll_cons r1
  obtain ⟨v3, vs3, d3, ds3, p3, q3, rfl, rfl, rfl, h3, r3⟩ := trodAll_cons r2
  obtain ⟨rfl, rfl, rfl⟩ := trodAll_nil r3
  obtain rfl : args = #[v0, v1, v2, v3] := by cases args; simp_all
  obtain ⟨rfl, rfl⟩ := trodVars_none hV
  obtain ⟨a0, rfl, rfl, rfl, w0⟩ := open_int Try.underlying3 (hval 0 3 v0 rfl rfl) h0
  obtain ⟨a1, rfl, rfl, rfl, w1⟩ := open_int Try.underlying3 (hval 1 3 v1 rfl rfl) h1
  obtain ⟨a2, rfl, rfl, rfl, w2⟩ := open_int Try.underlying5 (hval 2 5 v2 rfl rfl) h2
  obtain ⟨a3, rfl, rfl, rfl, w3⟩ := open_int Try.underlying5 (hval 3 5 v3 rfl rfl) h3
  clear hA0 hval0
  refine (walk a0 a1 a2 a3 W w0 w1 w2 w3).mono fun e W' ⟨he, bel⟩ => ?_
  subst he
  exact ⟨_, rfl, _, _, _, [], _, [], hW', trodAll_mk1 (shut_bool Try.underlying4 _), (trodAll_cons_mk (shut_int Try.underlying3 w0) (trodAll_cons_mk (shut_int Try.underlying3 w1) (trodAll_cons_mk (shut_int Try.underlying5 w2) (trodAll_cons_mk (shut_int Try.underlying5 w3) trodAll_mk0)))), rfl, bel.frame _, fun h => by cases h⟩

theorem over : Rows.statisticsNumbersRow.holds Try.pinned (OpenSpec.ofChange Rows.statisticsNumbersSpec) :=
  OpenClaim.holds_of_wide 5 Try.f5 rfl rfl rfl rfl rfl rfl rfl ⟨rfl, rfl, rfl, rfl, rfl⟩ rfl rfl rfl rfl rfl (by kernel_rfl) Try.func5 (by kernel_rfl)
    (of_decide_eq_true (by kernel_rfl)) (by unfold Func.isWrapper; first | (rw [if_pos (by decide +kernel)]; kernel_rfl) | (rw [if_neg (by decide +kernel)]; exact ⟨rfl, rfl⟩))
    (fun os started H enc _ => lifted os started H enc)

/-- the statement -/
theorem proved : Rows.StatisticsNumbersSaid := over
#print axioms proved
end Go.Proofs.Ytjlalilhmadmcaa.statisticsNumbers
