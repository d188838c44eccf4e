/-
  WALK of warmpathref24.Valid. (Filled in from a template of this repo.)
-/
import Derived.Test.YthoehobofdeifaaCirAb
namespace Go.Proofs.Ythoehobofdeifaa
open Go.ChangeShapes Go.WideShapes Go.ChangeAt Go.RowKit
set_option linter.unusedVariables false
set_option linter.unusedSimpArgs false

set_option maxRecDepth 100000 in
set_option maxHeartbeats 4000000 in
theorem RValid_any (R : Rw) (a : Option Addr) (ca : Nat) (hm : R.m ≤ 9223372036854775806) (w : World) (h : RA w a R.m R.A) :
    Calls Try.prog 16 #[R.val a ca] w fun e w' => e = .returned (.bool R.okB) ∧ Below w.heap.size w w' := by
  have H := Lib.hid h
  clear h
  have HB0 : Hid (∀ o, Below w.heap.size w (w.alloc o)) := Lib.hid (fun o => (Below.refl _ _).alloc (Nat.le_refl _) o)
  by_cases h1 : R.V < 1
  · have HE := Lib.hid (Rw.okB_false (R := R) (fun g => by have := g.1; omega))
    go_enter Try.func16, Try.ntmps16
    go_wp2_with fail
    go_ret
    exact ⟨by rw [HE.out]; rfl, HB0.out _⟩
  have d1 : decide (R.V < 1) = false := by simpa using h1
  by_cases h2 : 520 < R.V
  · have HE := Lib.hid (Rw.okB_false (R := R) (fun g => by have := g.1; omega))
    go_enter Try.func16, Try.ntmps16
    go_wp2_with fail
    go_ret
    exact ⟨by rw [HE.out]; rfl, HB0.out _⟩
  have d2 : decide (520 < R.V) = false := by simpa using h2
  by_cases h3 : 2400 < R.m
  · have HE := Lib.hid (Rw.okB_false (R := R) (fun g => by have := g.1; omega))
    have d3 : decide ((2400 : Int) < (R.m : Int)) = true := by simp; omega
    go_enter Try.func16, Try.ntmps16
    go_wp2_with fail
    go_ret
    exact ⟨by rw [HE.out]; rfl, HB0.out _⟩
  have d3 : decide ((2400 : Int) < (R.m : Int)) = false := by simp; omega
  have HGOOD : Hid ((∀ j, j < R.m → badA R.V (R.A j) = false) → R.okB = true) := Lib.hid (fun hh => Rw.okB_true ⟨by omega, hh⟩)
  have HBAD : Hid (∀ j, j < R.m → badA R.V (R.A j) = true → R.okB = false) := Lib.hid (fun j hj hb => Rw.okB_false (fun g => by have := g.2 j hj; rw [hb] at this; cases this))
  clear h1 h2 h3
  obtain ⟨V, m, A⟩ := R
  simp only at *
  have c0 : (w.alloc (.cells #[.int .i64 V, .slice a m ca] 25)).cell? ⟨w.heap.size, 0, none⟩ = some (.int .i64 V) := cell_mk _ _ _ rfl rfl
  have c1 : (w.alloc (.cells #[.int .i64 V, .slice a m ca] 25)).cell? ⟨w.heap.size, 1, none⟩ = some (.slice a m ca) := cell_mk _ _ _ rfl rfl
  have HC0 := Lib.hid c0
  have HC1 := Lib.hid c1
  clear c0 c1
  go_enter Try.func16, Try.ntmps16
  go_wp2_with fail
  have hbA := HB0.out (.cells #[.int .i64 V, .slice a m ca] 25)
  have hg := block_lt_of_cell HC0.out
  generalize w.alloc (.cells #[.int .i64 V, .slice a m ca] 25) = wA at *
  obtain ⟨gn, hgn⟩ : ∃ gn, w.heap.size = gn := ⟨_, rfl⟩
  rw [hgn] at HC0 HC1 hg ⊢
  have HA0 : Hid (Below w.heap.size w wA) := Lib.hid hbA
  clear hbA hgn HB0 d1 d2 d3
  go_loopw [3] (fun v3 wr => ∃ k : Nat, k ≤ m ∧ v3 = .int .i64 k ∧ Hid (∀ j, j < k → badA V (A j) = false) ∧ Hid (Below wA.heap.size wA wr)) (fun v _ => m - (intOf v).toNat)
  case atStart => exact ⟨0, by omega, rfl, Lib.hid (fun j hj => absurd hj (by omega)), Lib.hid (Below.refl _ _)⟩
  case round =>
    obtain ⟨k, hk, rfl, HP, HB⟩ := hrel
    have c1 := (HB.out.cell (p := ⟨gn, 1, none⟩) hg).trans HC1.out
    have c0 := (HB.out.cell (p := ⟨gn, 0, none⟩) hg).trans HC0.out
    have hgr := block_lt_of_cell c1
    have HBW := Lib.hid (HA0.out.trans (HB.out.mono HA0.out.size))
    by_cases hlt : k < m
    · obtain ⟨b, off, rfl, hbl, q0, q1, q2, q3, q4⟩ := H.out.below HBW.out k hlt
      obtain ⟨r, hr⟩ : ∃ r, A k = r := ⟨_, rfl⟩
      rw [hr] at q0 q1 q2 q3 q4
      have HRK := Lib.hid hr
      clear hr
      obtain ⟨f0, t0, l0, u0, k0⟩ := r
      simp only at q0 q1 q2 q3 q4
      go_upto_region 7 with fail
      have HBN := Lib.hid (HB.out.alloc HB.out.size (.cells #[.int .i64 f0, .int .i64 t0, .int .i64 l0, .int .i64 u0, .int .i64 k0] 46))
      have a0 : (wr.alloc (.cells #[.int .i64 f0, .int .i64 t0, .int .i64 l0, .int .i64 u0, .int .i64 k0] 46)).cell? ⟨wr.heap.size, 0, none⟩ = some (.int .i64 f0) := cell_mk _ _ _ rfl rfl
      have a1 : (wr.alloc (.cells #[.int .i64 f0, .int .i64 t0, .int .i64 l0, .int .i64 u0, .int .i64 k0] 46)).cell? ⟨wr.heap.size, 1, none⟩ = some (.int .i64 t0) := cell_mk _ _ _ rfl rfl
      have a2 : (wr.alloc (.cells #[.int .i64 f0, .int .i64 t0, .int .i64 l0, .int .i64 u0, .int .i64 k0] 46)).cell? ⟨wr.heap.size, 2, none⟩ = some (.int .i64 l0) := cell_mk _ _ _ rfl rfl
      have a3 : (wr.alloc (.cells #[.int .i64 f0, .int .i64 t0, .int .i64 l0, .int .i64 u0, .int .i64 k0] 46)).cell? ⟨wr.heap.size, 3, none⟩ = some (.int .i64 u0) := cell_mk _ _ _ rfl rfl
      have a4 : (wr.alloc (.cells #[.int .i64 f0, .int .i64 t0, .int .i64 l0, .int .i64 u0, .int .i64 k0] 46)).cell? ⟨wr.heap.size, 4, none⟩ = some (.int .i64 k0) := cell_mk _ _ _ rfl rfl
      have c0' := (HBN.out.cell (p := ⟨gn, 0, none⟩) hg).trans HC0.out
      have hga := block_lt_of_cell a0
      have hgc := block_lt_of_cell c0'
      clear q0 q1 q2 q3 q4 c0 c1 hgr hbl
      generalize wr.alloc (.cells #[.int .i64 f0, .int .i64 t0, .int .i64 l0, .int .i64 u0, .int .i64 k0] 46) = wB at *
      generalize wr.heap.size = ga at *
      go_cut [79] from 31 to 79 (fun v79 wx => v79 = .bool (badA V ⟨f0, t0, l0, u0, k0⟩) ∧ wB = wx)
      case first =>
        rcases Bool.eq_false_or_eq_true (decide (f0 < 0)) with d0 | d0
        · have HE := Lib.hid (show badA V ⟨f0, t0, l0, u0, k0⟩ = true from badA_true (by simp only [decide_eq_false_iff_not, decide_eq_true_eq] at *; omega))
          go_wp2
          go_meet
          exact ⟨by rw [HE.out], rfl⟩
        · rcases Bool.eq_false_or_eq_true (decide (V ≤ f0)) with d1 | d1
          · have HE := Lib.hid (show badA V ⟨f0, t0, l0, u0, k0⟩ = true from badA_true (by simp only [decide_eq_false_iff_not, decide_eq_true_eq] at *; omega))
            go_wp2
            go_meet
            exact ⟨by rw [HE.out], rfl⟩
          · rcases Bool.eq_false_or_eq_true (decide (t0 < 0)) with d2 | d2
            · have HE := Lib.hid (show badA V ⟨f0, t0, l0, u0, k0⟩ = true from badA_true (by simp only [decide_eq_false_iff_not, decide_eq_true_eq] at *; omega))
              go_wp2
              go_meet
              exact ⟨by rw [HE.out], rfl⟩
            · rcases Bool.eq_false_or_eq_true (decide (V ≤ t0)) with d3 | d3
              · have HE := Lib.hid (show badA V ⟨f0, t0, l0, u0, k0⟩ = true from badA_true (by simp only [decide_eq_false_iff_not, decide_eq_true_eq] at *; omega))
                go_wp2
                go_meet
                exact ⟨by rw [HE.out], rfl⟩
              · rcases Bool.eq_false_or_eq_true (decide (l0 < 0)) with d4 | d4
                · have HE := Lib.hid (show badA V ⟨f0, t0, l0, u0, k0⟩ = true from badA_true (by simp only [decide_eq_false_iff_not, decide_eq_true_eq] at *; omega))
                  go_wp2
                  go_meet
                  exact ⟨by rw [HE.out], rfl⟩
                · rcases Bool.eq_false_or_eq_true (decide (u0 < l0)) with d5 | d5
                  · have HE := Lib.hid (show badA V ⟨f0, t0, l0, u0, k0⟩ = true from badA_true (by simp only [decide_eq_false_iff_not, decide_eq_true_eq] at *; omega))
                    go_wp2
                    go_meet
                    exact ⟨by rw [HE.out], rfl⟩
                  · rcases Bool.eq_false_or_eq_true (decide (1099511627776 < u0)) with d6 | d6
                    · have HE := Lib.hid (show badA V ⟨f0, t0, l0, u0, k0⟩ = true from badA_true (by simp only [decide_eq_false_iff_not, decide_eq_true_eq] at *; omega))
                      go_wp2
                      go_meet
                      exact ⟨by rw [HE.out], rfl⟩
                    · rcases Bool.eq_false_or_eq_true (decide (k0 < -1000)) with d7 | d7
                      · have HE := Lib.hid (show badA V ⟨f0, t0, l0, u0, k0⟩ = true from badA_true (by simp only [decide_eq_false_iff_not, decide_eq_true_eq] at *; omega))
                        go_wp2
                        go_meet
                        exact ⟨by rw [HE.out], rfl⟩
                      · rcases Bool.eq_false_or_eq_true (decide (1000 < k0)) with d8 | d8
                        · have HE := Lib.hid (show badA V ⟨f0, t0, l0, u0, k0⟩ = true from badA_true (by simp only [decide_eq_false_iff_not, decide_eq_true_eq] at *; omega))
                          go_wp2
                          go_meet
                          exact ⟨by rw [HE.out], rfl⟩
                        · have HE := Lib.hid (show badA V ⟨f0, t0, l0, u0, k0⟩ = false from badA_false.2 (by simp only [decide_eq_false_iff_not] at *; omega))
                          go_wp2
                          go_meet
                          exact ⟨by rw [HE.out], rfl⟩
      case rest =>
        obtain ⟨rfl, rfl⟩ := hcut
        have HBM := Lib.hid (HA0.out.trans (HBN.out.mono HA0.out.size))
        cases hok : badA V ⟨f0, t0, l0, u0, k0⟩
        · have HT : Hid (∀ j, j < k + 1 → badA V (A j) = false) := Lib.hid (fun j hj => by
            by_cases e : j = k
            · subst e; rw [HRK.out]; exact hok
            · exact HP.out j (by omega))
          clear hok
          go_wp2_with fail
          go_roundw
          case rel => exact ⟨k + 1, by omega, by go_num, HT, HBN⟩
          case measure => simp [intOf]; omega
        · have HE := Lib.hid (HBAD.out k hlt (by rw [HRK.out]; exact hok))
          clear hok
          go_wp2_with fail
          go_ret
          exact ⟨by rw [HE.out]; rfl, HBM.out⟩
    · obtain rfl : k = m := by omega
      have HE := Lib.hid (HGOOD.out HP.out)
      go_wp2_with fail
      go_ret
      exact ⟨by rw [HE.out]; rfl, HBW.out⟩
end Go.Proofs.Ythoehobofdeifaa
