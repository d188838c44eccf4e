/-
  WALK of the reference's Signs: the errors.
-/
import Derived.Test.YtjlalilhmadmcaaRefSigns
namespace Go.Proofs.Ytjlalilhmadmcaa
open Go.ChangeShapes Go.WideShapes Go.ChangeAt Go.RowKit

set_option maxRecDepth 100000 in
set_option maxHeartbeats 8000000 in
theorem refSigns_bad (a : Option Addr) (len cap : Nat) (q : Nat → Int × Int) (margin : Int) (m0 : 0 ≤ margin) (m1 : margin ≤ 1000) (hl : len ≤ 60) (w : World) (h : PairsAt w a len q) (hM : ¬ allM q len) :
    Calls Try.prog 29 #[.slice a len cap, .int .i64 margin] w fun e w' => e = .returned (.tuple #[.int .i64 0, .int .i64 0, .int .i64 1]) ∧ Below w.heap.size w w' := by
  have d1 : decide (margin < 0) = false := by simp; omega
  have d2 : decide ((1000 : Int) < margin) = false := by simp; omega
  have d3 : decide ((60 : Int) < (len : Int)) = false := by simp; omega
  have HP := Lib.hid h
  have HM := Lib.hid hM
  clear h hM
  go_enter Try.func29, Try.ntmps29
  go_wp2_with fail
  go_loopw [7, 8, 9] (fun v4 v5 v22 wr => ∃ k nb nw : Nat, k ≤ len ∧ v22 = .int .i64 k ∧ v4 = .int .i64 nb ∧ v5 = .int .i64 nw ∧ nb ≤ k ∧ nw ≤ k ∧ allM q k ∧ Below w.heap.size w wr) (fun _ _ v _ => len - (intOf v).toNat)
  case atStart => exact ⟨0, 0, 0, by omega, rfl, rfl, rfl, by omega, by omega, fun i hi => absurd hi (by omega), Below.refl _ _⟩
  case round =>
    obtain ⟨k, nb, nw, hk, rfl, rfl, rfl, hnb, hnw, hall, hb⟩ := hrel
    have HA := Lib.hid hall
    clear hall
    by_cases hlt : k < len
    · obtain ⟨b, off, rfl, hbl, c1, c2⟩ := HP.out k hlt
      have k1 := (hb.cell (p := ⟨b, off + k * 2, none⟩) hbl).trans c1
      have k2 := (hb.cell (p := ⟨b, off + k * 2 + 1, none⟩) hbl).trans c2
      have hnext : meas (q k).1 = true → meas (q k).2 = true → allM q (k + 1) := fun h1 h2 i hi => by
        by_cases e : i = k
        · rw [e]; exact ⟨h1, h2⟩
        · exact HA.out i (by omega)
      clear c1 c2
      generalize (q k).1 = o at *
      generalize (q k).2 = n at *
      by_cases me1 : meas o = true
      · by_cases me2 : meas n = true
        · have HN := Lib.hid (hnext me1 me2)
          have he1 := me1
          have he2 := me2
          simp only [meas, decide_eq_true_eq] at he1 he2
          obtain ⟨p1, hp1⟩ : ∃ p1, (1000 + margin) * o = p1 := ⟨_, rfl⟩
          obtain ⟨p2, hp2⟩ : ∃ p2, (1000 + margin) * n = p2 := ⟨_, rfl⟩
          have q1 : 1000 * o ≤ p1 := by rw [← hp1, Int.add_mul]; have := Int.mul_nonneg m0 he1.1; omega
          have q2 : 1000 * n ≤ p2 := by rw [← hp2, Int.add_mul]; have := Int.mul_nonneg m0 he2.1; omega
          have q3 : p1 ≤ 2199023255552000 := by
            rw [← hp1]
            exact Int.le_trans (Int.mul_le_mul_of_nonneg_right (show 1000 + margin ≤ 2000 by omega) he1.1) (by omega)
          have q4 : p2 ≤ 2199023255552000 := by
            rw [← hp2]
            exact Int.le_trans (Int.mul_le_mul_of_nonneg_right (show 1000 + margin ≤ 2000 by omega) he2.1) (by omega)
          obtain ⟨o0, o1⟩ := he1
          obtain ⟨n0, n1⟩ := he2
          have ME1 := Lib.hid me1
          have ME2 := Lib.hid me2
          clear me1 me2 hnext
          have i0 : (0 : Int) ≤ (k : Int) := by omega
          have i1 : (k : Int) < (len : Int) := by omega
          have x1 : IntKind.i64.wrap (1000 * n) = 1000 * n := IntWalk.i64_in _ (by omega)
          have x2 : IntKind.i64.wrap (1000 * o) = 1000 * o := IntWalk.i64_in _ (by omega)
          have x3 : IntKind.i64.wrap (1000 + margin) = 1000 + margin := IntWalk.i64_in _ (by omega)
          have x4 : IntKind.i64.wrap p1 = p1 := IntWalk.i64_in _ (by omega)
          have x5 : IntKind.i64.wrap p2 = p2 := IntWalk.i64_in _ (by omega)
          have HB : Hid (∀ x, Below w.heap.size w (wr.drewN x)) := fun x => below_drewN hb x
          by_cases hw : p1 < 1000 * n
          · have hb2' : decide (p2 < 1000 * o) = false := by simp; omega
            go_wp2_with (go_at_call 37; first | (refine (refcount_any o _).mono ?_; rw [ME1.out]; rintro e w1 ⟨rfl, rfl⟩) | (refine (refcount_any n _).mono ?_; rw [ME2.out]; rintro e w1 ⟨rfl, rfl⟩))
            go_quiet (fail)
            go_wp2_with fail
            go_quiet (fail)
            clear x1 x2 x3 x4 x5 i0 i1
            go_wp2_with fail
            exact ⟨⟨k + 1, nb, nw + 1, by omega, by go_num, by go_num, by go_num, by omega, by omega, HN.out, by first | exact HB.out _ | exact below_drewN (HB.out _) _⟩, by simp [intOf]; omega⟩
          · have hw' : decide (p1 < 1000 * n) = false := by simp; omega
            by_cases hb2 : p2 < 1000 * o
            · go_wp2_with (go_at_call 37; first | (refine (refcount_any o _).mono ?_; rw [ME1.out]; rintro e w1 ⟨rfl, rfl⟩) | (refine (refcount_any n _).mono ?_; rw [ME2.out]; rintro e w1 ⟨rfl, rfl⟩))
              go_quiet (fail)
              go_wp2_with fail
              go_quiet (fail)
              clear x1 x2 x3 x4 x5 i0 i1
              go_wp2_with fail
              exact ⟨⟨k + 1, nb + 1, nw, by omega, by go_num, by go_num, by go_num, by omega, by omega, HN.out, by first | exact HB.out _ | exact below_drewN (HB.out _) _⟩, by simp [intOf]; omega⟩
            · have hb2' : decide (p2 < 1000 * o) = false := by simp; omega
              go_wp2_with (go_at_call 37; first | (refine (refcount_any o _).mono ?_; rw [ME1.out]; rintro e w1 ⟨rfl, rfl⟩) | (refine (refcount_any n _).mono ?_; rw [ME2.out]; rintro e w1 ⟨rfl, rfl⟩))
              go_quiet (fail)
              go_wp2_with fail
              go_quiet (fail)
              clear x1 x2 x3 x4 x5 i0 i1
              go_wp2_with fail
              exact ⟨⟨k + 1, nb, nw, by omega, by go_num, by go_num, by go_num, by omega, by omega, HN.out, by first | exact HB.out _ | exact below_drewN (HB.out _) _⟩, by simp [intOf]; omega⟩
        · have me2' : meas n = false := by simpa using me2
          have ME1 := Lib.hid me1
          have ME2 := Lib.hid me2'
          clear me1 me2 me2' hnext
          go_wp2_with (go_at_call 37; first | (refine (refcount_any o _).mono ?_; rw [ME1.out]; rintro e w1 ⟨rfl, rfl⟩) | (refine (refcount_any n _).mono ?_; rw [ME2.out]; rintro e w1 ⟨rfl, rfl⟩))
          go_ret3
          exact ⟨rfl, hb⟩
      · have me1' : meas o = false := by simpa using me1
        have ME1 := Lib.hid me1'
        clear me1 me1' hnext
        go_wp2_with (go_at_call 37; (refine (refcount_any o _).mono ?_; rw [ME1.out]; rintro e w1 ⟨rfl, rfl⟩))
        go_ret3
        exact ⟨rfl, hb⟩
    · obtain rfl : k = len := by omega
      exact absurd HA.out HM.out

theorem refSigns_no (a : Option Addr) (len cap : Nat) (margin : Int) (hl : len ≤ 9223372036854775807) (h : margin < 0 ∨ 1000 < margin ∨ 60 < len) (w : World) :
    Calls Try.prog 29 #[.slice a len cap, .int .i64 margin] w fun e w' => e = .returned (.tuple #[.int .i64 0, .int .i64 0, .int .i64 1]) ∧ Below w.heap.size w w' := by
  by_cases c1 : margin < 0
  · clear h
    go_enter Try.func29, Try.ntmps29
    go_wp2
    go_ret3
    exact ⟨rfl, Below.refl _ _⟩
  · by_cases c2 : 1000 < margin
    · clear h
      go_enter Try.func29, Try.ntmps29
      go_wp2
      go_ret3
      exact ⟨rfl, Below.refl _ _⟩
    · have c3 : (60 : Int) < (len : Int) := by omega
      clear h
      go_enter Try.func29, Try.ntmps29
      go_wp2
      go_ret3
      exact ⟨rfl, Below.refl _ _⟩
end Go.Proofs.Ytjlalilhmadmcaa
