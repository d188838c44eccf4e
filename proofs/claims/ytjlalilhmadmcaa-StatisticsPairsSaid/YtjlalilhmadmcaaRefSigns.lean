/-
  WALK of the reference's Signs.
-/
import Derived.Test.YtjlalilhmadmcaaSigns
namespace Go.Proofs.Ytjlalilhmadmcaa
open Go.ChangeShapes Go.WideShapes Go.ChangeAt Go.RowKit

theorem refcount_any (n : Int) (w : World) : Calls Try.prog 37 #[.int .i64 n] w fun e w' => e = .returned (.bool (meas n)) ∧ w = w' := by
  by_cases h0 : 0 ≤ n
  · by_cases h1 : n ≤ 1099511627776
    · have H : Hid (meas n = true) := Lib.hid (by simp [meas]; omega)
      go_enter Try.func37, Try.ntmps37
      go_wp2
      go_ret
      exact ⟨by rw [H.out]; simp, rfl⟩
    · have H : Hid (meas n = false) := Lib.hid (by simp [meas]; omega)
      have hd : decide (n ≤ 1099511627776) = false := by simp; omega
      go_enter Try.func37, Try.ntmps37
      go_wp2
      go_ret
      exact ⟨by rw [H.out]; rfl, rfl⟩
  · have H : Hid (meas n = false) := Lib.hid (by simp [meas]; omega)
    go_enter Try.func37, Try.ntmps37
    go_wp2
    go_ret
    exact ⟨by rw [H.out]; rfl, rfl⟩


set_option maxRecDepth 100000 in
set_option maxHeartbeats 2000000 in
theorem refSigns_in (a : Option Addr) (len cap : Nat) (q : Nat → Int × Int) (margin : Int) (m0 : 0 ≤ margin) (m1 : margin ≤ 1000) (hl : len ≤ 60) (w : World) (h : PairsAt w a len q) (hM : allM q len) :
    Calls Try.prog 29 #[.slice a len cap, .int .i64 margin] w fun e w' => e = .returned (.tuple #[.int .i64 (cnt (fun i => betB margin (q i)) len : Nat), .int .i64 (cnt (fun i => wrsB margin (q i)) len : Nat), .int .i64 0]) ∧ Below w.heap.size w w' := by
  have d1 : decide (margin < 0) = false := by simp; omega
  have d2 : decide ((1000 : Int) < margin) = false := by simp; omega
  have d3 : decide ((60 : Int) < (len : Int)) = false := by simp; omega
  have HP := Lib.hid h
  have HM := Lib.hid hM
  clear h hM
  go_enter Try.func29, Try.ntmps29
  go_wp2_with fail
  go_loopw [7, 8, 9] (fun v4 v5 v22 wr => ∃ k : Nat, k ≤ len ∧ v22 = .int .i64 k ∧ v4 = .int .i64 (cnt (fun i => betB margin (q i)) k : Nat) ∧ v5 = .int .i64 (cnt (fun i => wrsB margin (q i)) k : Nat) ∧ Below w.heap.size w wr) (fun _ _ v _ => len - (intOf v).toNat)
  case atStart => exact ⟨0, by omega, rfl, rfl, rfl, Below.refl _ _⟩
  case round =>
    obtain ⟨k, hk, rfl, rfl, rfl, hb⟩ := hrel
    have cb := cnt_le (fun i => betB margin (q i)) k
    have cw := cnt_le (fun i => wrsB margin (q i)) k
    have CB : Hid (cnt (fun i => betB margin (q i)) (k + 1) = cnt (fun i => betB margin (q i)) k + if betB margin (q k) then 1 else 0) := rfl
    have CW : Hid (cnt (fun i => wrsB margin (q i)) (k + 1) = cnt (fun i => wrsB margin (q i)) k + if wrsB margin (q k) then 1 else 0) := rfl
    by_cases hlt : k < len
    · obtain ⟨b, off, rfl, hbl, c1, c2⟩ := HP.out k hlt
      have k1 := (hb.cell (p := ⟨b, off + k * 2, none⟩) hbl).trans c1
      have k2 := (hb.cell (p := ⟨b, off + k * 2 + 1, none⟩) hbl).trans c2
      obtain ⟨me1, me2⟩ := HM.out k hlt
      have he1 := me1
      have he2 := me2
      simp only [meas, decide_eq_true_eq] at he1 he2
      obtain ⟨p1, hp1⟩ : ∃ p1, (1000 + margin) * (q k).1 = p1 := ⟨_, rfl⟩
      obtain ⟨p2, hp2⟩ : ∃ p2, (1000 + margin) * (q k).2 = p2 := ⟨_, rfl⟩
      have hwd : wrsB margin (q k) = decide (p1 < 1000 * (q k).2) := by unfold wrsB; rw [hp1]
      have hbd : betB margin (q k) = decide (p2 < 1000 * (q k).1) := by unfold betB; rw [hp2]
      generalize cnt (fun i => betB margin (q i)) k = nb at *
      generalize cnt (fun i => wrsB margin (q i)) k = nw at *
      generalize betB margin (q k) = bB at *
      generalize wrsB margin (q k) = wB at *
      generalize (q k).1 = o at *
      generalize (q k).2 = n at *
      have q1 : 1000 * o ≤ p1 := by rw [← hp1, Int.add_mul]; have := Int.mul_nonneg m0 he1.1; omega
      have q2 : 1000 * n ≤ p2 := by rw [← hp2, Int.add_mul]; have := Int.mul_nonneg m0 he2.1; omega
      have q3 : p1 ≤ 2199023255552000 := by
        rw [← hp1]
        exact Int.le_trans (Int.mul_le_mul_of_nonneg_right (show 1000 + margin ≤ 2000 by omega) he1.1) (by omega)
      have q4 : p2 ≤ 2199023255552000 := by
        rw [← hp2]
        exact Int.le_trans (Int.mul_le_mul_of_nonneg_right (show 1000 + margin ≤ 2000 by omega) he2.1) (by omega)
      obtain ⟨o0, o1⟩ := he1
      obtain ⟨n0, n1⟩ := he2
      have ME1 := Lib.hid me1
      have ME2 := Lib.hid me2
      have HB : Hid (∀ x, Below w.heap.size w (wr.drewN x)) := fun x => below_drewN hb x
      clear c1 c2 me1 me2
      have i0 : (0 : Int) ≤ (k : Int) := by omega
      have i1 : (k : Int) < (len : Int) := by omega
      have x1 : IntKind.i64.wrap (1000 * n) = 1000 * n := IntWalk.i64_in _ (by omega)
      have x2 : IntKind.i64.wrap (1000 * o) = 1000 * o := IntWalk.i64_in _ (by omega)
      have x3 : IntKind.i64.wrap (1000 + margin) = 1000 + margin := IntWalk.i64_in _ (by omega)
      have x4 : IntKind.i64.wrap p1 = p1 := IntWalk.i64_in _ (by omega)
      have x5 : IntKind.i64.wrap p2 = p2 := IntWalk.i64_in _ (by omega)
      by_cases hw : p1 < 1000 * n
      · have hb2 : ¬ p2 < 1000 * o := by omega
        rw [decide_eq_true hw] at hwd
        rw [decide_eq_false hb2] at hbd
        subst hwd hbd
        have hb2' : decide (p2 < 1000 * o) = false := by simp; omega
        go_wp2_with (go_at_call 37; first | (refine (refcount_any o _).mono ?_; rw [ME1.out]; rintro e w1 ⟨rfl, rfl⟩) | (refine (refcount_any n _).mono ?_; rw [ME2.out]; rintro e w1 ⟨rfl, rfl⟩))
        go_quiet (fail)
        go_wp2_with fail
        go_quiet (fail)
        clear x1 x2 x3 x4 x5 i0 i1
        go_wp2_with fail
        exact ⟨⟨k + 1, by omega, by go_num, by rw [CB.out]; simp, by rw [CW.out]; simp, by first | exact HB.out _ | exact below_drewN (HB.out _) _⟩, by simp [intOf]; omega⟩
      · by_cases hb2 : p2 < 1000 * o
        · rw [decide_eq_false hw] at hwd
          rw [decide_eq_true hb2] at hbd
          subst hwd hbd
          have hw' : decide (p1 < 1000 * n) = false := by simp; omega
          go_wp2_with (go_at_call 37; first | (refine (refcount_any o _).mono ?_; rw [ME1.out]; rintro e w1 ⟨rfl, rfl⟩) | (refine (refcount_any n _).mono ?_; rw [ME2.out]; rintro e w1 ⟨rfl, rfl⟩))
          go_quiet (fail)
          go_wp2_with fail
          go_quiet (fail)
          clear x1 x2 x3 x4 x5 i0 i1
          go_wp2_with fail
          exact ⟨⟨k + 1, by omega, by go_num, by rw [CB.out]; simp, by rw [CW.out]; simp, by first | exact HB.out _ | exact below_drewN (HB.out _) _⟩, by simp [intOf]; omega⟩
        · rw [decide_eq_false hw] at hwd
          rw [decide_eq_false hb2] at hbd
          subst hwd hbd
          have hw' : decide (p1 < 1000 * n) = false := by simp; omega
          have hb2' : decide (p2 < 1000 * o) = false := by simp; omega
          go_wp2_with (go_at_call 37; first | (refine (refcount_any o _).mono ?_; rw [ME1.out]; rintro e w1 ⟨rfl, rfl⟩) | (refine (refcount_any n _).mono ?_; rw [ME2.out]; rintro e w1 ⟨rfl, rfl⟩))
          go_quiet (fail)
          go_wp2_with fail
          go_quiet (fail)
          clear x1 x2 x3 x4 x5 i0 i1
          go_wp2_with fail
          exact ⟨⟨k + 1, by omega, by go_num, by rw [CB.out]; simp, by rw [CW.out]; simp, by first | exact HB.out _ | exact below_drewN (HB.out _) _⟩, by simp [intOf]; omega⟩
    · obtain rfl : k = len := by omega
      clear CB CW
      obtain ⟨nb, hnb⟩ : ∃ nb, cnt (fun i => betB margin (q i)) k = nb := ⟨_, rfl⟩
      obtain ⟨nw, hnw⟩ : ∃ nw, cnt (fun i => wrsB margin (q i)) k = nw := ⟨_, rfl⟩
      rw [hnb, hnw]
      have NB := Lib.hid hnb
      have NW := Lib.hid hnw
      clear hnb hnw cb cw
      go_wp2_with fail
      go_ret3
      exact ⟨by rw [NB.out, NW.out]; rfl, hb⟩
end Go.Proofs.Ytjlalilhmadmcaa
