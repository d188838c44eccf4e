/-
  WALK of statistics.Signs.
-/
import Derived.Test.YtjlalilhmadmcaaThr
namespace Go.Proofs.Ytjlalilhmadmcaa
open Go.ChangeShapes Go.WideShapes Go.ChangeAt Go.RowKit

/-- how many of the first k numbers have a property -/
def cnt (f : Nat → Bool) : Nat → Nat
  | 0 => 0
  | k + 1 => cnt f k + if f k then 1 else 0
theorem cnt_le (f : Nat → Bool) : ∀ k, cnt f k ≤ k := by
  intro k
  induction k with
  | zero => exact Nat.le_refl _
  | succ k ih => show cnt f k + _ ≤ k + 1; split <;> omega
def meas (x : Int) : Bool := decide (0 ≤ x ∧ x ≤ 1099511627776)
def wrsB (margin : Int) (q : Int × Int) : Bool := decide ((1000 + margin) * q.1 < 1000 * q.2)
def betB (margin : Int) (q : Int × Int) : Bool := decide ((1000 + margin) * q.2 < 1000 * q.1)
def allM (q : Nat → Int × Int) (k : Nat) : Prop := ∀ i, i < k → meas (q i).1 = true ∧ meas (q i).2 = true

/-- a slice of pairs reads as q -/
def PairsAt (w : World) (a : Option Addr) (len : Nat) (q : Nat → Int × Int) : Prop :=
  ∀ i, i < len → ∃ b off, a = some ⟨b, off, none⟩ ∧ b < w.heap.size ∧ w.cell? ⟨b, off + i * 2, none⟩ = some (.int .i64 (q i).1) ∧ w.cell? ⟨b, off + i * 2 + 1, none⟩ = some (.int .i64 (q i).2)
theorem PairsAt.keep {w w' : World} {a : Option Addr} {len : Nat} {q : Nat → Int × Int} (h : PairsAt w a len q) (hs : w.heap.size ≤ w'.heap.size) (hk : ∀ p : Addr, p.block < w.heap.size → w'.cell? p = w.cell? p) : PairsAt w' a len q := by
  intro i hi
  obtain ⟨b, off, e, hb, h1, h2⟩ := h i hi
  exact ⟨b, off, e, by omega, (hk ⟨b, off + i * 2, none⟩ hb).trans h1, (hk ⟨b, off + i * 2 + 1, none⟩ hb).trans h2⟩
theorem PairsAt.below {w w' : World} {a : Option Addr} {len : Nat} {q : Nat → Int × Int} (h : PairsAt w a len q) (hb : Below w.heap.size w w') : PairsAt w' a len q := h.keep hb.size fun _ hp => hb.cell hp

theorem measured_any (n : Int) (w : World) : Calls Try.prog 36 #[.int .i64 n] w fun e w' => e = .returned (.bool (meas n)) ∧ w = w' := by
  by_cases h0 : 0 ≤ n
  · by_cases h1 : n ≤ 1099511627776
    · have H : Hid (meas n = true) := Lib.hid (by simp [meas]; omega)
      go_enter Try.func36, Try.ntmps36
      go_wp2
      go_ret
      exact ⟨by rw [H.out]; simp, rfl⟩
    · have H : Hid (meas n = false) := Lib.hid (by simp [meas]; omega)
      have hd : decide (n ≤ 1099511627776) = false := by simp; omega
      go_enter Try.func36, Try.ntmps36
      go_wp2
      go_ret
      exact ⟨by rw [H.out]; rfl, rfl⟩
  · have H : Hid (meas n = false) := Lib.hid (by simp [meas]; omega)
    go_enter Try.func36, Try.ntmps36
    go_wp2
    go_ret
    exact ⟨by rw [H.out]; rfl, rfl⟩

set_option maxRecDepth 100000 in
set_option maxHeartbeats 2000000 in
theorem Signs_in (a : Option Addr) (len cap : Nat) (q : Nat → Int × Int) (margin : Int) (m0 : 0 ≤ margin) (m1 : margin ≤ 1000) (hl : len ≤ 60) (w : World) (h : PairsAt w a len q) (hM : allM q len) :
    Calls Try.prog 28 #[.slice a len cap, .int .i64 margin] w fun e w' => e = .returned (.tuple #[.int .i64 (cnt (fun i => betB margin (q i)) len : Nat), .int .i64 (cnt (fun i => wrsB margin (q i)) len : Nat), .int .i64 0]) ∧ Below w.heap.size w w' := by
  have d1 : decide (margin < 0) = false := by simp; omega
  have d2 : decide ((1000 : Int) < margin) = false := by simp; omega
  have d3 : decide ((60 : Int) < (len : Int)) = false := by simp; omega
  have HP := Lib.hid h
  have HM := Lib.hid hM
  clear h hM
  go_enter Try.func28, Try.ntmps28
  go_wp2_with fail
  go_loopw [4, 5, 22] (fun v4 v5 v22 wr => ∃ k : Nat, k ≤ len ∧ v22 = .int .i64 k ∧ v4 = .int .i64 (cnt (fun i => betB margin (q i)) k : Nat) ∧ v5 = .int .i64 (cnt (fun i => wrsB margin (q i)) k : Nat) ∧ Below w.heap.size w wr) (fun _ _ v _ => len - (intOf v).toNat)
  case atStart => exact ⟨0, by omega, rfl, rfl, rfl, Below.refl _ _⟩
  case round =>
    obtain ⟨k, hk, rfl, rfl, rfl, hb⟩ := hrel
    have cb := cnt_le (fun i => betB margin (q i)) k
    have cw := cnt_le (fun i => wrsB margin (q i)) k
    have CB : Hid (cnt (fun i => betB margin (q i)) (k + 1) = cnt (fun i => betB margin (q i)) k + if betB margin (q k) then 1 else 0) := rfl
    have CW : Hid (cnt (fun i => wrsB margin (q i)) (k + 1) = cnt (fun i => wrsB margin (q i)) k + if wrsB margin (q k) then 1 else 0) := rfl
    by_cases hlt : k < len
    · obtain ⟨b, off, rfl, hbl, c1, c2⟩ := HP.out k hlt
      have k1 := (hb.cell (p := ⟨b, off + k * 2, none⟩) hbl).trans c1
      have k2 := (hb.cell (p := ⟨b, off + k * 2 + 1, none⟩) hbl).trans c2
      obtain ⟨me1, me2⟩ := HM.out k hlt
      have he1 := me1
      have he2 := me2
      simp only [meas, decide_eq_true_eq] at he1 he2
      obtain ⟨p1, hp1⟩ : ∃ p1, (1000 + margin) * (q k).1 = p1 := ⟨_, rfl⟩
      obtain ⟨p2, hp2⟩ : ∃ p2, (1000 + margin) * (q k).2 = p2 := ⟨_, rfl⟩
      have hwd : wrsB margin (q k) = decide (p1 < 1000 * (q k).2) := by unfold wrsB; rw [hp1]
      have hbd : betB margin (q k) = decide (p2 < 1000 * (q k).1) := by unfold betB; rw [hp2]
      generalize cnt (fun i => betB margin (q i)) k = nb at *
      generalize cnt (fun i => wrsB margin (q i)) k = nw at *
      generalize betB margin (q k) = bB at *
      generalize wrsB margin (q k) = wB at *
      generalize (q k).1 = o at *
      generalize (q k).2 = n at *
      have q1 : 1000 * o ≤ p1 := by rw [← hp1, Int.add_mul]; have := Int.mul_nonneg m0 he1.1; omega
      have q2 : 1000 * n ≤ p2 := by rw [← hp2, Int.add_mul]; have := Int.mul_nonneg m0 he2.1; omega
      have q3 : p1 ≤ 2199023255552000 := by
        rw [← hp1]
        exact Int.le_trans (Int.mul_le_mul_of_nonneg_right (show 1000 + margin ≤ 2000 by omega) he1.1) (by omega)
      have q4 : p2 ≤ 2199023255552000 := by
        rw [← hp2]
        exact Int.le_trans (Int.mul_le_mul_of_nonneg_right (show 1000 + margin ≤ 2000 by omega) he2.1) (by omega)
      obtain ⟨o0, o1⟩ := he1
      obtain ⟨n0, n1⟩ := he2
      have ME1 := Lib.hid me1
      have ME2 := Lib.hid me2
      clear c1 c2 me1 me2
      by_cases hw : p1 < 1000 * n
      · have hb2 : ¬ p2 < 1000 * o := by omega
        rw [decide_eq_true hw] at hwd
        rw [decide_eq_false hb2] at hbd
        subst hwd hbd
        clear hb2
        go_wp2_with (go_at_call 36; first | (refine (measured_any o _).mono ?_; rw [ME1.out]; rintro e w1 ⟨rfl, rfl⟩) | (refine (measured_any n _).mono ?_; rw [ME2.out]; rintro e w1 ⟨rfl, rfl⟩))
        exact ⟨⟨k + 1, by omega, by go_num, by rw [CB.out]; simp, by rw [CW.out]; simp, hb.alloc hb.size _⟩, by simp [intOf]; omega⟩
      · by_cases hb2 : p2 < 1000 * o
        · rw [decide_eq_false hw] at hwd
          rw [decide_eq_true hb2] at hbd
          subst hwd hbd
          go_wp2_with (go_at_call 36; first | (refine (measured_any o _).mono ?_; rw [ME1.out]; rintro e w1 ⟨rfl, rfl⟩) | (refine (measured_any n _).mono ?_; rw [ME2.out]; rintro e w1 ⟨rfl, rfl⟩))
          exact ⟨⟨k + 1, by omega, by go_num, by rw [CB.out]; simp, by rw [CW.out]; simp, hb.alloc hb.size _⟩, by simp [intOf]; omega⟩
        · rw [decide_eq_false hw] at hwd
          rw [decide_eq_false hb2] at hbd
          subst hwd hbd
          go_wp2_with (go_at_call 36; first | (refine (measured_any o _).mono ?_; rw [ME1.out]; rintro e w1 ⟨rfl, rfl⟩) | (refine (measured_any n _).mono ?_; rw [ME2.out]; rintro e w1 ⟨rfl, rfl⟩))
          exact ⟨⟨k + 1, by omega, by go_num, by rw [CB.out]; simp, by rw [CW.out]; simp, hb.alloc hb.size _⟩, by simp [intOf]; omega⟩
    · obtain rfl : k = len := by omega
      clear CB CW
      obtain ⟨nb, hnb⟩ : ∃ nb, cnt (fun i => betB margin (q i)) k = nb := ⟨_, rfl⟩
      obtain ⟨nw, hnw⟩ : ∃ nw, cnt (fun i => wrsB margin (q i)) k = nw := ⟨_, rfl⟩
      rw [hnb, hnw]
      have NB := Lib.hid hnb
      have NW := Lib.hid hnw
      clear hnb hnw cb cw
      go_wp2_with fail
      go_ret3
      exact ⟨by rw [NB.out, NW.out]; rfl, hb⟩

set_option maxRecDepth 100000 in
set_option maxHeartbeats 2000000 in
theorem Signs_bad (a : Option Addr) (len cap : Nat) (q : Nat → Int × Int) (margin : Int) (m0 : 0 ≤ margin) (m1 : margin ≤ 1000) (hl : len ≤ 60) (w : World) (h : PairsAt w a len q) (hM : ¬ allM q len) :
    Calls Try.prog 28 #[.slice a len cap, .int .i64 margin] w fun e w' => e = .returned (.tuple #[.int .i64 0, .int .i64 0, .int .i64 1]) ∧ Below w.heap.size w w' := by
  have d1 : decide (margin < 0) = false := by simp; omega
  have d2 : decide ((1000 : Int) < margin) = false := by simp; omega
  have d3 : decide ((60 : Int) < (len : Int)) = false := by simp; omega
  have HP := Lib.hid h
  have HM := Lib.hid hM
  clear h hM
  go_enter Try.func28, Try.ntmps28
  go_wp2_with fail
  go_loopw [4, 5, 22] (fun v4 v5 v22 wr => ∃ k nb nw : Nat, k ≤ len ∧ v22 = .int .i64 k ∧ v4 = .int .i64 nb ∧ v5 = .int .i64 nw ∧ nb ≤ k ∧ nw ≤ k ∧ allM q k ∧ Below w.heap.size w wr) (fun _ _ v _ => len - (intOf v).toNat)
  case atStart => exact ⟨0, 0, 0, by omega, rfl, rfl, rfl, by omega, by omega, fun i hi => absurd hi (by omega), Below.refl _ _⟩
  case round =>
    obtain ⟨k, nb, nw, hk, rfl, rfl, rfl, hnb, hnw, hall, hb⟩ := hrel
    have HA := Lib.hid hall
    clear hall
    by_cases hlt : k < len
    · obtain ⟨b, off, rfl, hbl, c1, c2⟩ := HP.out k hlt
      have k1 := (hb.cell (p := ⟨b, off + k * 2, none⟩) hbl).trans c1
      have k2 := (hb.cell (p := ⟨b, off + k * 2 + 1, none⟩) hbl).trans c2
      have hnext : meas (q k).1 = true → meas (q k).2 = true → allM q (k + 1) := fun h1 h2 i hi => by
        by_cases e : i = k
        · rw [e]; exact ⟨h1, h2⟩
        · exact HA.out i (by omega)
      clear c1 c2
      generalize (q k).1 = o at *
      generalize (q k).2 = n at *
      by_cases me1 : meas o = true
      · by_cases me2 : meas n = true
        · have HN := Lib.hid (hnext me1 me2)
          have he1 := me1
          have he2 := me2
          simp only [meas, decide_eq_true_eq] at he1 he2
          obtain ⟨p1, hp1⟩ : ∃ p1, (1000 + margin) * o = p1 := ⟨_, rfl⟩
          obtain ⟨p2, hp2⟩ : ∃ p2, (1000 + margin) * n = p2 := ⟨_, rfl⟩
          have q1 : 1000 * o ≤ p1 := by rw [← hp1, Int.add_mul]; have := Int.mul_nonneg m0 he1.1; omega
          have q2 : 1000 * n ≤ p2 := by rw [← hp2, Int.add_mul]; have := Int.mul_nonneg m0 he2.1; omega
          have q3 : p1 ≤ 2199023255552000 := by
            rw [← hp1]
            exact Int.le_trans (Int.mul_le_mul_of_nonneg_right (show 1000 + margin ≤ 2000 by omega) he1.1) (by omega)
          have q4 : p2 ≤ 2199023255552000 := by
            rw [← hp2]
            exact Int.le_trans (Int.mul_le_mul_of_nonneg_right (show 1000 + margin ≤ 2000 by omega) he2.1) (by omega)
          obtain ⟨o0, o1⟩ := he1
          obtain ⟨n0, n1⟩ := he2
          have ME1 := Lib.hid me1
          have ME2 := Lib.hid me2
          clear me1 me2 hnext
          go_wp2_with (go_at_call 36; first | (refine (measured_any o _).mono ?_; rw [ME1.out]; rintro e w1 ⟨rfl, rfl⟩) | (refine (measured_any n _).mono ?_; rw [ME2.out]; rintro e w1 ⟨rfl, rfl⟩))
          all_goals first
            | exact ⟨⟨k + 1, nb, nw + 1, by omega, by go_num, by go_num, by go_num, by omega, by omega, HN.out, hb.alloc hb.size _⟩, by simp [intOf]; omega⟩
            | exact ⟨⟨k + 1, nb + 1, nw, by omega, by go_num, by go_num, by go_num, by omega, by omega, HN.out, hb.alloc hb.size _⟩, by simp [intOf]; omega⟩
            | exact ⟨⟨k + 1, nb, nw, by omega, by go_num, by go_num, by go_num, by omega, by omega, HN.out, hb.alloc hb.size _⟩, by simp [intOf]; omega⟩
        · have me2' : meas n = false := by simpa using me2
          have ME1 := Lib.hid me1
          have ME2 := Lib.hid me2'
          clear me1 me2 me2' hnext
          go_wp2_with (go_at_call 36; first | (refine (measured_any o _).mono ?_; rw [ME1.out]; rintro e w1 ⟨rfl, rfl⟩) | (refine (measured_any n _).mono ?_; rw [ME2.out]; rintro e w1 ⟨rfl, rfl⟩))
          go_ret3
          exact ⟨rfl, hb.alloc hb.size _⟩
      · have me1' : meas o = false := by simpa using me1
        have ME1 := Lib.hid me1'
        clear me1 me1' hnext
        go_wp2_with (go_at_call 36; (refine (measured_any o _).mono ?_; rw [ME1.out]; rintro e w1 ⟨rfl, rfl⟩))
        go_ret3
        exact ⟨rfl, hb.alloc hb.size _⟩
    · obtain rfl : k = len := by omega
      exact absurd HA.out HM.out

theorem Signs_no (a : Option Addr) (len cap : Nat) (margin : Int) (hl : len ≤ 9223372036854775807) (h : margin < 0 ∨ 1000 < margin ∨ 60 < len) (w : World) :
    Calls Try.prog 28 #[.slice a len cap, .int .i64 margin] w fun e w' => e = .returned (.tuple #[.int .i64 0, .int .i64 0, .int .i64 1]) ∧ Below w.heap.size w w' := by
  by_cases c1 : margin < 0
  · clear h
    go_enter Try.func28, Try.ntmps28
    go_wp2
    go_ret3
    exact ⟨rfl, Below.refl _ _⟩
  · by_cases c2 : 1000 < margin
    · clear h
      go_enter Try.func28, Try.ntmps28
      go_wp2
      go_ret3
      exact ⟨rfl, Below.refl _ _⟩
    · have c3 : (60 : Int) < (len : Int) := by omega
      clear h
      go_enter Try.func28, Try.ntmps28
      go_wp2
      go_ret3
      exact ⟨rfl, Below.refl _ _⟩
end Go.Proofs.Ytjlalilhmadmcaa
