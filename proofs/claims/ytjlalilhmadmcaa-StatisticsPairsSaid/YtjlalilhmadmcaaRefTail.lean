/-
  WALK of the reference's Tail; the contracts of Choose and Tail at any numbers.
-/
import Derived.Test.YtjlalilhmadmcaaRefChoose
namespace Go.Proofs.Ytjlalilhmadmcaa
open Go.ChangeShapes Go.WideShapes Go.ChangeAt Go.RowKit

theorem refChoose_no (n : Int) (h : n < 0 ∨ 60 < n) (k : Int) (w : World) :
    Calls Try.prog 16 #[.int .i64 n, .int .i64 k] w fun e w' => e = .returned (.tuple #[.int .i64 0, .int .i64 1]) ∧ Below w.heap.size w w' := by
  by_cases h0 : n < 0
  · clear h
    go_enter Try.func16, Try.ntmps16
    go_wp2
    go_ret2
    exact ⟨rfl, Below.refl _ _⟩
  · have h1 : 60 < n := by omega
    clear h
    go_enter Try.func16, Try.ntmps16
    go_wp2
    go_ret2
    exact ⟨rfl, Below.refl _ _⟩
theorem refChoose_zero (n : Int) (h0 : 0 ≤ n) (h1 : n ≤ 60) (k : Int) (hk : k < 0 ∨ n < k) (w : World) :
    Calls Try.prog 16 #[.int .i64 n, .int .i64 k] w fun e w' => e = .returned (.tuple #[.int .i64 0, .int .i64 0]) ∧ Below w.heap.size w w' := by
  by_cases c0 : k < 0
  · clear hk
    go_enter Try.func16, Try.ntmps16
    go_wp2
    go_ret2
    exact ⟨rfl, Below.refl _ _⟩
  · have c1 : n < k := by omega
    clear hk
    go_enter Try.func16, Try.ntmps16
    go_wp2
    go_ret2
    exact ⟨rfl, Below.refl _ _⟩
theorem refChoose_yes (n : Int) (h0 : 0 ≤ n) (h1 : n ≤ 60) (k : Int) (w : World) :
    Calls Try.prog 16 #[.int .i64 n, .int .i64 k] w fun e w' => e = .returned (.tuple #[.int .i64 (binI n k), .int .i64 0]) ∧ Below w.heap.size w w' := by
  by_cases hk : k < 0 ∨ n < k
  · refine (refChoose_zero n h0 h1 k hk w).mono fun e w' ⟨he, hb⟩ => ⟨?_, hb⟩
    rw [he]
    have : binI n k = 0 := by
      unfold binI
      by_cases c : k < 0
      · rw [if_pos c]
      · rw [if_neg c, bin_gt n.toNat k.toNat (by omega)]; rfl
    rw [this]
  · obtain ⟨n, rfl⟩ := Int.eq_ofNat_of_zero_le h0
    obtain ⟨k, rfl⟩ := Int.eq_ofNat_of_zero_le (show 0 ≤ k by omega)
    refine (refChoose_in n (by omega) k (by omega) w).mono fun e w' ⟨he, hb⟩ => ⟨?_, hb⟩
    rw [he]
    have : binI n k = (bin n k : Nat) := by unfold binI; rw [if_neg (by omega)]; rfl
    rw [this]

set_option maxRecDepth 100000 in
set_option maxHeartbeats 400000 in
theorem refTail_yes (n : Nat) (hn : n ≤ 60) (k : Int) (hk0 : -9223372036854775808 ≤ k) (hk : k ≤ 9223372036854775807) (w : World) :
    Calls Try.prog 18 #[.int .i64 n, .int .i64 k] w fun e w' => e = .returned (.tuple #[.int .i64 (tl n k.toNat : Nat), .int .i64 0]) ∧ Below w.heap.size w w' := by
  have d1 : decide ((n : Int) < 0) = false := by simp
  have d2 : decide ((60 : Int) < (n : Int)) = false := by simp; omega
  go_enter Try.func18, Try.ntmps18
  go_wp2
  all_goals
    go_loopw [6, 7] (fun v5 v7 wr => ∃ i s : Nat, k.toNat ≤ i ∧ (i ≤ n + 1 ∨ i = k.toNat) ∧ i ≤ 9223372036854775807 ∧ v7 = .int .i64 i ∧ v5 = .int .i64 s ∧ s + tl n i = tl n k.toNat ∧ Below w.heap.size w wr) (fun _ v7 _ => n + 1 - (intOf v7).toNat)
    case atStart =>
      refine ⟨k.toNat, 0, Nat.le_refl _, .inr rfl, by omega, by go_num, rfl, by omega, Below.refl _ _⟩
    case round =>
      obtain ⟨i, s, hi1, hi2, hi3, rfl, rfl, hs, hbb⟩ := hrel
      by_cases hin : i ≤ n
      · have ht := tl_step n i
        have hl := tl_le60 hn k.toNat
        have hz : s + bin n i ≤ 1152921504606846976 := by omega
        have hz' : s + bin n i + tl n (i + 1) = tl n k.toNat := by omega
        have Hs := Lib.hid hz'
        clear hs ht hl hz'
        go_wp2_with (go_at_call 16; refine (refChoose_in n hn i hin _).mono ?_; rintro e w1 ⟨rfl, hb1⟩)
        go_roundw
        case rel => exact ⟨i + 1, s + bin n i, by omega, by omega, by omega, by go_num, by go_num, Hs.out, hbb.trans (hb1.mono hbb.size)⟩
        case measure => simp [intOf]; omega
      · have hs' : s = tl n k.toNat := by rw [tl_gt n i (by omega)] at hs; omega
        have Hs := Lib.hid hs'
        clear hs hs'
        go_wp2
        go_ret2
        exact ⟨by rw [Hs.out]; rfl, hbb⟩
theorem refTail_no (n : Int) (h : n < 0 ∨ 60 < n) (k : Int) (w : World) :
    Calls Try.prog 18 #[.int .i64 n, .int .i64 k] w fun e w' => e = .returned (.tuple #[.int .i64 0, .int .i64 1]) ∧ Below w.heap.size w w' := by
  by_cases h0 : n < 0
  · clear h
    go_enter Try.func18, Try.ntmps18
    go_wp2
    go_ret2
    exact ⟨rfl, Below.refl _ _⟩
  · have h1 : 60 < n := by omega
    clear h
    go_enter Try.func18, Try.ntmps18
    go_wp2
    go_ret2
    exact ⟨rfl, Below.refl _ _⟩

/-- Choose and Tail at any numbers: value and error -/
def inR (n : Int) : Bool := decide (0 ≤ n ∧ n ≤ 60)
def chV (n k : Int) : Int := if inR n then binI n k else 0
def taV (n k : Int) : Int := if inR n then (tl n.toNat k.toNat : Nat) else 0
def rgE (n : Int) : Int := if inR n then 0 else 1
theorem inR_yes {n : Int} (h : inR n = true) : 0 ≤ n ∧ n ≤ 60 := by simpa [inR] using h
theorem inR_no {n : Int} (h : ¬ inR n = true) : n < 0 ∨ 60 < n := by simp [inR] at h; omega

theorem Choose_tot (n k : Int) (w : World) : Calls Try.prog 15 #[.int .i64 n, .int .i64 k] w fun e w' => e = .returned (.tuple #[.int .i64 (chV n k), .int .i64 (rgE n)]) ∧ Below w.heap.size w w' := by
  by_cases h : inR n = true
  · have e1 : chV n k = binI n k := if_pos h
    have e2 : rgE n = 0 := if_pos h
    rw [e1, e2]; exact Choose_yes n (inR_yes h).1 (inR_yes h).2 k w
  · have e1 : chV n k = 0 := if_neg h
    have e2 : rgE n = 1 := if_neg h
    rw [e1, e2]; exact Choose_no n (inR_no h) k w
theorem refChoose_tot (n k : Int) (w : World) : Calls Try.prog 16 #[.int .i64 n, .int .i64 k] w fun e w' => e = .returned (.tuple #[.int .i64 (chV n k), .int .i64 (rgE n)]) ∧ Below w.heap.size w w' := by
  by_cases h : inR n = true
  · have e1 : chV n k = binI n k := if_pos h
    have e2 : rgE n = 0 := if_pos h
    rw [e1, e2]; exact refChoose_yes n (inR_yes h).1 (inR_yes h).2 k w
  · have e1 : chV n k = 0 := if_neg h
    have e2 : rgE n = 1 := if_neg h
    rw [e1, e2]; exact refChoose_no n (inR_no h) k w
theorem Tail_tot (n k : Int) (hk0 : -9223372036854775808 ≤ k) (hk : k ≤ 9223372036854775807) (w : World) : Calls Try.prog 17 #[.int .i64 n, .int .i64 k] w fun e w' => e = .returned (.tuple #[.int .i64 (taV n k), .int .i64 (rgE n)]) ∧ Below w.heap.size w w' := by
  by_cases h : inR n = true
  · have e1 : taV n k = (tl n.toNat k.toNat : Nat) := if_pos h
    have e2 : rgE n = 0 := if_pos h
    rw [e1, e2]; exact Tail_yes n (inR_yes h).1 (inR_yes h).2 k hk0 hk w
  · have e1 : taV n k = 0 := if_neg h
    have e2 : rgE n = 1 := if_neg h
    rw [e1, e2]; exact Tail_no n (inR_no h) k w
theorem refTail_tot (n k : Int) (hk0 : -9223372036854775808 ≤ k) (hk : k ≤ 9223372036854775807) (w : World) : Calls Try.prog 18 #[.int .i64 n, .int .i64 k] w fun e w' => e = .returned (.tuple #[.int .i64 (taV n k), .int .i64 (rgE n)]) ∧ Below w.heap.size w w' := by
  by_cases h : inR n = true
  · have e1 : taV n k = (tl n.toNat k.toNat : Nat) := if_pos h
    have e2 : rgE n = 0 := if_pos h
    obtain ⟨m, rfl⟩ := Int.eq_ofNat_of_zero_le (inR_yes h).1
    rw [e1, e2]; exact refTail_yes m (by have := (inR_yes h).2; omega) k hk0 hk w
  · have e1 : taV n k = 0 := if_neg h
    have e2 : rgE n = 1 := if_neg h
    rw [e1, e2]; exact refTail_no n (inR_no h) k w
end Go.Proofs.Ytjlalilhmadmcaa
