/-
  WALKS of chapter 43: Significant, awake.
-/
import Derived.Test.YtjlalilhmadmcaaSig
namespace Go.Proofs.Ytjlalilhmadmcaa
open Go.ChangeShapes Go.WideShapes Go.ChangeAt Go.RowKit

theorem ranged_yes (n : Int) (h0 : 0 ≤ n) (h1 : n ≤ 60) (w : World) : Calls Try.prog 32 #[.int .i64 n] w fun e w' => e = .returned (.bool true) ∧ w = w' := by
  go_enter Try.func32, Try.ntmps32
  go_wp2
  go_ret
  exact ⟨rfl, rfl⟩
theorem ranged_no (n : Int) (h : n < 0 ∨ 60 < n) (w : World) : Calls Try.prog 32 #[.int .i64 n] w fun e w' => e = .returned (.bool false) ∧ w = w' := by
  by_cases h0 : 0 ≤ n
  · have hd : decide (n ≤ 60) = false := by simp; omega
    clear h
    go_enter Try.func32, Try.ntmps32
    go_wp2
    go_ret
    exact ⟨rfl, rfl⟩
  · clear h
    go_enter Try.func32, Try.ntmps32
    go_wp2
    go_ret
    exact ⟨rfl, rfl⟩
theorem valid_yes (num den : Int) (h1 : 1 ≤ den) (h2 : den ≤ 1000000) (h3 : 0 ≤ num) (h4 : num ≤ den) (w : World) :
    Calls Try.prog 25 #[.agg #[.int .i64 num, .int .i64 den]] w fun e w' => e = .returned (.bool true) ∧ Below w.heap.size w w' :=
  (valid_any num den w).mono fun e w' ⟨he, hb⟩ => ⟨by rw [he]; simp; omega, hb⟩
theorem valid_no (num den : Int) (h : ¬ (1 ≤ den ∧ den ≤ 1000000 ∧ 0 ≤ num ∧ num ≤ den)) (w : World) :
    Calls Try.prog 25 #[.agg #[.int .i64 num, .int .i64 den]] w fun e w' => e = .returned (.bool false) ∧ Below w.heap.size w w' :=
  (valid_any num den w).mono fun e w' ⟨he, hb⟩ => ⟨by rw [he]; simp only [decide_eq_false h], hb⟩

set_option maxRecDepth 100000 in
set_option maxHeartbeats 400000 in
theorem Significant_yes' (n : Nat) (hn : n ≤ 60) (k : Int) (hk0 : -9223372036854775808 ≤ k) (hk : k ≤ 9223372036854775807) (num den : Nat) (h1 : 1 ≤ den) (hd : den ≤ 1000000) (hm : num ≤ den) (w : World) :
    Calls Try.prog 11 #[.int .i64 n, .int .i64 k, .agg #[.int .i64 num, .int .i64 den]] w fun e w' => e = .returned (.tuple #[.bool (sig n k.toNat num den), .int .i64 0]) ∧ Below w.heap.size w w' := by
  go_enter Try.func11, Try.ntmps11
  go_wp2_with (first
    | (go_at_call 32; refine (ranged_yes n (by omega) (by omega) _).mono ?_; rintro e w1 ⟨rfl, rfl⟩)
    | (go_at_call 25; refine (valid_yes num den (by omega) (by omega) (by omega) (by omega) _).mono ?_; rintro e w1 ⟨rfl, hb⟩; have hc := (bcell hb).1)
    | (go_at_call 33; refine (significant_any n hn k hk0 hk num den hd hm _).mono ?_; rintro e w2 ⟨rfl, hb2⟩))
  go_ret2
  exact ⟨rfl, ((Below.refl _ _).alloc (Nat.le_refl _) _).trans ((hb.trans (hb2.mono hb.size)).mono (by simp))⟩
theorem Significant_yes (n : Int) (hn0 : 0 ≤ n) (hn : n ≤ 60) (k : Int) (hk0 : -9223372036854775808 ≤ k) (hk : k ≤ 9223372036854775807) (num den : Int) (h1 : 1 ≤ den) (hd : den ≤ 1000000) (h0 : 0 ≤ num) (hm : num ≤ den) (w : World) :
    Calls Try.prog 11 #[.int .i64 n, .int .i64 k, .agg #[.int .i64 num, .int .i64 den]] w fun e w' => e = .returned (.tuple #[.bool (sig n.toNat k.toNat num.toNat den.toNat), .int .i64 0]) ∧ Below w.heap.size w w' := by
  obtain ⟨n, rfl⟩ := Int.eq_ofNat_of_zero_le hn0
  obtain ⟨num, rfl⟩ := Int.eq_ofNat_of_zero_le h0
  obtain ⟨den, rfl⟩ := Int.eq_ofNat_of_zero_le (show 0 ≤ den by omega)
  exact Significant_yes' n (by omega) k hk0 hk num den (by omega) (by omega) (by omega) w

set_option maxRecDepth 100000 in
set_option maxHeartbeats 400000 in
theorem Significant_no (n k num den : Int) (h : ¬ (0 ≤ n ∧ n ≤ 60 ∧ 1 ≤ den ∧ den ≤ 1000000 ∧ 0 ≤ num ∧ num ≤ den)) (w : World) :
    Calls Try.prog 11 #[.int .i64 n, .int .i64 k, .agg #[.int .i64 num, .int .i64 den]] w fun e w' => e = .returned (.tuple #[.bool false, .int .i64 1]) ∧ Below w.heap.size w w' := by
  by_cases hr : n < 0 ∨ 60 < n
  · have Hr := Lib.hid hr
    clear h hr
    go_enter Try.func11, Try.ntmps11
    go_wp2_with (go_at_call 32; refine (ranged_no n Hr.out _).mono ?_; rintro e w1 ⟨rfl, rfl⟩)
    go_ret2
    exact ⟨rfl, ((Below.refl _ _).alloc (Nat.le_refl _) _)⟩
  · have hv : ¬ (1 ≤ den ∧ den ≤ 1000000 ∧ 0 ≤ num ∧ num ≤ den) := by omega
    have hr0 : 0 ≤ n := by omega
    have hr1 : n ≤ 60 := by omega
    have Hv := Lib.hid hv
    clear h hr hv
    go_enter Try.func11, Try.ntmps11
    go_wp2_with (first
      | (go_at_call 32; refine (ranged_yes n hr0 hr1 _).mono ?_; rintro e w1 ⟨rfl, rfl⟩)
      | (go_at_call 25; refine (valid_no num den Hv.out _).mono ?_; rintro e w1 ⟨rfl, hb⟩))
    go_ret2
    exact ⟨rfl, ((Below.refl _ _).alloc (Nat.le_refl _) _).trans (hb.mono (by simp))⟩

set_option maxRecDepth 100000 in
set_option maxHeartbeats 400000 in
theorem awake_any (w : World) : Calls Try.prog 10 #[] w fun e w' => e = .returned (.bool true) ∧ Below w.heap.size w w' := by
  have s1 : sig (5 : Int).toNat (5 : Int).toNat (1 : Int).toNat (20 : Int).toNat = true := by decide
  have s2 : sig (5 : Int).toNat (4 : Int).toNat (1 : Int).toNat (20 : Int).toNat = false := by decide
  have S1 := Lib.hid s1
  have S2 := Lib.hid s2
  clear s1 s2
  go_enter Try.func10, Try.ntmps10
  go_wp2_with fail
  refine (Significant_yes 5 (by decide) (by decide) 5 (by decide) (by decide) 1 20 (by decide) (by decide) (by decide) (by decide) _).mono ?_
  rw [S1.out]
  rintro e w1 ⟨rfl, hb1⟩
  go_wp2_with fail
  refine (Significant_yes 5 (by decide) (by decide) 4 (by decide) (by decide) 1 20 (by decide) (by decide) (by decide) (by decide) _).mono ?_
  rw [S2.out]
  rintro e w2 ⟨rfl, hb2⟩
  go_wp2_with fail
  go_ret
  exact ⟨rfl, hb1.trans (hb2.mono hb1.size)⟩

end Go.Proofs.Ytjlalilhmadmcaa
