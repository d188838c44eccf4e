/-
  WALKS of chapter 43: tail, Valid, significant.
-/
import Derived.Test.YtjlalilhmadmcaaRow
namespace Go.Proofs.Ytjlalilhmadmcaa
open Go.ChangeShapes Go.WideShapes Go.ChangeAt Go.RowKit
attribute [local go_sem ↓] Go.wp_at_zero Go.wp_at_succ

set_option maxRecDepth 100000 in
set_option maxHeartbeats 400000 in
theorem tail_any (n : Nat) (hn : n ≤ 60) (k : Int) (hk0 : -9223372036854775808 ≤ k) (hk : k ≤ 9223372036854775807) (w : World) :
    Calls Try.prog 35 #[.int .i64 n, .int .i64 k] w fun e w' => e = .returned (.int .i64 (tl n k.toNat : Nat)) ∧ Below w.heap.size w w' := by
  go_enter Try.func35, Try.ntmps35
  go_wp2_with (first
    | (go_at_call 34; refine (row_any n hn _).mono ?_; rintro e w1 ⟨rfl, hb⟩)
    | (refine wpList_store_row rfl 66 _ _ rfl _ _ rfl rfl _ _ (heap_alloc_new _ _) (by kernel_rfl) (by rfl) (rowOf_oneCell _ _) ?_))
  all_goals
    go_loopw [5, 7] (fun v5 v7 wr => ∃ i s : Nat, k.toNat ≤ i ∧ (i ≤ n + 1 ∨ i = k.toNat) ∧ i ≤ 9223372036854775807 ∧ v7 = .int .i64 i ∧ v5 = .int .i64 s ∧ s + tl n i = tl n k.toNat ∧ RowAt wr w1.heap.size 66 61 (fun k => (bin n k : Nat)) ∧ Below w.heap.size w wr) (fun _ v7 _ => n + 1 - (intOf v7).toNat)
    case atStart =>
      refine ⟨k.toNat, 0, Nat.le_refl _, .inr rfl, by omega, by go_num, rfl, by omega, setRow_heap _ _ _ _ _ _ (heap_alloc_new _ _), below_setRow (hb.alloc hb.size _) hb.size _⟩
    case round =>
      obtain ⟨i, s, hi1, hi2, hi3, rfl, rfl, hs, hr, hbb⟩ := hrel
      by_cases hin : i ≤ n
      · have c := hr.cell i (by omega)
        have ht := tl_step n i
        have hl := tl_le60 hn k.toNat
        have hz : s + bin n i ≤ 1152921504606846976 := by omega
        have hz' : s + bin n i + tl n (i + 1) = tl n k.toNat := by omega
        have Hs := Lib.hid hz'
        clear hs ht hl hz'
        go_wp2
        go_roundw
        case rel => exact ⟨i + 1, s + bin n i, by omega, by omega, by omega, by go_num, by go_num, Hs.out, hr, hbb⟩
        case measure => simp [intOf]; omega
      · have hs' : s = tl n k.toNat := by rw [tl_gt n i (by omega)] at hs; omega
        have Hs := Lib.hid hs'
        clear hs hs'
        go_wp2
        go_ret
        exact ⟨by rw [Hs.out]; rfl, hbb⟩

set_option maxRecDepth 100000 in
set_option maxHeartbeats 400000 in
theorem valid_any (num den : Int) (w : World) :
    Calls Try.prog 25 #[.agg #[.int .i64 num, .int .i64 den]] w fun e w' => e = .returned (.bool (decide (1 ≤ den ∧ den ≤ 1000000 ∧ 0 ≤ num ∧ num ≤ den))) ∧ Below w.heap.size w w' := by
  by_cases h1 : 1 ≤ den
  · by_cases h2 : den ≤ 1000000
    · by_cases h3 : 0 ≤ num
      · by_cases h4 : num ≤ den
        · go_enter Try.func25, Try.ntmps25
          go_wp2
          go_ret
          exact ⟨by simp; omega, (Below.refl _ _).alloc (Nat.le_refl _) _⟩
        · go_enter Try.func25, Try.ntmps25
          go_wp2
          go_ret
          exact ⟨by simp; omega, (Below.refl _ _).alloc (Nat.le_refl _) _⟩
      · go_enter Try.func25, Try.ntmps25
        go_wp2
        go_ret
        exact ⟨by simp; omega, (Below.refl _ _).alloc (Nat.le_refl _) _⟩
    · go_enter Try.func25, Try.ntmps25
      go_wp2
      go_ret
      exact ⟨by simp; omega, (Below.refl _ _).alloc (Nat.le_refl _) _⟩
  · go_enter Try.func25, Try.ntmps25
    go_wp2
    go_ret
    exact ⟨by simp; omega, (Below.refl _ _).alloc (Nat.le_refl _) _⟩


set_option maxRecDepth 100000 in
set_option maxHeartbeats 400000 in
theorem significant_any (n : Nat) (hn : n ≤ 60) (k : Int) (hk0 : -9223372036854775808 ≤ k) (hk : k ≤ 9223372036854775807) (num den : Nat) (hd : den ≤ 1000000) (hm : num ≤ den) (w : World) :
    Calls Try.prog 33 #[.int .i64 n, .int .i64 k, .agg #[.int .i64 num, .int .i64 den]] w fun e w' => e = .returned (.bool (sig n k.toNat num den)) ∧ Below w.heap.size w w' := by
  have htl := tl_le60 hn k.toNat
  go_enter Try.func33, Try.ntmps33
  go_wp2
  have f1 : (w.alloc (.cells #[.int .i64 num, .int .i64 den] 25)).cell? ⟨w.heap.size, 0, none⟩ = some (.int .i64 num) := by simp [go_sem]
  have f2 : (w.alloc (.cells #[.int .i64 num, .int .i64 den] 25)).cell? ⟨w.heap.size, 1, none⟩ = some (.int .i64 den) := by simp [go_sem]
  have f4 : Below w.heap.size w (w.alloc (.cells #[.int .i64 num, .int .i64 den] 25)) := (Below.refl _ _).alloc (Nat.le_refl _) _
  generalize (w.alloc (.cells #[.int .i64 num, .int .i64 den] 25)) = W0 at *
  refine wp_region_below (by kernel_rfl) (by kernel_rfl) ?_
  have g1 : ∀ x : Since W0, x.val.cell? ⟨w.heap.size, 0, none⟩ = some (.int .i64 num) := fun x => x.cell f1
  have g2 : ∀ x : Since W0, x.val.cell? ⟨w.heap.size, 1, none⟩ = some (.int .i64 den) := fun x => x.cell f2
  repeat (go_big_quiet_step ((first
      | (go_at_call 35; exact calls_since _ (tail_any n hn k hk0 hk _))
      | (go_at_call 38; exact calls_since_same _ (Try.bits_Mul64 (tl n k.toNat) den (by omega) (by omega) _)))))
  refine wpQuiet_nil ?_
  intro W1 hb1
  have k1 := (hb1.cell (p := ⟨w.heap.size, 0, none⟩) (block_lt_of_cell f1)).trans f1
  have f5 := f4.trans (hb1.mono f4.size)
  clear g1 g2 hb1 f1 f2 f4
  clear W0
  go_wp2
  refine wp_region_below (by kernel_rfl) (by kernel_rfl) ?_
  have g1 : ∀ x : Since W1, x.val.cell? ⟨w.heap.size, 0, none⟩ = some (.int .i64 num) := fun x => x.cell k1
  have hp := pow_le60 hn
  obtain ⟨p, hpp⟩ : ∃ p : Nat, p = 2 ^ n := ⟨_, rfl⟩
  have hw : IntKind.u64.wrap ((2 : Int) ^ n) = (p : Int) := by
    rw [hpp]
    have : ((2 : Int) ^ n) = ((2 ^ n : Nat) : Int) := by simp
    rw [this, IntKind.wrap_u64]; omega
  have hp' : p ≤ 1152921504606846976 := by omega
  have hfin : sig n k.toNat num den = decide ((tl n k.toNat : Int) * den / 18446744073709551616 < (p : Int) * num / 18446744073709551616 ∨ (tl n k.toNat : Int) * den / 18446744073709551616 = (p : Int) * num / 18446744073709551616 ∧ (tl n k.toNat : Int) * den % 18446744073709551616 ≤ (p : Int) * num % 18446744073709551616) := by
    unfold sig
    rw [← hpp, decide_eq_decide, ← Int.natCast_mul, ← Int.natCast_mul]
    omega
  have Hfin := Lib.hid hfin
  clear hfin hp hpp
  repeat (go_big_quiet_step ((first
      | (go_at_call 38; exact calls_since_same _ (Try.bits_Mul64 p num (by omega) (by omega) _)))))
  refine wpQuiet_nil ?_
  intro W2 hb2
  have f6 := f5.trans (hb2.mono f5.size)
  generalize (tl n k.toNat : Int) * den / 18446744073709551616 = q1 at *
  generalize (tl n k.toNat : Int) * den % 18446744073709551616 = r1 at *
  generalize (p : Int) * num / 18446744073709551616 = q2 at *
  generalize (p : Int) * num % 18446744073709551616 = r2 at *
  clear hw g1 k1 hb2 f5 htl
  by_cases c1 : q1 < q2
  · go_wp2
    go_ret
    exact ⟨by rw [Hfin.out]; simp; omega, f6⟩
  · by_cases c2 : q1 = q2
    · subst c2
      go_wp2
      go_ret
      exact ⟨by rw [Hfin.out]; simp, f6⟩
    · have c2' : (q1 == q2) = false := by simp [c2]
      go_wp2
      go_ret
      exact ⟨by rw [Hfin.out]; simp; omega, f6⟩
end Go.Proofs.Ytjlalilhmadmcaa
