/-
  WALKS of chapter 43: the reference's Significant and Threshold.
-/
import Derived.Test.YtjlalilhmadmcaaShare
import Derived.Test.YtjlalilhmadmcaaRefTail
import Derived.Laws.Bits128
namespace Go.Proofs.Ytjlalilhmadmcaa
open Go.ChangeShapes Go.WideShapes Go.ChangeAt Go.RowKit

theorem i64_and30 (t : Nat) (ht : t ≤ 1152921504606846976) : bits .and .i64 (t : Int) 1073741823 = ((t % 1073741824 : Nat) : Int) := by
  have h30 : (BitVec.ofInt 64 1073741823).toNat = 2 ^ 30 - 1 := by decide
  have key : (BitVec.ofInt 64 (t : Int) &&& BitVec.ofInt 64 1073741823).toNat = ((t : Int) % ((2 ^ 64 : Nat) : Int)).toNat % 2 ^ 30 := by
    rw [BitVec.toNat_and, BitVec.toNat_ofInt, h30, Nat.and_two_pow_sub_one_eq_mod]
  show IntKind.i64.wrap ((BitVec.ofInt 64 (t : Int) &&& BitVec.ofInt 64 1073741823).toNat : Nat) = _
  rw [key, IntKind.wrap_i64]
  omega
theorem halves (t den : Nat) (ht : t ≤ 1152921504606846976) (hd : den ≤ 1000000) :
    wrap64 (wrap64 ((t : Int) / 1073741824 * den) + wrap64 (bits .and .i64 (t : Int) 1073741823 * den) / 1073741824) = ((t * den / 1073741824 : Nat) : Int) ∧
    bits .and .i64 (wrap64 (bits .and .i64 (t : Int) 1073741823 * den)) 1073741823 = ((t * den % 1073741824 : Nat) : Int) := by
  have h1 : (t : Int) / 1073741824 * den = ((t / 1073741824 * den : Nat) : Int) := by simp
  have h2 : ((t % 1073741824 : Nat) : Int) * (den : Int) = ((t % 1073741824 * den : Nat) : Int) := (Int.natCast_mul _ _).symm
  have b1 : t / 1073741824 * den ≤ 1073741824 * 1000000 := Nat.mul_le_mul (by omega) hd
  have b2 : t % 1073741824 * den ≤ 1073741824 * 1000000 := Nat.mul_le_mul (by omega) hd
  have key : t * den = 1073741824 * (t / 1073741824 * den) + t % 1073741824 * den := by
    have e : t = 1073741824 * (t / 1073741824) + t % 1073741824 := by omega
    calc t * den = (1073741824 * (t / 1073741824) + t % 1073741824) * den := by rw [← e]
      _ = _ := by rw [Nat.add_mul, Nat.mul_assoc]
  generalize hA : t / 1073741824 * den = A at *
  generalize hB : t % 1073741824 * den = B at *
  rw [i64_and30 t ht, h1, h2]
  rw [IntWalk.wrap64_in (A : Int) ⟨by omega, by omega⟩, IntWalk.wrap64_in (B : Int) ⟨by omega, by omega⟩, IntWalk.wrap64_in _ ⟨by omega, by omega⟩, i64_and30 B (by omega), key]
  omega

set_option maxRecDepth 100000 in
set_option maxHeartbeats 1000000 in
theorem refSignificant_yes' (n : Nat) (hn : n ≤ 60) (k : Int) (hk0 : -9223372036854775808 ≤ k) (hk : k ≤ 9223372036854775807) (num den : Nat) (h1 : 1 ≤ den) (hd : den ≤ 1000000) (hm : num ≤ den) (w : World) :
    Calls Try.prog 23 #[.int .i64 n, .int .i64 k, .agg #[.int .i64 num, .int .i64 den]] w fun e w' => e = .returned (.tuple #[.bool (sig n k.toNat num den), .int .i64 0]) ∧ Below w.heap.size w w' := by
  have htl := tl_le60 hn k.toNat
  go_enter Try.func23, Try.ntmps23
  go_wp2_with (first
    | (go_at_call 18; refine (refTail_yes n hn k hk0 hk _).mono ?_; rintro e w1 ⟨rfl, hb1⟩; have hc1 := (bcell hb1).1; have z1 : w.heap.size < w1.heap.size := by have := hb1.size; simp at this; omega)
    | (go_at_call 26; refine (refvalid_yes num den (by omega) (by omega) (by omega) (by omega) _).mono ?_; rintro e w2 ⟨rfl, hb2⟩; have hc2 := (bcell hb2).1))
  obtain ⟨t, ht⟩ : ∃ t, tl n k.toNat = t := ⟨_, rfl⟩
  have f0 : w2.cell? ⟨w.heap.size, 0, none⟩ = some (.int .i64 num) := by rw [hc2 _ _ z1, hc1 _ _ (by simp)]; simp [go_sem]
  have f1 : w2.cell? ⟨w.heap.size, 1, none⟩ = some (.int .i64 den) := by rw [hc2 _ _ z1, hc1 _ _ (by simp)]; simp [go_sem]
  have f2 : Below w.heap.size w w2 := ((Below.refl _ _).alloc (Nat.le_refl _) _).trans ((hb1.trans (hb2.mono hb1.size)).mono (by simp))
  clear hc1 hc2 hb1 hb2
  rw [ht] at htl ⊢
  have Ht := Lib.hid ht
  clear ht
  go_quiet (fail)
  obtain ⟨e1, e2⟩ := halves t den htl hd
  rw [e1, e2]
  clear e1 e2
  have hp := pow_le60 hn
  obtain ⟨p, hpp⟩ : ∃ p : Nat, 2 ^ n = p := ⟨_, rfl⟩
  have hw : wrap64 ((2 : Int) ^ n) = (p : Int) := by
    have e : (2 : Int) ^ n = ((2 ^ n : Nat) : Int) := by simp
    rw [e, IntWalk.wrap64_in _ ⟨by omega, by omega⟩, hpp]
  rw [hpp] at hp
  have hfin : sig n k.toNat num den = decide ((((t * den / 1073741824 : Nat) : Int) < ((p * num / 1073741824 : Nat) : Int)) ∨ (((t * den / 1073741824 : Nat) : Int) = ((p * num / 1073741824 : Nat) : Int)) ∧ ((t * den % 1073741824 : Nat) : Int) ≤ ((p * num % 1073741824 : Nat) : Int)) := by
    unfold sig
    rw [Ht.out, hpp, decide_eq_decide]
    generalize t * den = A
    generalize p * num = B
    omega
  have Hfin := Lib.hid hfin
  clear hfin hpp
  generalize ((t * den / 1073741824 : Nat) : Int) = q1 at *
  generalize ((t * den % 1073741824 : Nat) : Int) = r1 at *
  go_wp2_with fail
  go_quiet (fail)
  obtain ⟨e1, e2⟩ := halves p num hp (by omega)
  rw [e1, e2]
  clear e1 e2
  generalize ((p * num / 1073741824 : Nat) : Int) = q2 at *
  generalize ((p * num % 1073741824 : Nat) : Int) = r2 at *
  have f3 : ∀ a b, Below w.heap.size w ((w2.drewN a).drewN b) := fun a b => below_drewN (below_drewN f2 a) b
  have f4 : ∀ a, Below w.heap.size w (w2.drewN a) := fun a => below_drewN f2 a
  have F3 := Lib.hid f3
  have F4 := Lib.hid f4
  clear f0 f1 f2 f3 f4 hw
  by_cases c1 : q1 < q2
  · go_wp2_with fail
    go_ret2
    exact ⟨by rw [Hfin.out]; simp; omega, F4.out _⟩
  · by_cases c2 : q1 = q2
    · subst c2
      go_wp2_with fail
      go_ret2
      exact ⟨by rw [Hfin.out]; simp, F4.out _⟩
    · have c2' : (q1 == q2) = false := by simp [c2]
      go_wp2_with fail
      go_ret2
      exact ⟨by rw [Hfin.out]; simp; omega, F4.out _⟩

theorem refSignificant_yes (n : Int) (hn0 : 0 ≤ n) (hn : n ≤ 60) (k : Int) (hk0 : -9223372036854775808 ≤ k) (hk : k ≤ 9223372036854775807) (num den : Int) (h1 : 1 ≤ den) (hd : den ≤ 1000000) (h0 : 0 ≤ num) (hm : num ≤ den) (w : World) :
    Calls Try.prog 23 #[.int .i64 n, .int .i64 k, .agg #[.int .i64 num, .int .i64 den]] w fun e w' => e = .returned (.tuple #[.bool (sig n.toNat k.toNat num.toNat den.toNat), .int .i64 0]) ∧ Below w.heap.size w w' := by
  obtain ⟨n, rfl⟩ := Int.eq_ofNat_of_zero_le hn0
  obtain ⟨num, rfl⟩ := Int.eq_ofNat_of_zero_le h0
  obtain ⟨den, rfl⟩ := Int.eq_ofNat_of_zero_le (show 0 ≤ den by omega)
  exact refSignificant_yes' n (by omega) k hk0 hk num den (by omega) (by omega) (by omega) w

set_option maxRecDepth 100000 in
set_option maxHeartbeats 400000 in
theorem refSignificant_no (n k num den : Int) (hk0 : -9223372036854775808 ≤ k) (hk : k ≤ 9223372036854775807) (h : ¬ (0 ≤ n ∧ n ≤ 60 ∧ 1 ≤ den ∧ den ≤ 1000000 ∧ 0 ≤ num ∧ num ≤ den)) (w : World) :
    Calls Try.prog 23 #[.int .i64 n, .int .i64 k, .agg #[.int .i64 num, .int .i64 den]] w fun e w' => e = .returned (.tuple #[.bool false, .int .i64 1]) ∧ Below w.heap.size w w' := by
  by_cases hr : n < 0 ∨ 60 < n
  · have Hr := Lib.hid hr
    clear h hr
    go_enter Try.func23, Try.ntmps23
    go_wp2_with (go_at_call 18; refine (refTail_no n Hr.out k _).mono ?_; rintro e w1 ⟨rfl, hb⟩)
    go_ret2
    exact ⟨rfl, ((Below.refl _ _).alloc (Nat.le_refl _) _).trans (hb.mono (by simp))⟩
  · have hv : ¬ (1 ≤ den ∧ den ≤ 1000000 ∧ 0 ≤ num ∧ num ≤ den) := by omega
    obtain ⟨n, rfl⟩ := Int.eq_ofNat_of_zero_le (show 0 ≤ n by omega)
    have hr1 : n ≤ 60 := by omega
    have Hv := Lib.hid hv
    clear h hr hv
    go_enter Try.func23, Try.ntmps23
    go_wp2_with (first
      | (go_at_call 18; refine (refTail_yes n hr1 k hk0 hk _).mono ?_; rintro e w1 ⟨rfl, hb⟩; have hc := (bcell hb).1)
      | (go_at_call 26; refine (refvalid_no num den Hv.out _).mono ?_; rintro e w2 ⟨rfl, hb2⟩))
    go_ret2
    exact ⟨rfl, ((Below.refl _ _).alloc (Nat.le_refl _) _).trans ((hb.trans (hb2.mono hb.size)).mono (by simp))⟩

set_option maxRecDepth 100000 in
set_option maxHeartbeats 1000000 in
theorem refThreshold_yes (n : Int) (hn0 : 0 ≤ n) (hn : n ≤ 60) (num den : Int) (h1 : 1 ≤ den) (hd : den ≤ 1000000) (h0 : 0 ≤ num) (hm : num ≤ den) (w : World) :
    Calls Try.prog 24 #[.int .i64 n, .agg #[.int .i64 num, .int .i64 den]] w fun e w' => e = .returned (.tuple #[.int .i64 (thrOf n.toNat num.toNat den.toNat : Nat), .int .i64 0]) ∧ Below w.heap.size w w' := by
  go_enter Try.func24, Try.ntmps24
  go_wp2_with fail
  have f0 : (w.alloc (.cells #[.int .i64 num, .int .i64 den] 25)).cell? ⟨w.heap.size, 0, none⟩ = some (.int .i64 num) := by simp [go_sem]
  have f1 : (w.alloc (.cells #[.int .i64 num, .int .i64 den] 25)).cell? ⟨w.heap.size, 1, none⟩ = some (.int .i64 den) := by simp [go_sem]
  have f2 : Below w.heap.size w (w.alloc (.cells #[.int .i64 num, .int .i64 den] 25)) := (Below.refl _ _).alloc (Nat.le_refl _) _
  generalize (w.alloc (.cells #[.int .i64 num, .int .i64 den] 25)) = W0 at *
  go_loopw [6] (fun v wr => ∃ k : Nat, k ≤ n.toNat + 1 ∧ v = .int .i64 k ∧ (∀ j, j < k → sig n.toNat j num.toNat den.toNat = false) ∧ Below W0.heap.size W0 wr) (fun v _ => n.toNat + 1 - (intOf v).toNat)
  case atStart => exact ⟨0, by omega, rfl, fun j hj => absurd hj (by omega), Below.refl _ _⟩
  case round =>
    obtain ⟨k, hk, rfl, hs, hbb⟩ := hrel
    have Hs := Lib.hid hs
    clear hs
    have c0 := (hbb.cell (p := ⟨w.heap.size, 0, none⟩) (block_lt_of_cell f0)).trans f0
    have c1 := (hbb.cell (p := ⟨w.heap.size, 1, none⟩) (block_lt_of_cell f1)).trans f1
    obtain ⟨b, hsig⟩ : ∃ b, sig n.toNat k num.toNat den.toNat = b := ⟨_, rfl⟩
    have Hsig := Lib.hid hsig
    have hsig' : sig n.toNat (k : Int).toNat num.toNat den.toNat = b := hsig
    have Hsig' := Lib.hid hsig'
    clear hsig hsig'
    by_cases hkn : (k : Int) ≤ n
    · cases b with
      | false =>
        have hd0 : decide (n < (k : Int)) = false := by simp; omega
        go_wp2_with (go_at_call 23; refine (refSignificant_yes n hn0 hn k (by omega) (by omega) num den h1 hd h0 hm _).mono ?_; rw [Hsig'.out]; rintro e w2 ⟨rfl, hb2⟩)
        go_roundw
        case rel =>
          refine ⟨k + 1, by omega, by go_num, fun j hj => ?_, hbb.trans (hb2.mono hbb.size)⟩
          by_cases e : j = k
          · rw [e]; exact Hsig.out
          · exact Hs.out j (by omega)
        case measure => simp [intOf]; omega
      | true =>
        have hT : k = thrOf n.toNat num.toNat den.toNat := IsThr.eq ⟨hk, Hs.out, fun _ => Hsig.out⟩
        have HT := Lib.hid hT
        clear hT
        go_wp2_with (go_at_call 23; refine (refSignificant_yes n hn0 hn k (by omega) (by omega) num den h1 hd h0 hm _).mono ?_; rw [Hsig'.out]; rintro e w2 ⟨rfl, hb2⟩)
        go_ret2
        exact ⟨by rw [← HT.out]; rfl, f2.trans ((hbb.trans (hb2.mono hbb.size)).mono f2.size)⟩
    · have hT : k = thrOf n.toNat num.toNat den.toNat := IsThr.eq ⟨hk, Hs.out, fun h => absurd h (by omega)⟩
      have HT := Lib.hid hT
      have hb1 : b = true := by have := Hsig.out; rw [sig_gt n.toNat k num.toNat den.toNat (by omega)] at this; exact this.symm
      subst hb1
      clear hT
      go_wp2_with (go_at_call 23; refine (refSignificant_yes n hn0 hn k (by omega) (by omega) num den h1 hd h0 hm _).mono ?_; rw [Hsig'.out]; rintro e w2 ⟨rfl, hb2⟩)
      go_ret2
      exact ⟨by rw [← HT.out]; rfl, f2.trans ((hbb.trans (hb2.mono hbb.size)).mono f2.size)⟩

set_option maxRecDepth 100000 in
set_option maxHeartbeats 1000000 in
theorem refThreshold_no (n num den : Int) (h : ¬ (0 ≤ n ∧ n ≤ 60 ∧ 1 ≤ den ∧ den ≤ 1000000 ∧ 0 ≤ num ∧ num ≤ den)) (w : World) :
    Calls Try.prog 24 #[.int .i64 n, .agg #[.int .i64 num, .int .i64 den]] w fun e w' => e = .returned (.tuple #[.int .i64 0, .int .i64 1]) ∧ Below w.heap.size w w' := by
  have H := Lib.hid h
  clear h
  go_enter Try.func24, Try.ntmps24
  go_wp2_with fail
  refine wp_loop_rounds 1 ?_
  rw [rounds_succ]
  go_wp2_with (go_at_call 23; refine (refSignificant_no n 0 num den (by omega) (by omega) H.out _).mono ?_; rintro e w2 ⟨rfl, hb2⟩)
  go_ret2
  exact ⟨rfl, ((Below.refl _ _).alloc (Nat.le_refl _) _).trans (hb2.mono (by simp))⟩
end Go.Proofs.Ytjlalilhmadmcaa
