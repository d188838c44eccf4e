/-
  WALKS of predictor.after, predictor.Predict, the reference's Predict, slices.Repeat at one element, New (both).
-/
import Derived.Test.YtjciifcaahninaaDraw
import Derived.Test.YtjciifcaahninaaPlain
import Derived.Test.YtjciifcaahninaaShelf
import Derived.Deep.RegionLaw
namespace Go.Proofs.Ytjciifcaahninaa
open Go.ChangeShapes Go.WideShapes Go.ChangeAt Go.RowKit

theorem Try.info3 : (Try.prog.info? 3).map (fun i => (i.zero, i.size, i.bytes)) = some (some (.int .i64 0), 1, 8) := by kernel_rfl

set_option maxHeartbeats 1000000 in
theorem after_any (n : Int) (tk : Bool) (h0 : 0 ≤ n) (h1 : n ≤ 3) (w : World) : Calls Try.prog 26 #[.int .i64 n, .bool tk] w fun e w' => e = .returned (.int .i64 (aft n tk)) ∧ w = w' := by
  cases tk with
  | true =>
    go_enter Try.func26, Try.ntmps26
    go_wp2_with fail
    go_ret
    exact ⟨rfl, rfl⟩
  | false =>
    go_enter Try.func26, Try.ntmps26
    go_wp2_with fail
    go_ret
    exact ⟨rfl, rfl⟩
set_option maxHeartbeats 1000000 in
theorem Predict_any (a : Option Addr) (n cap : Nat) (t : List Int) (y : Int) (hy : 0 ≤ y) (hn : t.length = n) (hp : 0 < n) (hm : n ≤ 4096) (w : World) (hc : Cells w a (ints t)) :
    Calls Try.prog 16 #[.slice a n cap, .int .i64 y] w fun e w' => e = .returned (.bool (prd t y)) ∧ w = w' := by
  obtain ⟨b, off, rfl, hb, hcell⟩ := hc.int 0 (by omega)
  have g0 := Int.emod_nonneg y (b := (n : Int)) (by omega)
  have g1 := Int.emod_lt_of_pos y (b := (n : Int)) (by omega)
  have c := hcell (y % (n : Int)).toNat (by omega)
  have HP := Lib.hid (show prd t y = decide (2 ≤ t.getD (y % (n : Int)).toNat 0) by unfold prd at_; rw [hn])
  clear hcell hn
  go_enter Try.func16, Try.ntmps16
  go_wp2_with fail
  go_ret
  exact ⟨congrArg (fun b => Ending.returned (.bool b)) HP.out.symm, rfl⟩
set_option maxHeartbeats 1000000 in
theorem refPredict_any (a : Option Addr) (n cap : Nat) (t : List Int) (y : Int) (hy : 0 ≤ y) (hn : t.length = n) (hp : 0 < n) (hm : n ≤ 4096) (w : World) (hc : Cells w a (ints t)) :
    Calls Try.prog 17 #[.slice a n cap, .int .i64 y] w fun e w' => e = .returned (.bool (prd t y)) ∧ w = w' := by
  obtain ⟨b, off, rfl, hb, hcell⟩ := hc.int 0 (by omega)
  have g0 := Int.emod_nonneg y (b := (n : Int)) (by omega)
  have g1 := Int.emod_lt_of_pos y (b := (n : Int)) (by omega)
  have c := hcell (y % (n : Int)).toNat (by omega)
  have HP := Lib.hid (show prd t y = decide (2 ≤ t.getD (y % (n : Int)).toNat 0) by unfold prd at_; rw [hn])
  clear hcell hn
  go_enter Try.func17, Try.ntmps17
  go_wp2_with fail
  go_ret
  exact ⟨congrArg (fun b => Ending.returned (.bool b)) HP.out.symm, rfl⟩

theorem Mul_one (n : Nat) (hn : n ≤ 4096) (w : World) : Calls Try.prog 27 #[.int .u64 1, .int .u64 n] w fun e w' => e = .returned (.tuple #[.int .u64 0, .int .u64 n]) ∧ w = w' := by
  have h := Try.bits_Mul 1 n (by omega) (by omega) w
  rw [show 1 * n / 18446744073709551616 = 0 by omega, show 1 * n % 18446744073709551616 = n by omega] at h
  exact h.mono fun e w' ⟨a, b⟩ => ⟨a, b.symm⟩
theorem splice_rep (n k m : Nat) : splice (ints (List.replicate k 1 ++ List.replicate (n - k) 0)) k (ints (List.replicate m 1)) = ints (List.replicate (k + m) 1 ++ List.replicate (n - (k + m)) 0) := by
  have e1 : (ints (List.replicate k 1 ++ List.replicate (n - k) 0)).take k = ints (List.replicate k 1) := by
    rw [← List.map_take, List.take_left' (by simp)]
  have e2 : (ints (List.replicate k 1 ++ List.replicate (n - k) 0)).drop (k + m) = ints (List.replicate (n - (k + m)) 0) := by
    rw [← List.map_drop, ← List.drop_drop, List.drop_left' (by simp), List.drop_replicate, Nat.sub_sub]
  unfold splice
  rw [List.length_map, List.length_replicate, e1, e2]
  rw [← List.map_append, ← List.map_append, ← List.append_assoc, List.replicate_append_replicate]
theorem Try.size3 : (Try.prog.info? 3).map (·.size) = some 1 := by kernel_rfl
theorem zeros_ints (n : Nat) : (madeCells (Value.int .i64 0).cells (n * 1)).toList = ints (List.replicate n 0) := by
  rw [Nat.mul_one]; show (madeCells #[Value.int .i64 0] n).toList = _; rw [toList_madeCells_one]; simp
theorem one_min (n : Nat) (h : 1 ≤ n) : (ints [1]).length = Nat.min 1 n := by show 1 = min 1 n; omega
theorem one_at {w : World} {b off : Nat} (h : w.cell? ⟨b, off, none⟩ = some (.int .i64 1)) : ∀ j v, (ints [1])[j]? = some v → w.cell? ((⟨b, off, none⟩ : Addr).add j) = some v := by
  intro j v hj
  match j, hj with
  | 0, hj => simp at hj; subst hj; rw [add_none]; exact h
theorem splice_one (n : Nat) : splice (ints (List.replicate n 0)) 0 (ints [1]) = ints (List.replicate 1 1 ++ List.replicate (n - 1) 0) := by
  unfold splice; simp
theorem rep_min {m k n : Nat} (h : m = Nat.min k (n - k)) : (ints (List.replicate m 1)).length = Nat.min k (n - k) := by simp [h]
theorem rep_fit {m k n : Nat} (h : k + m ≤ n) : k + (ints (List.replicate m 1)).length ≤ (ints (List.replicate k 1 ++ List.replicate (n - k) 0)).length := by simp; omega
theorem rep_at {w : World} {g m k n : Nat} (h : w.heap[g]? = some (.cells (ints (List.replicate k 1 ++ List.replicate (n - k) 0)).toArray 3 (0, 0))) (hk : m ≤ k) :
    ∀ j v, (ints (List.replicate m 1))[j]? = some v → w.cell? ((⟨g, 0, none⟩ : Addr).add j) = some v := by
  intro j v hj
  rw [add_none, Nat.zero_add, cell_of_row w g j _ _ _ h]
  have hj2 : j < m := by
    have := (List.getElem?_eq_some_iff.1 hj).1; simpa using this
  have : v = .int .i64 1 := by
    simp [hj2] at hj; exact hj.symm
  subst this
  simp [List.getElem?_append, show j < k by omega]
set_option maxHeartbeats 1000000 in
theorem Repeat_one (b off c n : Nat) (hn0 : 1 ≤ n) (hn : n ≤ 4096) (w : World) (hb : b < w.heap.size) (hc : w.cell? ⟨b, off, none⟩ = some (.int .i64 1)) :
    Calls Try.prog 24 #[.slice (some ⟨b, off, none⟩) 1 c, .int .i64 n] w fun e w' => ∃ v', e = .returned v' ∧ w'.ownsRow w.heap.size 3 1 v' n (ints (List.replicate n 1)) ∧ Below w.heap.size w w' := by
  obtain ⟨i0, hi0, hz0, hz1, hz2⟩ := info_parts Try.info3
  have hn2 : (0 : Int) ≤ n := by omega
  have hu35 := Try.underlying35
  have d1 : decide ((n : Int) < 0) = false := by simp
  have d2 : decide ((9223372036854775807 : Int) < (n : Int)) = false := by simp; omega
  go_enter Try.func24, Try.ntmps24
  go_wp2_with fail
  refine (Mul_one n hn _).mono ?_
  rintro e w' ⟨rfl, rfl⟩
  go_wp2_with (first | (refine wpList_make_full _ rfl _ _ _ rfl w.heap.size 3 i0 (.int .i64 0) 1 Try.underlying35 hi0 hz0 hz1 .i64 .i64 _ _ n rfl rfl (by omega) (by omega) (by rw [hz2]; omega) (by unfold maxLen; omega) (Nat.le_refl _) ?_; intro w1 hown1 hg1; have hb1 := (Below.refl w.heap.size w).grown hg1 (Nat.le_refl _) (fun k e => by cases e); have hc1 := (hb1.cell (p := ⟨b, off, none⟩) hb).trans hc; have hf1 := full_block hown1; rw [zeros_ints n] at hf1) | (with_reducible refine wpList_copy_splice rfl (.tmp 31) (.tmp 32) 35 35 rfl 3 hu35 Try.size3 _ _ n n 1 c rfl rfl w.heap.size 0 _ 3 hf1 (ints [1]) (one_min n hn0) (fun _ => ⟨rfl, _, rfl, one_at hc1⟩) (by simp; omega) (ints_one _) w.heap.size w hb1 (Nat.le_refl _) ?_; intro w2 hf2 hb2))
  have hz2 := hb2.size
  clear hown1 hg1 hf1 hb1 hc1
  rw [splice_one n] at hf2
  have hs32 := Try.size3
  go_loopw [8] (fun v wr => ∃ k : Nat, 1 ≤ k ∧ k ≤ n ∧ v = .int .i64 k ∧ wr.heap[w.heap.size]? = some (.cells (ints (List.replicate k 1 ++ List.replicate (n - k) 0)).toArray 3 (0, 0)) ∧ Below w.heap.size w wr) (fun v _ => n - (intOf v).toNat)
  case atStart => exact ⟨1, by omega, by omega, rfl, hf2.out, hb2⟩
  case round =>
    obtain ⟨k, k1, k2, rfl, hf, hbr⟩ := hrel
    by_cases hlt : k < n
    · have hi0 : (0 : Int) ≤ (k : Int) := by omega
      have hi1 : (k : Int) ≤ (n : Int) := by omega
      have HF := Lib.hid hf
      clear hf
      obtain ⟨m, hm⟩ : ∃ m, m = min k (n - k) := ⟨_, rfl⟩
      have hm1 : 1 ≤ m := by omega
      have hnk : ¬ n = k := by omega
      have hm2 : k + m ≤ n := by omega
      have hmk : m ≤ k := by omega
      have hm3 : m = Nat.min k (n - k) := hm
      have HM := Lib.hid hm3
      have wr1 : IntKind.i64.wrap ((k : Int) + (m : Int)) = (k : Int) + (m : Int) := IntWalk.i64_in _ (by omega)
      clear hm hm3
      go_wp2_with fail
      go_region_law ((refine step_copy_splice (by rfl) (.tmp 41) (.tmp 44) 35 35 (by rfl) 3 hu35 hs32 (some ⟨w.heap.size, k, none⟩) (some ⟨w.heap.size, 0, none⟩) (n - k) (n - k) k n (by go_simp) (by go_simp) w.heap.size k _ 3 HF.out (ints (List.replicate m 1)) (rep_min HM.out) (fun _ => ⟨rfl, _, rfl, rep_at HF.out hmk⟩) (rep_fit hm2) (ints_one _) w.heap.size w hbr.drew (Nat.le_refl _) ?_; intro w3 hf3 hb3))
      have hl : (ints (List.replicate m 1)).length = m := by simp
      rw [splice_rep n k m] at hf3
      go_wp2_with fail
      simp only [List.getElem_toArray, List.getElem_cons_succ, List.getElem_cons_zero, Act.put, List.setIfInBounds_toArray, List.set_cons_succ, List.set_cons_zero]
      go_roundw
      case rel => exact ⟨k + m, by omega, hm2, by go_num, hf3.out, hb3⟩
      case measure => simp [intOf]; omega
    · obtain rfl : k = n := by omega
      go_wp2_with fail
      go_ret
      rw [Nat.sub_self, List.replicate_zero, List.append_nil] at hf
      exact ⟨_, rfl, own_of_block hf (by simp) rfl (Nat.le_refl _) (by unfold maxLen; omega), hbr⟩

theorem newT_of {n : Nat} (h0 : 1 ≤ n) (h : n ≤ 4096) : newT n = List.replicate n 1 := by unfold newT; rw [if_pos (by omega)]; rfl
theorem newT_no {n : Int} (h : n < 1 ∨ 4096 < n) : newT n = [] := by unfold newT; rw [if_neg (by omega)]
def Made (w : World) (n : Int) (e : Ending) (w' : World) : Prop := ∃ v, e = .returned v ∧ w'.ownsRow w.heap.size 3 1 v (newT n).length (ints (newT n)) ∧ Below w.heap.size w w'
theorem made_nil {w w' : World} {n : Int} (h : n < 1 ∨ 4096 < n) (hb : Below w.heap.size w w') : Made w n (.returned (.slice none 0 0)) w' := by
  refine ⟨_, rfl, ?_, hb⟩
  rw [newT_no h]
  exact World.ownsRow_nil _ _ _ _
theorem ownsRow_mono {w : World} {b b' e size n : Nat} {v : Value} {xs : List Value} (h : w.ownsRow b e size v n xs) (hb : b' ≤ b) : w.ownsRow b' e size v n xs := by
  rcases h with ⟨h1, h2 | ⟨g, cap, cur, h3, h4, h5⟩⟩
  · exact ⟨h1, .inl h2⟩
  · exact ⟨h1, .inr ⟨g, cap, cur, h3, by omega, h5⟩⟩
theorem rep_cell {j k : Nat} (h : j < k) : (ints (List.replicate j 1 ++ List.replicate (k - j) 0)).toArray[j]? = some (.int .i64 0) := by
  simp [show 0 < k - j by omega]
theorem rep_store (w : World) {g j k : Nat} (h : w.heap[g]? = some (.cells (ints (List.replicate j 1 ++ List.replicate (k - j) 0)).toArray 3 (0, 0))) (hj : j < k) :
    (w.setCell ⟨g, j, none⟩ (.int .i64 1)).heap[g]? = some (.cells (ints (List.replicate (j + 1) 1 ++ List.replicate (k - (j + 1)) 0)).toArray 3 (0, 0)) := by
  rw [heap_setCell_same w g j _ _ _ h]
  congr 2
  apply Array.ext_getElem?
  intro i
  rw [Array.getElem?_setIfInBounds]
  simp [List.getElem?_append, List.getElem?_replicate]
  repeat' split
  all_goals first | rfl | omega
set_option maxHeartbeats 1000000 in
theorem New_any2 (n : Int) (w : World) : Calls Try.prog 14 #[.int .i64 n] w (Made w n) := by
  by_cases h0 : n < 1
  · go_enter Try.func14, Try.ntmps14
    go_wp2_with fail
    go_ret
    exact made_nil (.inl h0) (Below.refl _ _)
  · by_cases h1 : 4096 < n
    · have d0 : ¬ n < 1 := h0
      go_enter Try.func14, Try.ntmps14
      go_wp2_with fail
      go_ret
      exact made_nil (.inr h1) (Below.refl _ _)
    · obtain ⟨k, rfl⟩ := Int.eq_ofNat_of_zero_le (show 0 ≤ n by omega)
      have d0 : decide ((k : Int) < 1) = false := by simp; omega
      have d1 : decide ((4096 : Int) < (k : Int)) = false := by simp; omega
      go_enter Try.func14, Try.ntmps14
      go_wp2_with fail
      refine (Repeat_one _ _ _ k (by omega) (by omega) _ (by simp) (by go_simp)).mono ?_
      rintro e w1 ⟨v, rfl, hown, hb⟩
      go_wp2_with fail
      go_ret
      refine ⟨v, rfl, ?_, ((Below.refl _ _).alloc (Nat.le_refl _) _).trans (hb.mono (by simp))⟩
      rw [newT_of (by omega) (by omega), List.length_replicate]
      exact ownsRow_mono hown (by simp)
set_option maxHeartbeats 1000000 in
theorem refNew_any (n : Int) (w : World) : Calls Try.prog 15 #[.int .i64 n] w (Made w n) := by
  by_cases h0 : n < 1
  · go_enter Try.func15, Try.ntmps15
    go_wp2_with fail
    go_ret
    exact made_nil (.inl h0) (Below.refl _ _)
  · by_cases h1 : 4096 < n
    · have d0 : ¬ n < 1 := h0
      go_enter Try.func15, Try.ntmps15
      go_wp2_with fail
      go_ret
      exact made_nil (.inr h1) (Below.refl _ _)
    · obtain ⟨k, rfl⟩ := Int.eq_ofNat_of_zero_le (show 0 ≤ n by omega)
      have d0 : decide ((k : Int) < 1) = false := by simp; omega
      have d1 : decide ((4096 : Int) < (k : Int)) = false := by simp; omega
      obtain ⟨i0, hi0, hz0, hz1, hz2⟩ := info_parts Try.info3
      go_enter Try.func15, Try.ntmps15
      go_wp2_with (refine wpList_make_full _ rfl _ _ _ rfl w.heap.size 3 i0 (.int .i64 0) 1 Try.underlying35 hi0 hz0 hz1 .i64 .i64 _ _ k rfl rfl (by omega) (by omega) (by rw [hz2]; omega) (by unfold maxLen; omega) (Nat.le_refl _) ?_; intro w1 hown1 hg1)
      have hb1 := (Below.refl w.heap.size w).grown hg1 (Nat.le_refl _) (fun k e => by cases e)
      have hf1 := full_block hown1
      rw [zeros_ints k] at hf1
      clear hown1 hg1
      go_loopw [4] (fun v wr => ∃ j : Nat, j ≤ k ∧ v = .int .i64 j ∧ wr.heap[w.heap.size]? = some (.cells (ints (List.replicate j 1 ++ List.replicate (k - j) 0)).toArray 3 (0, 0)) ∧ Below w.heap.size w wr) (fun v _ => k - (intOf v).toNat)
      case atStart => exact ⟨0, by omega, rfl, by simpa using hf1, hb1⟩
      case round =>
        obtain ⟨j, j1, rfl, hf, hbr⟩ := hrel
        by_cases hlt : j < k
        · have hfz := frozen_of_row wr w.heap.size j _ _ hf
          have hce := cell_of_row wr w.heap.size j _ _ _ hf
          rw [rep_cell hlt] at hce
          have hst := rep_store wr hf hlt
          have HF := Lib.hid hst
          clear hf hst
          go_wp2_with fail
          go_roundw
          case rel => exact ⟨j + 1, by omega, by go_num, HF.out, hbr.setCell (by simp) _⟩
          case measure => simp [intOf]; omega
        · obtain rfl : j = k := by omega
          rw [Nat.sub_self, List.replicate_zero, List.append_nil] at hf
          have HF := Lib.hid hf
          clear hf
          go_wp2_with fail
          go_ret
          refine ⟨_, rfl, ?_, hbr⟩
          rw [newT_of (by omega) (by omega), List.length_replicate]
          exact own_of_block HF.out (by simp) rfl (Nat.le_refl _) (by unfold maxLen; omega)
end Go.Proofs.Ytjciifcaahninaa
