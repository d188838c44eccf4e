/-
  WALKS of chapter 43: Threshold, and the law's own draw of a level.
-/
import Derived.Test.YtjlalilhmadmcaaAwake
import Derived.Test.YtjlalilhmadmcaaPlainB
import Derived.Test.YtjlalilhmadmcaaDraw
namespace Go.Proofs.Ytjlalilhmadmcaa
open Go.ChangeShapes Go.WideShapes Go.ChangeAt Go.RowKit

set_option maxRecDepth 100000 in
set_option maxHeartbeats 1000000 in
theorem Threshold_yes' (n : Nat) (hn : n ≤ 60) (num den : Nat) (h1 : 1 ≤ den) (hd : den ≤ 1000000) (hm : num ≤ den) (w : World) :
    Calls Try.prog 14 #[.int .i64 n, .agg #[.int .i64 num, .int .i64 den]] w fun e w' => e = .returned (.tuple #[.int .i64 (thrOf n num den : Nat), .int .i64 0]) ∧ Below w.heap.size w w' := by
  go_enter Try.func14, Try.ntmps14
  go_wp2_with (first
    | (go_at_call 32; refine (ranged_yes n (by omega) (by omega) _).mono ?_; rintro e w1 ⟨rfl, rfl⟩)
    | (go_at_call 25; refine (valid_yes num den (by omega) (by omega) (by omega) (by omega) _).mono ?_; rintro e w1 ⟨rfl, hb⟩))
  have f0 : (w.alloc (.cells #[.int .i64 num, .int .i64 den] 25)).cell? ⟨w.heap.size, 0, none⟩ = some (.int .i64 num) := by simp [go_sem]
  have f1 : (w.alloc (.cells #[.int .i64 num, .int .i64 den] 25)).cell? ⟨w.heap.size, 1, none⟩ = some (.int .i64 den) := by simp [go_sem]
  have f2 : Below w.heap.size w (w.alloc (.cells #[.int .i64 num, .int .i64 den] 25)) := (Below.refl _ _).alloc (Nat.le_refl _) _
  generalize (w.alloc (.cells #[.int .i64 num, .int .i64 den] 25)) = W0 at *
  go_loopw [6] (fun v wr => ∃ k : Nat, k ≤ n + 1 ∧ v = .int .i64 k ∧ (∀ j, j < k → sig n j num den = false) ∧ Below W0.heap.size W0 wr) (fun v _ => n + 1 - (intOf v).toNat)
  case atStart => exact ⟨0, by omega, rfl, fun j hj => absurd hj (by omega), hb⟩
  case round =>
    obtain ⟨k, hk, rfl, hs, hbb⟩ := hrel
    have Hs := Lib.hid hs
    clear hs
    have c0 := (hbb.cell (p := ⟨w.heap.size, 0, none⟩) (block_lt_of_cell f0)).trans f0
    have c1 := (hbb.cell (p := ⟨w.heap.size, 1, none⟩) (block_lt_of_cell f1)).trans f1
    by_cases hkn : k ≤ n
    · obtain ⟨b, hsig⟩ : ∃ b, sig n k num den = b := ⟨_, rfl⟩
      have Hsig := Lib.hid hsig
      have hsig' : sig n (k : Int).toNat num den = b := hsig
      have Hsig' := Lib.hid hsig'
      clear hsig hsig'
      cases b with
      | false =>
        go_wp2_with (go_at_call 33; refine (significant_any n hn k (by omega) (by omega) num den hd hm _).mono ?_; rw [Hsig'.out]; rintro e w2 ⟨rfl, hb2⟩)
        go_roundw
        case rel =>
          refine ⟨k + 1, by omega, by go_num, fun j hj => ?_, hbb.trans (hb2.mono hbb.size)⟩
          by_cases e : j = k
          · rw [e]; exact Hsig.out
          · exact Hs.out j (by omega)
        case measure => simp [intOf]; omega
      | true =>
        have hT : k = thrOf n num den := IsThr.eq ⟨hk, Hs.out, fun _ => Hsig.out⟩
        have HT := Lib.hid hT
        clear hT
        go_wp2_with (go_at_call 33; refine (significant_any n hn k (by omega) (by omega) num den hd hm _).mono ?_; rw [Hsig'.out]; rintro e w2 ⟨rfl, hb2⟩)
        go_ret2
        exact ⟨by rw [← HT.out]; rfl, f2.trans ((hbb.trans (hb2.mono hbb.size)).mono f2.size)⟩
    · have hT : k = thrOf n num den := IsThr.eq ⟨hk, Hs.out, fun h => absurd h hkn⟩
      have HT := Lib.hid hT
      clear hT
      go_wp2_with fail
      go_ret2
      exact ⟨by rw [← HT.out]; rfl, f2.trans (hbb.mono f2.size)⟩
theorem Threshold_yes (n : Int) (hn0 : 0 ≤ n) (hn : n ≤ 60) (num den : Int) (h1 : 1 ≤ den) (hd : den ≤ 1000000) (h0 : 0 ≤ num) (hm : num ≤ den) (w : World) :
    Calls Try.prog 14 #[.int .i64 n, .agg #[.int .i64 num, .int .i64 den]] w fun e w' => e = .returned (.tuple #[.int .i64 (thrOf n.toNat num.toNat den.toNat : Nat), .int .i64 0]) ∧ Below w.heap.size w w' := by
  obtain ⟨n, rfl⟩ := Int.eq_ofNat_of_zero_le hn0
  obtain ⟨num, rfl⟩ := Int.eq_ofNat_of_zero_le h0
  obtain ⟨den, rfl⟩ := Int.eq_ofNat_of_zero_le (show 0 ≤ den by omega)
  exact Threshold_yes' n (by omega) num den (by omega) (by omega) (by omega) w

set_option maxRecDepth 100000 in
set_option maxHeartbeats 400000 in
theorem Threshold_no (n num den : Int) (h : ¬ (0 ≤ n ∧ n ≤ 60 ∧ 1 ≤ den ∧ den ≤ 1000000 ∧ 0 ≤ num ∧ num ≤ den)) (w : World) :
    Calls Try.prog 14 #[.int .i64 n, .agg #[.int .i64 num, .int .i64 den]] w fun e w' => e = .returned (.tuple #[.int .i64 0, .int .i64 1]) ∧ Below w.heap.size w w' := by
  by_cases hr : n < 0 ∨ 60 < n
  · have Hr := Lib.hid hr
    clear h hr
    go_enter Try.func14, Try.ntmps14
    go_wp2_with (go_at_call 32; refine (ranged_no n Hr.out _).mono ?_; rintro e w1 ⟨rfl, rfl⟩)
    go_ret2
    exact ⟨rfl, ((Below.refl _ _).alloc (Nat.le_refl _) _)⟩
  · have hv : ¬ (1 ≤ den ∧ den ≤ 1000000 ∧ 0 ≤ num ∧ num ≤ den) := by omega
    have hr0 : 0 ≤ n := by omega
    have hr1 : n ≤ 60 := by omega
    have Hv := Lib.hid hv
    clear h hr hv
    go_enter Try.func14, Try.ntmps14
    go_wp2_with (first
      | (go_at_call 32; refine (ranged_yes n hr0 hr1 _).mono ?_; rintro e w1 ⟨rfl, rfl⟩)
      | (go_at_call 25; refine (valid_no num den Hv.out _).mono ?_; rintro e w1 ⟨rfl, hb⟩))
    go_ret2
    exact ⟨rfl, ((Below.refl _ _).alloc (Nat.le_refl _) _).trans (hb.mono (by simp))⟩

/-- a level that was drawn: valid; the choices; all else as it was -/
def LevelPost (g : Nat) (w : World) (e : Ending) (w' : World) : Prop :=
  ∃ num den : Int, e = .returned (.agg #[.int .i64 num, .int .i64 den]) ∧ 1 ≤ den ∧ den ≤ 200 ∧ 0 ≤ num ∧ num ≤ den ∧ Cod w' g ∧ w.grownBy w' (some g)

set_option maxRecDepth 100000 in
set_option maxHeartbeats 400000 in
theorem level_any (g : Nat) (w : World) (h : Cod w g) : Calls Try.prog 13 #[.pointer (some ⟨g, 0, none⟩)] w (LevelPost g w) := by
  have hlt := h.lt
  have H := Lib.hid h
  clear h
  go_enter Try.func13, Try.ntmps13
  go_wp2_with fail
  refine (Next_any g 200 (by omega) _ ?h1).mono ?_
  case h1 => exact H.out.alloc _
  rintro e w1 ⟨x, rfl, x0, x1, hc1, hg1⟩
  have x2 : x < 200 := by omega
  go_wp2_with fail
  refine (Next_any g (1 + x + 1) (by omega) _ ?h2).mono ?_
  case h2 => exact hc1
  rintro e w2 ⟨y, rfl, y0, y1, hc2, hg2⟩
  have y2 : y < 1 + x + 1 := by omega
  have hg3 := grownBy_trans hg1 hg2
  have hblk : w2.heap[w.heap.size]? = some (.cells #[.int .i64 0, .int .i64 0] 25 (0, 0)) := (hg3.block w.heap.size (by simp) (by simp; omega)).trans (heap_alloc_new w _)
  go_wp2_with (refine wpList_store_row rfl 25 _ _ rfl _ _ rfl rfl _ _ hblk (by kernel_rfl) (by rfl) (by simp [Value.oneCell']) ?_)
  refine bodyPost_ret (results_cell_row Try.results13 _ _ w.heap.size 25 _ _ _ rfl (setRow_heap w2 _ _ #[.int .i64 y, .int .i64 (1 + x)] _ _ hblk) Try.underlying25 rfl (by kernel_rfl)) rfl ⟨y, 1 + x, rfl, by omega, by omega, y0, by omega, ?_, ?_⟩
  · exact hc2.keep fun k hk => setRow_other w2 _ k _ (by omega)
  · refine ⟨hg3.os, hg3.tape, hg3.output, ?_, fun k hk hn => ?_⟩
    · have := hg3.size; simp at this ⊢; omega
    · rw [setRow_other w2 _ k _ (by omega), hg3.block k (by simp; omega) hn]
      exact Below.heap_alloc w _ k hk
end Go.Proofs.Ytjlalilhmadmcaa
