/-
  WALK of statistics.row.
-/
import Derived.Test.YtjlalilhmadmcaaRows
import Derived.Test.YtjlalilhmadmcaaBase
import Derived.Test.YtjlalilhmadmcaaPlain
import Derived.Test.YtjlalilhmadmcaaShelf
namespace Go.Proofs.Ytjlalilhmadmcaa
open Go.ChangeShapes Go.WideShapes Go.ChangeAt Go.RowKit

/-- statistics.row -/
abbrev rowVal (n : Nat) : Value := .agg (rowOf 61 (fun k => (bin n k : Nat)))

theorem zeros61 : (#[.int .i64 0, .int .i64 0, .int .i64 0, .int .i64 0, .int .i64 0, .int .i64 0, .int .i64 0, .int .i64 0, .int .i64 0, .int .i64 0,
  .int .i64 0, .int .i64 0, .int .i64 0, .int .i64 0, .int .i64 0, .int .i64 0, .int .i64 0, .int .i64 0, .int .i64 0, .int .i64 0,
  .int .i64 0, .int .i64 0, .int .i64 0, .int .i64 0, .int .i64 0, .int .i64 0, .int .i64 0, .int .i64 0, .int .i64 0, .int .i64 0,
  .int .i64 0, .int .i64 0, .int .i64 0, .int .i64 0, .int .i64 0, .int .i64 0, .int .i64 0, .int .i64 0, .int .i64 0, .int .i64 0,
  .int .i64 0, .int .i64 0, .int .i64 0, .int .i64 0, .int .i64 0, .int .i64 0, .int .i64 0, .int .i64 0, .int .i64 0, .int .i64 0,
  .int .i64 0, .int .i64 0, .int .i64 0, .int .i64 0, .int .i64 0, .int .i64 0, .int .i64 0, .int .i64 0, .int .i64 0, .int .i64 0, .int .i64 0] : Array Value) = rowOf 61 (fun _ => 0) := by rfl

set_option maxRecDepth 100000 in
set_option maxHeartbeats 400000 in
theorem row_any (n : Nat) (hn : n ≤ 60) (w : World) : Calls Try.prog 34 #[.int .i64 n] w fun e w' => e = .returned (rowVal n) ∧ Below w.heap.size w w' := by
  go_enter Try.func34, Try.ntmps34
  go_wp2
  go_loopw [4] (fun v4 wr => ∃ i : Nat, 1 ≤ i ∧ i ≤ n + 1 ∧ v4 = .int .i64 i ∧ RowAt wr w.heap.size 66 61 (fun _ => 0) ∧ RowAt wr (w.heap.size + 1) 66 61 (fun k => (bin (i-1) k : Nat)) ∧ Below w.heap.size w wr) (fun v4 _ => n + 1 - (intOf v4).toNat)
  case atStart => 
    refine ⟨1, by omega, by omega, rfl, ?_, ?_, ?_⟩
    · exact heap_alloc2_old w _ _
    · exact heap_alloc2_new w _ _
    · exact ((Below.refl _ _).alloc (Nat.le_refl _) _).alloc (by simp) _
  case round =>
    obtain ⟨i, h1, h2, rfl, hr0, hr1, hb⟩ := hrel
    obtain ⟨wo, rfl⟩ : ∃ wo : World, wo = wr := ⟨_, rfl⟩
    by_cases hin : i ≤ n
    · go_wp2
      go_loopw [5] (fun v5 wr => ∃ k : Nat, k ≤ i ∧ v5 = .int .i64 k ∧ RowAt wr w.heap.size 66 61 (fun _ => 0) ∧ RowAt wr (w.heap.size + 1) 66 61 (fun j => if j > k then (bin i j : Nat) else (bin (i-1) j : Nat)) ∧ Below w.heap.size w wr) (fun v5 _ => (intOf v5).toNat)
      case atStart => 
        exact ⟨i, Nat.le_refl _, rfl, hr0, hr1.congr _ (fun j _ => by
          by_cases hj : j > i
          · rw [if_pos hj, bin_gt i j hj, bin_gt (i - 1) j (by omega)]
          · rw [if_neg hj]), hb⟩
      case round =>
        obtain ⟨k, k1, rfl, ir0, ir1, ib⟩ := hrel
        by_cases hk : 0 < k
        · have c1 := ir1.cell k (by omega)
          have c1f := ir1.frozen k
          have c2 := ir1.cell (k - 1) (by omega)
          have b1 := bin_le60 (n := i) (by omega) k
          have b0 : bin i k = bin (i-1) (k-1) + bin (i-1) k := by
            obtain ⟨i', rfl⟩ : ∃ i', i = i' + 1 := ⟨i - 1, by omega⟩
            obtain ⟨k', rfl⟩ : ∃ k', k = k' + 1 := ⟨k - 1, by omega⟩
            rfl
          rw [if_neg (by omega)] at c1
          rw [if_neg (by omega)] at c2
          have b3 : bin (i-1) (k-1) + bin (i-1) k ≤ 1152921504606846976 := by omega
          clear b1
          have B0 := Lib.hid b0
          clear b0
          go_wp2
          go_region
          go_wp2
          go_roundw
          case rel =>
            refine ⟨k - 1, by omega, by go_num, (ir0.other _ _ (by simp)).drew, ?_, (ib.setCell (by simp) _).drew⟩
            refine (ir1.set k _ _ ?_ ?_).drew
            · rw [if_pos (by omega), B0.out]; omega
            · intro j hj hne
              by_cases hjk : j > k
              · rw [if_pos hjk, if_pos (by omega)]
              · rw [if_neg hjk, if_neg (by omega)]
          case measure => simp [intOf]; omega
        · obtain rfl : k = 0 := by omega
          go_wp2
          go_roundw
          case rel =>
            exact ⟨i + 1, by omega, by omega, by go_num, ir0, ir1.congr _ (fun j _ => by
              show _ = ((bin i j : Nat) : Int)
              cases j with
              | zero => rw [if_neg (by omega), bin_zero, bin_zero]
              | succ j => rw [if_pos (by omega)]), ib⟩
          case measure => simp [intOf]; omega
    · obtain rfl : i = n + 1 := by omega
      go_wp2_with (first | refine wpList_load_row rfl 66 _ rfl _ rfl 66 _ _ _ hr1 Try.underlying66 rfl (by kernel_rfl) ?_ | refine wpList_store_row rfl 66 _ _ rfl _ _ rfl rfl _ _ hr0 (by kernel_rfl) (by rfl) (rowOf_oneCell _ _) ?_)
      have hz : (wo.setRow w.heap.size (rowOf 61 fun k => ((bin (n + 1 - 1) k : Nat) : Int))).heap[w.heap.size]? = some (.cells (rowOf 61 fun k => ((bin (n + 1 - 1) k : Nat) : Int)) 66 (0, 0)) := setRow_heap wo _ _ _ _ _ hr0
      exact bodyPost_ret (results_cell_row Try.results34 _ _ w.heap.size 66 _ _ _ rfl hz Try.underlying66 rfl (by kernel_rfl)) rfl ⟨rfl, below_setRow hb (Nat.le_refl _) _⟩

end Go.Proofs.Ytjlalilhmadmcaa
