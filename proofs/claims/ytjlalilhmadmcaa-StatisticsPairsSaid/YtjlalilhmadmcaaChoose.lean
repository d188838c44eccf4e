/-
  WALKS of chapter 43: Choose, Tail.
-/
import Derived.Test.YtjlalilhmadmcaaAwake
namespace Go.Proofs.Ytjlalilhmadmcaa
open Go.ChangeShapes Go.WideShapes Go.ChangeAt Go.RowKit

theorem run_index_row {P : Program} (t e : TypeId) (n : Nat) (f : Nat → Int) (i : Nat) (k : IntKind) (hi : i < n) (h : P.underlying t = some (.array n e)) (hs : ∀ w, (sizeOf e).run P w = .ok 1 w) (ha : ∀ w, (isAgg e).run P w = .ok false w) (w : World) :
    (Instr.index t (.agg (rowOf n f)) (.int k (i : Int))).run P w = .ok (.int .i64 (f i)) w := by
  have hi' : (i : Int) < n := by omega
  simp [Instr.index, asIntOf, run_underlying h, hs, ha, part, rowOf_get n f i hi]; omega

/-- a binomial number at any integer k -/
def binI (n k : Int) : Int := if k < 0 then 0 else (bin n.toNat k.toNat : Nat)

set_option maxRecDepth 100000 in
set_option maxHeartbeats 400000 in
theorem Choose_yes (n : Int) (h0 : 0 ≤ n) (h1 : n ≤ 60) (k : Int) (w : World) :
    Calls Try.prog 15 #[.int .i64 n, .int .i64 k] w fun e w' => e = .returned (.tuple #[.int .i64 (binI n k), .int .i64 0]) ∧ Below w.heap.size w w' := by
  by_cases c1 : k < 0
  · have H : Hid (binI n k = 0) := Lib.hid (by simp [binI, c1])
    go_enter Try.func15, Try.ntmps15
    go_wp2_with (first | (go_at_call 32; refine (ranged_yes n (by omega) (by omega) _).mono ?_; rintro e w1 ⟨rfl, rfl⟩))
    go_ret2
    exact ⟨by rw [H.out]; rfl, Below.refl _ _⟩
  · by_cases c2 : n < k
    · have H : Hid (binI n k = 0) := Lib.hid (by simp [binI, c1, bin_gt n.toNat k.toNat (by omega)])
      go_enter Try.func15, Try.ntmps15
      go_wp2_with (first | (go_at_call 32; refine (ranged_yes n (by omega) (by omega) _).mono ?_; rintro e w1 ⟨rfl, rfl⟩))
      go_ret2
      exact ⟨by rw [H.out]; rfl, Below.refl _ _⟩
    · obtain ⟨n, rfl⟩ := Int.eq_ofNat_of_zero_le h0
      obtain ⟨k, rfl⟩ := Int.eq_ofNat_of_zero_le (show 0 ≤ k by omega)
      have H : Hid (binI n k = (bin n k : Nat)) := Lib.hid (by unfold binI; rw [if_neg c1]; rfl)
      have hx := fun w => run_index_row (P := Try.prog) 66 3 61 (fun k => (bin n k : Nat)) k .i64 (by omega) Try.underlying66 (fun _ => by kernel_rfl) (fun _ => by kernel_rfl) w
      go_enter Try.func15, Try.ntmps15
      go_wp2_with (first
        | (go_at_call 32; refine (ranged_yes n (by omega) (by omega) _).mono ?_; rintro e w1 ⟨rfl, rfl⟩)
        | (go_at_call 34; refine (row_any n (by omega) _).mono ?_; rintro e w1 ⟨rfl, hb⟩))
      go_ret2
      exact ⟨by rw [H.out]; rfl, hb⟩

theorem Choose_no (n : Int) (h : n < 0 ∨ 60 < n) (k : Int) (w : World) :
    Calls Try.prog 15 #[.int .i64 n, .int .i64 k] w fun e w' => e = .returned (.tuple #[.int .i64 0, .int .i64 1]) ∧ Below w.heap.size w w' := by
  have Hr := Lib.hid h
  clear h
  go_enter Try.func15, Try.ntmps15
  go_wp2_with (first | (go_at_call 32; refine (ranged_no n Hr.out _).mono ?_; rintro e w1 ⟨rfl, rfl⟩))
  go_ret2
  exact ⟨rfl, Below.refl _ _⟩

theorem Tail_yes (n : Int) (h0 : 0 ≤ n) (h1 : n ≤ 60) (k : Int) (hk0 : -9223372036854775808 ≤ k) (hk : k ≤ 9223372036854775807) (w : World) :
    Calls Try.prog 17 #[.int .i64 n, .int .i64 k] w fun e w' => e = .returned (.tuple #[.int .i64 (tl n.toNat k.toNat : Nat), .int .i64 0]) ∧ Below w.heap.size w w' := by
  obtain ⟨n, rfl⟩ := Int.eq_ofNat_of_zero_le h0
  go_enter Try.func17, Try.ntmps17
  go_wp2_with (first
    | (go_at_call 32; refine (ranged_yes n (by omega) (by omega) _).mono ?_; rintro e w1 ⟨rfl, rfl⟩)
    | (go_at_call 35; refine (tail_any n (by omega) k hk0 hk _).mono ?_; rintro e w1 ⟨rfl, hb⟩))
  go_ret2
  exact ⟨rfl, hb⟩

theorem Tail_no (n : Int) (h : n < 0 ∨ 60 < n) (k : Int) (w : World) :
    Calls Try.prog 17 #[.int .i64 n, .int .i64 k] w fun e w' => e = .returned (.tuple #[.int .i64 0, .int .i64 1]) ∧ Below w.heap.size w w' := by
  have Hr := Lib.hid h
  clear h
  go_enter Try.func17, Try.ntmps17
  go_wp2_with (first | (go_at_call 32; refine (ranged_no n Hr.out _).mono ?_; rintro e w1 ⟨rfl, rfl⟩))
  go_ret2
  exact ⟨rfl, Below.refl _ _⟩
end Go.Proofs.Ytjlalilhmadmcaa
