/-
  WALK of warmpathref24.Ints: are two lists equal? (Filled in from a template of this repo.)
-/
import Derived.Test.YthoehobofdeifaaCirI
namespace Go.Proofs.Ythoehobofdeifaa
open Go.ChangeShapes Go.WideShapes Go.ChangeAt Go.RowKit
set_option linter.unusedVariables false

set_option maxRecDepth 100000 in
set_option maxHeartbeats 4000000 in
theorem Ints_any (a b : Option Addr) (n m ca cb : Nat) (x y : Nat → Int) (hn : n ≤ 9223372036854775806) (hm : m ≤ 9223372036854775806) (z : Bool) (hz : z = true ↔ n = m ∧ ∀ j, j < n → x j = y j) (w : World) (hx : Rd w a n x) (hy : Rd w b m y) :
    Calls Try.prog 23 #[.slice a n ca, .slice b m cb] w fun e w' => e = .returned (.bool z) ∧ Below w.heap.size w w' := by
  have HX := Lib.hid hx
  have HY := Lib.hid hy
  have HZ := Lib.hid hz
  clear hx hy hz
  by_cases hnm : n = m
  · subst hnm
    have HT : Hid ((∀ j, j < n → x j = y j) → z = true) := Lib.hid (fun h => HZ.out.2 ⟨rfl, h⟩)
    have HF : Hid (∀ j, j < n → x j ≠ y j → z = false) := Lib.hid (fun j hj hne => by
      cases hzz : z
      · rfl
      · exact absurd ((HZ.out.1 hzz).2 j hj) hne)
    have d0 : ((n : Int) != (n : Int)) = false := by simp
    clear HZ
    go_enter Try.func23, Try.ntmps23
    go_wp2_with fail
    go_loopw [5] (fun v5 wr => ∃ k : Nat, k ≤ n ∧ v5 = .int .i64 k ∧ Hid (∀ j, j < k → x j = y j) ∧ Hid (Below w.heap.size w wr)) (fun v _ => n - (intOf v).toNat)
    case atStart => exact ⟨0, by omega, rfl, Lib.hid (fun j hj => absurd hj (by omega)), Lib.hid (Below.refl _ _)⟩
    case round =>
      obtain ⟨k, hk, rfl, HE, HB⟩ := hrel
      by_cases hlt : k < n
      · obtain ⟨ba, oa, rfl, hba, p0⟩ := HX.out.below HB.out k hlt
        obtain ⟨bb, ob, rfl, hbb, q0⟩ := HY.out.below HB.out k hlt
        by_cases e : x k = y k
        · have HE2 : Hid (∀ j, j < k + 1 → x j = y j) := Lib.hid (fun j hj => by
            by_cases e2 : j = k
            · subst e2; exact e
            · exact HE.out j (by omega))
          rw [e] at p0
          clear e
          have d1 : ((y k : Int) != y k) = false := by simp
          go_wp2_with fail
          go_quiet (fail)
          go_wp2_with fail
          exact ⟨⟨k + 1, by omega, by go_num, HE2, Lib.hid (below_drewN HB.out _)⟩, by simp [intOf]; omega⟩
        · have HZF := Lib.hid (HF.out k hlt e)
          have d1 : ((x k : Int) != y k) = true := by simp [e]
          clear e
          go_wp2_with fail
          go_quiet (fail)
          go_wp2_with fail
          go_ret
          exact ⟨by rw [HZF.out]; rfl, below_drewN HB.out _⟩
      · obtain rfl : k = n := by omega
        have HZT := Lib.hid (HT.out HE.out)
        go_wp2_with fail
        go_ret
        exact ⟨by rw [HZT.out]; rfl, HB.out⟩
  · have HZF : Hid (z = false) := Lib.hid (by
      cases hzz : z
      · rfl
      · exact absurd (HZ.out.1 hzz).1 hnm)
    have d0 : ((n : Int) != (m : Int)) = true := by simp; omega
    clear hnm HZ
    go_enter Try.func23, Try.ntmps23
    go_wp2_with fail
    go_ret
    exact ⟨by rw [HZF.out]; rfl, Below.refl _ _⟩
end Go.Proofs.Ythoehobofdeifaa
