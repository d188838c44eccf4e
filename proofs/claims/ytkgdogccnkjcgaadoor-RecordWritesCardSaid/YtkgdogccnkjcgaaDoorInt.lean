/-
  WALKS of Int (both), Checksum (both).
-/
import Derived.Test.YtkgdogccnkjcgaaDoorGet
namespace Go.Proofs.YtkgdogccnkjcgaaDoor
open Go.ChangeShapes Go.WideShapes Go.ChangeAt Go.RowKit

/-- what Int says -/
def GotI (zs : List Nat) (w : World) (e : Ending) (w' : World) : Prop :=
  e = .returned (.tuple #[.int .i64 (zag (ud zs).1), .int .i64 (ud zs).2.1, .int .i64 (ud zs).2.2]) ∧ w = w'
theorem and1 {n : Nat} (h : n < 18446744073709551616) : bits .and .u64 (n : Int) 1 = ((n % 2 : Nat) : Int) := by
  rw [show (1 : Int) = ((1 : Nat) : Int) from rfl, u64_and_nat n 1 h (by omega), nat_mask1]
theorem gotI_of {zs : List Nat} {w : World} {v k r : Nat} {z : Int} (h : ud zs = (v, k, r)) (hz : zag v = z) : GotI zs w (.returned (.tuple #[.int .i64 z, .int .i64 k, .int .i64 r])) w := by
  refine ⟨?_, rfl⟩; rw [h]; simp only; rw [hz]
set_option maxRecDepth 100000 in
set_option maxHeartbeats 2000000 in
theorem Int_any (a : Option Addr) (n cap : Nat) (zs : List Nat) (hm : n ≤ 100000) (hby : Byt zs) (w : World) (h : Bs w a n cap zs) : Calls Tryd.prog 64 #[.slice a n cap] w (GotI zs w) := by
  have H := Lib.hid h
  have HB := Lib.hid hby
  obtain ⟨b1, b2, b3, b4, b5⟩ := ud_bd zs
  obtain ⟨⟨v, k, r⟩, hu⟩ : ∃ u, ud zs = u := ⟨_, rfl⟩
  rw [hu] at b1 b2 b3 b4 b5
  simp only at b1 b2 b3 b4 b5
  have HU := Lib.hid hu
  have e1 := and1 b1
  clear h hby hu b5
  by_cases hp : v % 2 = 1
  · have hz : zag v = -((v : Int) / 2) - 1 := by unfold zag; rw [if_neg (by omega)]; omega
    have HZ := Lib.hid hz
    rw [hp] at e1
    clear hz
    go_enter Tryd.func64, Tryd.ntmps64
    go_wp2_with fail
    refine (Uint_any a n cap zs hm HB.out _ H.out).mono ?_
    rintro e w1 ⟨he, rfl⟩
    rw [HU.out] at he
    subst he
    go_wp2_with fail
    go_ret3
    exact gotI_of HU.out HZ.out
  · have hz : zag v = (v : Int) / 2 := by unfold zag; rw [if_pos (by omega)]; omega
    have HZ := Lib.hid hz
    rw [show v % 2 = 0 by omega] at e1
    clear hz
    go_enter Tryd.func64, Tryd.ntmps64
    go_wp2_with fail
    refine (Uint_any a n cap zs hm HB.out _ H.out).mono ?_
    rintro e w1 ⟨he, rfl⟩
    rw [HU.out] at he
    subst he
    go_wp2_with fail
    go_ret3
    exact gotI_of HU.out HZ.out
end Go.Proofs.YtkgdogccnkjcgaaDoor
