/-
  DRAWS: (*warmpathdraw.Codes).Int: any integer. (Filled in from a template of this repo.)
-/
import Derived.Test.YthoehobofdeifaaDraw
namespace Go.Proofs.Ythoehobofdeifaa
open Go.ChangeShapes Go.WideShapes Go.ChangeAt Go.RowKit

def IntPost (g : Nat) (w : World) (e : Ending) (w' : World) : Prop :=
  ∃ x : Int, e = .returned (.int .i64 x) ∧ -9223372036854775808 ≤ x ∧ x ≤ 9223372036854775807 ∧ Cod w' g ∧ w.grownBy w' (some g)

theorem grownBy_alloc_same {a w : World} {row : Option Nat} (h : a.grownBy w row) (o : Obj) : a.grownBy (w.alloc o) row := grownBy_trans h (World.grownBy_alloc w o row)

set_option maxRecDepth 100000 in
set_option maxHeartbeats 2000000 in
theorem Int_any (g : Nat) (w : World) (h : Cod w g) : Calls Try.prog 30 #[.pointer (some ⟨g, 0, none⟩)] w (IntPost g w) := by
  have hlt := h.lt
  have H := Lib.hid h
  clear h
  go_enter Try.func30, Try.ntmps30
  go_wp2_with fail
  refine (Next_any g 10 (by omega) _ ?h1).mono ?_
  case h1 => exact H.out
  rintro e w1 ⟨x, rfl, x0, x1, hc1, hg1⟩
  have hlt1 := hc1.lt
  by_cases e0 : x = 0
  · subst e0
    go_wp2_with fail
    refine (Next_any g 3 (by omega) _ hc1).mono ?_
    rintro e w2 ⟨y, rfl, y0, y1, hc2, hg2⟩
    have y2 : y < 3 := by omega
    go_wp2_with fail
    go_ret
    exact ⟨-1 - y, rfl, by omega, by omega, hc2, grownBy_trans hg1 hg2⟩
  · have e0' : (x == 0) = false := by simp [e0]
    by_cases e1 : x = 1
    · subst e1
      clear e0'
      go_wp2_with fail
      refine (Next_any g 16 (by omega) _ ?h2).mono ?_
      case h2 => exact hc1.alloc _
      rintro e w2 ⟨y, rfl, y0, y1, hc2, hg2⟩
      have y2 : y < 16 := by omega
      obtain ⟨y, rfl⟩ := Int.eq_ofNat_of_zero_le y0
      have hblk := (hg2.block w1.heap.size (by simp) (by simp; omega)).trans (heap_alloc_new w1 _)
      have hz : ∃ z : Int, w2.cell? ⟨w1.heap.size, y, none⟩ = some (.int .i64 z) ∧ -9223372036854775808 ≤ z ∧ z ≤ 9223372036854775807 := by
        rw [cell_of_row w2 w1.heap.size y _ _ _ hblk]
        have : y = 0 ∨ y = 1 ∨ y = 2 ∨ y = 3 ∨ y = 4 ∨ y = 5 ∨ y = 6 ∨ y = 7 ∨ y = 8 ∨ y = 9 ∨ y = 10 ∨ y = 11 ∨ y = 12 ∨ y = 13 ∨ y = 14 ∨ y = 15 := by omega
        rcases this with rfl | rfl | rfl | rfl | rfl | rfl | rfl | rfl | rfl | rfl | rfl | rfl | rfl | rfl | rfl | rfl <;> exact ⟨_, rfl, by omega, by omega⟩
      obtain ⟨z, hz, z0, z1⟩ := hz
      have hend := grownBy_trans (grownBy_alloc_same hg1 _) hg2
      clear hblk hg2 hg1
      go_wp2_with fail
      go_ret
      exact ⟨z, rfl, z0, z1, hc2, hend⟩
    · have e1' : (x == 1) = false := by simp [e1]
      by_cases e2 : x = 2
      · subst e2
        clear e1' e0'
        go_wp2_with fail
        refine (Next_any g 256 (by omega) _ hc1).mono ?_
        rintro e w2 ⟨y, rfl, y0, y1, hc2, hg2⟩
        have y2 : y < 256 := by omega
        go_wp2_with fail
        refine (Next_any g 256 (by omega) _ hc2).mono ?_
        rintro e w3 ⟨z, rfl, z0, z1, hc3, hg3⟩
        have z2 : z < 256 := by omega
        go_wp2_with fail
        go_ret
        exact ⟨256 * y + z, rfl, by omega, by omega, hc3, grownBy_trans hg1 (grownBy_trans hg2 hg3)⟩
      · have e2' : (x == 2) = false := by simp [e2]
        clear e0 e1 e2
        go_wp2_with fail
        refine (Next_any g 40 (by omega) _ hc1).mono ?_
        rintro e w2 ⟨y, rfl, y0, y1, hc2, hg2⟩
        have y2 : y < 40 := by omega
        go_wp2_with fail
        go_ret
        exact ⟨y, rfl, by omega, by omega, hc2, grownBy_trans hg1 hg2⟩
end Go.Proofs.Ythoehobofdeifaa
