/-
  WALK of awake.
-/
import Derived.Test.YtfgjnkgadnmegaaDoorFr
import Derived.Lib.SlBytesConst
namespace Go.Proofs.YtfgjnkgadnmegaaDoor
open Go.ChangeShapes Go.WideShapes Go.ChangeAt Go.RowKit

theorem aw_uenc : uenc 300 = [172, 2] := by rw [uenc_big (by omega), uenc_small (by omega)]
theorem aw_crc : crc [49, 50, 51, 52, 53, 54, 55, 56, 57] = 3421780262 := by decide +kernel
theorem aw_byt : Byt [49, 50, 51, 52, 53, 54, 55, 56, 57] := by unfold Byt; decide
theorem nil_bs (w : World) : Bs w none 0 0 [] := ⟨rfl, Nat.le_refl _, by simp [maxLen], fun _ => rfl, Cells.nil _ _⟩
theorem aw_bs (w : World) : Bs (w.alloc (.cells #[.int .u8 49, .int .u8 50, .int .u8 51, .int .u8 52, .int .u8 53, .int .u8 54, .int .u8 55, .int .u8 56, .int .u8 57] 5 (9, 10))) (some ⟨w.heap.size, 0, none⟩) 9 9 [49, 50, 51, 52, 53, 54, 55, 56, 57] := by
  refine ⟨rfl, Nat.le_refl _, by simp [maxLen], (fun e => by cases e), fun _ => ⟨_, _, rfl, by simp, fun j u hj => ?_⟩⟩
  rw [cell_of_row _ _ _ _ _ _ (heap_alloc_new w _), Nat.zero_add]
  simpa using hj
set_option maxRecDepth 100000 in
set_option maxHeartbeats 4000000 in
theorem awake_any (w : World) (hl : Laid w) : Calls Tryd.prog 7 #[] w fun e w' => e = .returned (.bool true) ∧ Below w.heap.size w w' := by
  have HL := Lib.hid hl
  clear hl
  go_enter Tryd.func7, Tryd.ntmps7
  go_wp2_with fail
  refine (PutUint_any none 0 0 300 [] (by omega) (by omega) _ (nil_bs _)).mono ?_
  rintro e w1 ⟨v, rfl, hown, hb1⟩
  rw [List.nil_append, aw_uenc] at hown
  obtain ⟨a, cap, rfl, hbs⟩ := Bs.of_own hown
  obtain ⟨b, off, rfl, hbl, hcell⟩ := hbs.2.2.2.2.byt 0 (by simp)
  have c0 := hcell 0 (by simp)
  have c1 := hcell 1 (by simp)
  rw [Nat.add_zero] at c0
  have HB := Lib.hid hb1
  have kc := fun (w : World) (C : Array Value) (n c : Nat) => Lib.run_convert_bytes_const (P := Tryd.prog) w 22 5 C n c Tryd.underlying22 Tryd.underlying5
  clear hcell hbs hown hb1 hbl
  go_wp2_with fail
  refine (Checksum_any _ 9 9 [49, 50, 51, 52, 53, 54, 55, 56, 57] (by omega) aw_byt _ (aw_bs _) ?_).mono ?_
  · exact HL.out.below (HB.out.alloc HB.out.size _)
  rintro e w2 ⟨rfl, hb2⟩
  rw [aw_crc]
  have hb := HB.out.alloc HB.out.size (.cells #[.int .u8 49, .int .u8 50, .int .u8 51, .int .u8 52, .int .u8 53, .int .u8 54, .int .u8 55, .int .u8 56, .int .u8 57] 5 (9, 10))
  have HE := Lib.hid (hb.trans (hb2.mono hb.size))
  clear hb hb2
  go_wp2_with fail
  go_ret
  exact ⟨rfl, HE.out⟩
end Go.Proofs.YtfgjnkgadnmegaaDoor
