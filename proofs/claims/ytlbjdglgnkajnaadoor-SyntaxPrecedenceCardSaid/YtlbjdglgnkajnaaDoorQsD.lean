/-
  WALK of the reference's reader: done. (Filled in from a template of this repo.)
-/
import Derived.Test.YtlbjdglgnkajnaaDoorQsX
namespace Go.Proofs.YtlbjdglgnkajnaaDoor
open Go.ChangeShapes Go.WideShapes Go.ChangeAt Go.RowKit
set_option linter.unusedVariables false
set_option linter.unusedSimpArgs false

/-- what done leaves, where no size is out of range -/
def DnPost (bad : Bool) (rest : List Tk) (w : World) (e : Ending) (w' : World) : Prop := Below w.heap.size w w' ∧
    (((bad = true ∨ kOf rest ≠ 0) ∧ e = .returned (.tuple #[.int .i64 (lnOf rest), .int .i64 7])) ∨ (bad = false ∧ kOf rest = 0 ∧ e = .returned (.tuple #[.int .i64 0, .int .i64 0])))
set_option maxRecDepth 100000 in
set_option maxHeartbeats 4000000 in
theorem done_any (K : PC) (at_ : Nat) (bad : Bool) (rest : List Tk) (w : World) (h : RAt w K at_ bad rest) (hw0 : K.wr = 0) : Calls Tryd.prog 22 #[.pointer (some ⟨K.g, 0, none⟩)] w (DnPost bad rest w) := by
  obtain ⟨⟨rk, rn, rv, rt⟩, r, hxr⟩ := h.en.cons
  have HP := Lib.hid h
  have HKR : Hid (kOf rest = rk ∧ lnOf rest = rn) := Lib.hid (by rw [hxr]; exact ⟨rfl, rfl⟩)
  have HLK : Hid (∀ wx, RAt wx K at_ bad rest → Calls Tryd.prog 36 #[.pointer (some ⟨K.g, 0, none⟩)] wx fun e w' => e = .returned (.agg #[.int .i64 rk, .int .i64 rn, .int .i64 rv, .string (st rt)]) ∧ Below wx.heap.size wx w') := Lib.hid (fun wx h => now_at K at_ bad rk rn rv rt r wx (by rw [← hxr]; exact h))
  have HC : Hid (∀ wx, RAt wx K at_ bad rest → wx.cell? ⟨K.g, 2, none⟩ = some (.bool bad) ∧ wx.cell? ⟨K.g, 3, none⟩ = some (.int .i64 0) ∧ K.g < wx.heap.size) := Lib.hid (fun wx h => ⟨cell_of_row _ _ 2 _ _ _ h.row, by have := cell_of_row _ _ 3 _ _ _ h.row; rw [this]; simp [hw0], h.glt⟩)
  have hfd0 : ∀ W : World, (Instr.field 59 (.agg #[.int .i64 rk, .int .i64 rn, .int .i64 rv, .string (st rt)]) 0).run Tryd.prog W = .ok (.int .i64 rk) W := fun _ => by kernel_rfl
  have hfd1 : ∀ W : World, (Instr.field 59 (.agg #[.int .i64 rk, .int .i64 rn, .int .i64 rv, .string (st rt)]) 1).run Tryd.prog W = .ok (.int .i64 rn) W := fun _ => by kernel_rfl
  clear h hxr hw0
  obtain ⟨c2, c3, hl⟩ := HC.out _ HP.out
  go_enter Tryd.func22, Tryd.ntmps22
  cases bad
  · go_wp2_with fail
    refine (HLK.out _ HP.out).mono ?_
    rintro e w2 ⟨rfl, hb2⟩
    have HB2 := Lib.hid hb2
    have HP2 := Lib.hid (HP.out.below hb2)
    clear hb2
    by_cases hk : rk = 0
    · subst hk
      obtain ⟨d2, d3, hl2⟩ := HC.out _ HP2.out
      go_wp2_with fail
      refine bodyPost_ret (v := .tuple #[.int .i64 0, .int .i64 0]) (by simp [results, Tryd.results22, go_sem]) rfl ?_
      exact ⟨HB2.out, .inr ⟨rfl, HKR.out.1, rfl⟩⟩
    · have dk : (rk == 0) = false := by rw [beq_eq_false_iff_ne]; exact hk
      have dk2 : (rk != 0) = true := by rw [bne_iff_ne]; exact hk
      have HK : Hid (kOf rest ≠ 0) := Lib.hid (by rw [HKR.out.1]; exact hk)
      clear hk
      go_wp2_with fail
      refine (HLK.out _ HP2.out).mono ?_
      rintro e w3 ⟨rfl, hb3⟩
      have HB3 := Lib.hid (HB2.out.trans (hb3.mono HB2.out.size))
      clear hb3
      go_wp2_with fail
      refine bodyPost_ret (v := .tuple #[.int .i64 rn, .int .i64 7]) (by simp [results, Tryd.results22, go_sem]) rfl ?_
      exact ⟨HB3.out, .inl ⟨.inr HK.out, by rw [HKR.out.2]⟩⟩
  · go_wp2_with fail
    refine (HLK.out _ HP.out).mono ?_
    rintro e w3 ⟨rfl, hb3⟩
    have HB3 := Lib.hid hb3
    clear hb3
    go_wp2_with fail
    refine bodyPost_ret (v := .tuple #[.int .i64 rn, .int .i64 7]) (by simp [results, Tryd.results22, go_sem]) rfl ?_
    exact ⟨HB3.out, .inl ⟨.inl rfl, by rw [HKR.out.2]⟩⟩
end Go.Proofs.YtlbjdglgnkajnaaDoor
