/-
  WALKS of the reference's Update, warmpathref01.Ints, awake.
-/
import Derived.Test.YtjciifcaahninaaCount
namespace Go.Proofs.Ytjciifcaahninaa
open Go.ChangeShapes Go.WideShapes Go.ChangeAt Go.RowKit

set_option maxRecDepth 100000 in
set_option maxHeartbeats 4000000 in
theorem refUpdate_any (a : Option Addr) (n cap : Nat) (t : List Int) (y : Int) (tk : Bool) (hy : 0 ≤ y) (hn : t.length = n) (hp : 0 < n) (hm : n ≤ 4096) (hT : Tab t) (w : World) (hc : Cells w a (ints t)) :
    Calls Try.prog 19 #[.slice a n cap, .int .i64 y, .bool tk] w (IntsMade (upd t y tk) w) := by
  obtain ⟨b, off, rfl, hb, hcell⟩ := hc.int 0 (by omega)
  obtain ⟨i0, hi0, hz0, hz1, hz2⟩ := info_parts Try.info3
  have g0 := Int.emod_nonneg y (b := (n : Int)) (by omega)
  have g1 := Int.emod_lt_of_pos y (b := (n : Int)) (by omega)
  have hnews : ∀ j u, (ints t)[j]? = some u → w.cell? ((⟨b, off, none⟩ : Addr).add j) = some u := fun j u hj => by
    rw [add_none]
    have hjl : j < t.length := by have := (List.getElem?_eq_some_iff.1 hj).1; simpa using this
    rw [ints_get t j hjl] at hj
    rw [hcell j hjl, ← hj]
  have HNW := Lib.hid hnews
  have HU := Lib.hid (show upd t y tk = t.set (y % (n : Int)).toNat (aft (t.getD (y % (n : Int)).toNat 0) tk) by unfold upd at_; rw [hn])
  have hx3 := hT.get (y % (n : Int)).toNat
  have HN := Lib.hid hn
  clear hcell hn hT hc hnews
  have fin : ∀ (g cap' : Nat) (w1 : World), w1.ownsRow w.heap.size 3 1 (.slice (some ⟨g, 0, none⟩) n cap') n (ints t) → w.heap.size ≤ g → Below w.heap.size w w1 →
      IntsMade (upd t y tk) w (.returned (.slice (some ⟨g, 0, none⟩) n cap')) (w1.setCell ⟨g, (y % (n : Int)).toNat, none⟩ (.int .i64 (aft (t.getD (y % (n : Int)).toNat 0) tk))) := by
    intro g cap' w1 ho hg hb
    have hst := (World.ownsRow.stored ho (y % (n : Int)).toNat (.int .i64 (aft (t.getD (y % (n : Int)).toNat 0) tk))).1
    rw [ints_upd, ← HU.out] at hst
    exact made_of (by rw [upd_len]; exact HN.out) hst (hb.setCell hg _)
  have FIN := Lib.hid fin
  clear fin HU
  cases tk
  all_goals
    go_enter Try.func19, Try.ntmps19
    go_wp2_with (at_builtin; refine wpList_append_own _ rfl _ _ _ rfl w.heap.size 3 i0 _ 1 8 Try.underlying35 hi0 hz0 hz1 hz2 rfl (by omega) _ _ _ rfl (World.ownsRow_nil _ _ _ _) ⟨b, off, none⟩ n cap (ints t) rfl (by rw [List.length_map, HN.out, Nat.mul_one]) HNW.out (ints_one t) (by unfold maxLen; omega) (by omega) (Nat.le_refl _) ?_; intro v w1 hown hgr _; have hb1 := (Below.refl w.heap.size w).grown hgr (Nat.le_refl _) (fun k e => by cases e); rw [Nat.zero_add, List.nil_append] at hown; obtain ⟨g, cap', rfl, hg1, hg2, hc1, hc2, hil, hgc⟩ := own_block hown (ints_ne t 0 (by have := HN.out; omega)); have cj := hgc (y % (n : Int)).toNat _ (ints_get t _ (by have := HN.out; omega)); have fi := World.ownsRow.frozenAt hown (y % (n : Int)).toNat; have HW := Lib.hid hown; obtain ⟨x, hx⟩ : ∃ x, t.getD (y % (n : Int)).toNat 0 = x := ⟨_, rfl⟩; rw [hx] at cj hx3; have HX := Lib.hid hx; obtain ⟨x0, x3⟩ := hx3; clear hx hown hgr hgc hil)
    go_ret
    have f := FIN.out _ _ _ HW.out hg1 hb1
    rw [HX.out] at f
    exact f
set_option maxRecDepth 100000 in
set_option maxHeartbeats 4000000 in
theorem Ints_same (a a' : Option Addr) (n cap cap' : Nat) (t : List Int) (hn : t.length = n) (hm : n ≤ 4096) (w : World) (hc : Cells w a (ints t)) (hc' : Cells w a' (ints t)) :
    Calls Try.prog 13 #[.slice a n cap, .slice a' n cap'] w fun e w' => e = .returned (.bool true) ∧ Below w.heap.size w w' := by
  have HC := Lib.hid hc
  have HC' := Lib.hid hc'
  have HN := Lib.hid hn
  have e1 : ((n : Int) != (n : Int)) = false := by simp
  clear hc hc' hn
  go_enter Try.func13, Try.ntmps13
  go_wp2_with fail
  go_loopw [5] (fun v5 wr => ∃ k : Nat, k ≤ n ∧ v5 = .int .i64 k ∧ Below w.heap.size w wr) (fun v _ => n - (intOf v).toNat)
  case atStart => exact ⟨0, by omega, rfl, Below.refl _ _⟩
  case round =>
    obtain ⟨k, hk, rfl, hb⟩ := hrel
    by_cases hlt : k < n
    · have hkl : k < t.length := by have := HN.out; omega
      obtain ⟨b, off, rfl, hbl, hcell⟩ := HC.out.int k hkl
      obtain ⟨b', off', rfl, hbl', hcell'⟩ := HC'.out.int k hkl
      have c1 := (hb.cell (p := ⟨b, off + k, none⟩) hbl).trans (hcell k hkl)
      have c2 := (hb.cell (p := ⟨b', off' + k, none⟩) hbl').trans (hcell' k hkl)
      obtain ⟨x, hx⟩ : ∃ x, t.getD k 0 = x := ⟨_, rfl⟩
      rw [hx] at c1 c2
      have i0 : (0 : Int) ≤ (k : Int) := by omega
      have i1 : (k : Int) < (n : Int) := by omega
      have e2 : (x != x) = false := by simp
      clear hcell hcell' hx
      go_wp2_with fail
      go_quiet (fail)
      go_wp2_with fail
      go_roundw
      case rel => exact ⟨k + 1, by omega, by go_num, below_drewN hb _⟩
      case measure => simp [intOf]; omega
    · obtain rfl : k = n := by omega
      go_wp2_with fail
      go_ret
      exact ⟨rfl, hb⟩

theorem aw_counted : counted 1 (fets [1, 1, 2, 1]) = (4, 2) := by decide +kernel
theorem aw_ok : FetOk (fets [1, 1, 2, 1]) := by unfold FetOk; decide +kernel
theorem aw_cells (w : World) : Cells (w.alloc (.cells #[.int .i64 1, .int .i64 1, .int .i64 2, .int .i64 1] 3)) (some ⟨w.heap.size, 0, none⟩) (ints [1, 1, 2, 1]) := by
  intro _
  refine ⟨_, _, rfl, by simp, fun j u hj => ?_⟩
  rw [cell_of_row _ _ _ _ _ _ (heap_alloc_new w _), Nat.zero_add]
  simpa using hj
set_option maxRecDepth 100000 in
set_option maxHeartbeats 4000000 in
theorem awake_any (w : World) : Calls Try.prog 7 #[] w fun e w' => e = .returned (.bool true) ∧ Below w.heap.size w w' := by
  go_enter Try.func7, Try.ntmps7
  go_wp2_with fail
  refine (fetches_any _ 4 4 [1, 1, 2, 1] rfl (by omega) _ (aw_cells w)).mono ?_
  rintro e w1 ⟨a, cap, rfl, hc1, hc2, hcell, hb1⟩
  have hb := ((Below.refl w.heap.size w).alloc (Nat.le_refl _) (.cells #[.int .i64 1, .int .i64 1, .int .i64 2, .int .i64 1] 3)).trans (hb1.mono (by simp))
  have HB := Lib.hid hb
  have HC := Lib.hid hcell
  clear hb1 hb hcell hc1 hc2
  go_wp2_with fail
  refine (Count_any 1 _ 4 _ _ rfl (by omega) aw_ok _ HC.out).mono ?_
  rintro e w2 ⟨he, hb2⟩
  rw [aw_counted] at he
  subst he
  have hend := HB.out.trans (hb2.mono HB.out.size)
  clear hb2
  go_wp2_with fail
  go_ret
  exact ⟨rfl, hend⟩
end Go.Proofs.Ytjciifcaahninaa
