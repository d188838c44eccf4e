/-
  WALK of the reference's Each.
-/
import Derived.Test.YtjciifcaahninaaEach
namespace Go.Proofs.Ytjciifcaahninaa
open Go.ChangeShapes Go.WideShapes Go.ChangeAt Go.RowKit

theorem out_no (o : List Bool) (m : Nat) (h : 0 < m) : o ++ List.replicate m false = o ++ [false] ++ List.replicate (m - 1) false := by
  obtain ⟨m, rfl⟩ : ∃ k, m = k + 1 := ⟨m - 1, by omega⟩
  simp [List.replicate_succ]
theorem out_set (o : List Bool) (m k : Nat) (b : Bool) (h : 0 < m) (hk : o.length = k) : (bools (o ++ List.replicate m false)).set k (.bool b) = bools (o ++ [b] ++ List.replicate (m - 1) false) := by
  subst hk
  obtain ⟨m, rfl⟩ : ∃ k, m = k + 1 := ⟨m - 1, by omega⟩
  simp [List.replicate_succ]
theorem madeB (n : Nat) : (madeCells (Value.bool false).cells (n * 1)).toList = bools (List.replicate n false) := by
  rw [Nat.mul_one]; show (madeCells #[Value.bool false] n).toList = _; rw [toList_madeCells_one]; simp

theorem own_keep {w w' : World} {B e size n : Nat} {v : Value} {xs : List Value} (h : w.ownsRow B e size v n xs) (hg : w.grownBy w' none) : w'.ownsRow B e size v n xs :=
  h.kept hg (by by_cases e : v.ownBlock = none; exact .inl e; exact .inr e)
set_option maxRecDepth 100000 in
set_option maxHeartbeats 4000000 in
theorem refEach_any (n : Int) (hn0 : 0 ≤ n) (hn1 : n ≤ 4096) (a : Option Addr) (len cap : Nat) (l : List Fet) (hn : l.length = len) (hm : len ≤ 1000) (hok : FetOk l) (w : World) (hc : Cells w a (fcs l)) :
    Calls Try.prog 22 #[.int .i64 n, .slice a len cap] w (Eached n l w) := by
  obtain ⟨i0, hi0, hz0, hz1, hz2⟩ := info_parts Try.info4
  have HC := Lib.hid hc
  have HN := Lib.hid hn
  have HOK := Lib.hid hok
  clear hc hn hok
  go_enter Try.func22, Try.ntmps22
  go_wp2_with fail
  refine (refNew_any n _).mono ?_
  rintro e w1 ⟨v, rfl, hown, hb1⟩
  have htn : (newT n).length = n.toNat := by rw [newT_len]; split <;> omega
  obtain ⟨tn, rfl⟩ := Int.eq_ofNat_of_zero_le hn0
  have htn' : (newT (tn : Int)).length = tn := htn
  rw [htn'] at hown
  obtain ⟨ta, tcap, rfl, htl, htc, htm, _, htb⟩ := Cells.of_own hown
  have HTN := Lib.hid htn'
  have HTT := Lib.hid (newT_tab (tn : Int))
  have hs1 := hb1.size
  clear htl htn htn'
  go_wp2_with (refine wpList_make_full _ rfl _ _ _ rfl w1.heap.size 4 i0 (.bool false) 1 Try.underlying41 hi0 hz0 hz1 .i64 .i64 _ _ len rfl rfl (by omega) (by omega) (by rw [hz2]; omega) (by unfold maxLen; omega) (Nat.le_refl _) ?_; intro w2 hownO hg2)
  rw [madeB] at hownO
  have hownT := own_keep hown hg2
  have hb2 := hb1.grown hg2 hs1 (fun k e => by cases e)
  have hz2' := hg2.size
  have hlt2 : w1.heap.size < w2.heap.size := (hownO.lt _ rfl).2
  have htlt0 : ∀ x, ta = some x → x.block < w1.heap.size := fun x hx => by subst hx; exact (hown.lt _ rfl).2
  clear hown hg2
  go_loopw [7] (fun v7 wr => ∃ k : Nat, k ≤ len ∧ v7 = .int .i64 k ∧ wr.ownsRow w1.heap.size 4 1 (.slice (some ⟨w1.heap.size, 0, none⟩) len len) len (bools ((run (newT (tn : Int)) (l.take k)).2 ++ List.replicate (len - k) false)) ∧ wr.ownsRow w.heap.size 3 1 (.slice ta tn tcap) tn (ints (run (newT (tn : Int)) (l.take k)).1) ∧ Below w.heap.size w wr ∧ w1.heap.size < wr.heap.size ∧ (∀ x, ta = some x → x.block < w1.heap.size)) (fun v _ => len - (intOf v).toNat)
  case atStart => exact ⟨0, by omega, rfl, hownO, hownT, hb2, hlt2, htlt0⟩
  case round =>
    obtain ⟨k, hk, rfl, hownO, hownT, hb, hsz1, htlt⟩ := hrel
    have hsz := hb.size
    by_cases hlt : k < len
    · have hkl : k < l.length := by have := HN.out; omega
      obtain ⟨b, off, rfl, hbl, hcell⟩ := HC.out.fet k hkl
      obtain ⟨c0, c1, c2⟩ := hcell k hkl
      replace c0 := (hb.cell (p := ⟨b, off + k * 3, none⟩) hbl).trans c0
      replace c1 := (hb.cell (p := ⟨b, off + k * 3 + 1, none⟩) hbl).trans c1
      replace c2 := (hb.cell (p := ⟨b, off + k * 3 + 2, none⟩) hbl).trans c2
      have hok := HOK.out.get k
      have hst := run_take (newT (tn : Int)) l k hkl
      obtain ⟨S, hS⟩ : ∃ S, run (newT (tn : Int)) (l.take k) = S := ⟨_, rfl⟩
      obtain ⟨hl1, hl2⟩ := run_len (newT (tn : Int)) (l.take k)
      have hT1 := run_tab HTT.out (l.take k)
      rw [hS] at hst hl1 hl2 hT1 hownO hownT
      rw [HTN.out] at hl1
      rw [List.length_take, Nat.min_eq_left (by omega)] at hl2
      obtain ⟨⟨y, s, q⟩, hf⟩ : ∃ f, l.getD k (0, 0, 0) = f := ⟨_, rfl⟩
      rw [hf] at hst c0 c1 c2 hok
      obtain ⟨t1, o1⟩ := S
      simp only at hl1 hl2 hT1 hownO hownT c0 c1 c2 hok
      obtain ⟨y0, y1, q0, q1⟩ := hok
      have HST := Lib.hid hst
      have HT1 := Lib.hid hT1
      clear hcell hS hf hst hT1
      by_cases hno : tn = 0 ∨ (q ≠ 1 ∧ q ≠ 2)
      · have hst2 : run (newT (tn : Int)) (l.take (k + 1)) = (t1, o1 ++ [false]) := by
          rw [HST.out]; refine stp_no ?_
          rcases hno with h | ⟨h1, h2⟩
          · exact .inl (show t1.length = 0 by omega)
          · exact .inr (by simp [br, h1, h2])
        have HS2 := Lib.hid hst2
        rw [out_no o1 (len - k) (by omega)] at hownO
        have HO := Lib.hid hownO
        have HT := Lib.hid hownT
        clear hst2 hl2 hownO hownT
        have hno2 : tn = 0 ∨ (0 < tn ∧ q ≠ 1 ∧ q ≠ 2) := by omega
        clear hno
        rcases hno2 with rfl | ⟨hp, hq1, hq2⟩
        · go_wp2_with fail
          all_goals
            go_roundw
            case rel => exact ⟨k + 1, by omega, by go_num, by rw [HS2.out]; exact HO.out, by rw [HS2.out]; exact HT.out, hb, hsz1, htlt⟩
            case measure => simp [intOf]; omega
        · have e1 : (q == 1) = false := by simpa using hq1
          have e2 : (q == 2) = false := by simpa using hq2
          have e3 : (q != 2) = true := by simpa using hq2
          have e4 : ((tn : Int) == 0) = false := by simp; omega
          clear hq1 hq2
          go_wp2_with fail
          go_roundw
          case rel => exact ⟨k + 1, by omega, by go_num, by rw [HS2.out]; exact HO.out, by rw [HS2.out]; exact HT.out, hb, hsz1, htlt⟩
          case measure => simp [intOf]; omega
      · obtain ⟨hp, hq2⟩ : 0 < tn ∧ (q = 1 ∨ q = 2) := by omega
        have e4 : ((tn : Int) == 0) = false := by simp; omega
        clear hno
        rcases hq2 with hq | hq
        · subst hq
          have hst2 : run (newT (tn : Int)) (l.take (k + 1)) = (t1.set (y % (tn : Int)).toNat (aft (t1.getD (y % (tn : Int)).toNat 0) true), o1 ++ [!prd t1 y]) := by
            rw [HST.out, stp_true y s hl1 hp]
          have HS2 := Lib.hid hst2
          have g0 := Int.emod_nonneg y (b := (tn : Int)) (by omega)
          have g1 := Int.emod_lt_of_pos y (b := (tn : Int)) (by omega)
          have hprd : prd t1 y = decide (2 ≤ t1.getD (y % (tn : Int)).toNat 0) := by unfold prd at_; rw [hl1]
          obtain ⟨g, cap', hsl, hg1, hg2, hc1, hc2', hil, hgc⟩ := own_block hownT (ints_ne t1 0 (by omega))
          injection hsl with hta _ hcap
          subst hta hcap
          have hgl : g < w1.heap.size := by have := htlt _ rfl; simpa using this
          have ci := hgc (y % (tn : Int)).toNat _ (ints_get t1 _ (by omega))
          obtain ⟨x, hx⟩ : ∃ x, t1.getD (y % (tn : Int)).toNat 0 = x := ⟨_, rfl⟩
          have hx3 := HT1.out.get (y % (tn : Int)).toNat
          rw [hx] at ci hx3 hprd
          obtain ⟨x0, x3⟩ := hx3
          have fi := World.ownsRow.frozenAt hownT (y % (tn : Int)).toNat
          have fo := World.ownsRow.frozenAt hownO k
          have co := (World.ownsRow.cellAt hownO k (by omega)).trans (bools_get (o1 ++ List.replicate (len - k) false) k (by simp; omega))
          obtain ⟨hO3, hgO3⟩ := World.ownsRow.stored hownO k (.bool (!prd t1 y))
          rw [out_set o1 (len - k) k (!prd t1 y) (by omega) hl2] at hO3
          have hT3 := hownT.kept hgO3 (.inr (by simp [Value.ownBlock]; omega))
          have ci3 : (wr.setCell ⟨w1.heap.size, k, none⟩ (.bool (!prd t1 y))).cell? ⟨g, (y % (tn : Int)).toNat, none⟩ = some (.int .i64 x) :=
            (World.cell?_of_block (w := wr) (heap_setCell_other wr _ _ _ (by simp; omega))).trans ci
          have fi3 := World.ownsRow.frozenAt hT3 (y % (tn : Int)).toNat
          obtain ⟨hT4, hgT4⟩ := World.ownsRow.stored hT3 (y % (tn : Int)).toNat (.int .i64 (aft x true))
          rw [ints_upd] at hT4
          have hO4 := hO3.kept hgT4 (.inr (by simp [Value.ownBlock]; omega))
          have HP := Lib.hid hprd
          have HX := Lib.hid hx
          have HT4 := Lib.hid hT4
          have HO4 := Lib.hid hO4
          clear hst2 hprd hx hT4 hO4 hO3 hT3 hgc hil hgO3 hgT4 hownT hownO
          go_wp2_with fail
          go_roundw
          case rel =>
            have hO5 := HO4.out
            have hT5 := HT4.out
            rw [HP.out] at hO5 hT5
            exact ⟨k + 1, by omega, by go_num, by rw [HS2.out, HP.out]; exact hO5, by rw [HS2.out, HX.out]; exact hT5, (hb.setCell (by simp; omega) _).setCell hg1 _, by simpa using hsz1, htlt⟩
          case measure => simp [intOf]; omega
        · subst hq
          have hst2 : run (newT (tn : Int)) (l.take (k + 1)) = (t1.set (y % (tn : Int)).toNat (aft (t1.getD (y % (tn : Int)).toNat 0) false), o1 ++ [prd t1 y]) := by
            rw [HST.out, stp_false y s hl1 hp]
          have HS2 := Lib.hid hst2
          have g0 := Int.emod_nonneg y (b := (tn : Int)) (by omega)
          have g1 := Int.emod_lt_of_pos y (b := (tn : Int)) (by omega)
          have hprd : prd t1 y = decide (2 ≤ t1.getD (y % (tn : Int)).toNat 0) := by unfold prd at_; rw [hl1]
          obtain ⟨g, cap', hsl, hg1, hg2, hc1, hc2', hil, hgc⟩ := own_block hownT (ints_ne t1 0 (by omega))
          injection hsl with hta _ hcap
          subst hta hcap
          have hgl : g < w1.heap.size := by have := htlt _ rfl; simpa using this
          have ci := hgc (y % (tn : Int)).toNat _ (ints_get t1 _ (by omega))
          obtain ⟨x, hx⟩ : ∃ x, t1.getD (y % (tn : Int)).toNat 0 = x := ⟨_, rfl⟩
          have hx3 := HT1.out.get (y % (tn : Int)).toNat
          rw [hx] at ci hx3 hprd
          obtain ⟨x0, x3⟩ := hx3
          have fi := World.ownsRow.frozenAt hownT (y % (tn : Int)).toNat
          have fo := World.ownsRow.frozenAt hownO k
          have co := (World.ownsRow.cellAt hownO k (by omega)).trans (bools_get (o1 ++ List.replicate (len - k) false) k (by simp; omega))
          obtain ⟨hO3, hgO3⟩ := World.ownsRow.stored hownO k (.bool (prd t1 y))
          rw [out_set o1 (len - k) k (prd t1 y) (by omega) hl2] at hO3
          have hT3 := hownT.kept hgO3 (.inr (by simp [Value.ownBlock]; omega))
          have ci3 : (wr.setCell ⟨w1.heap.size, k, none⟩ (.bool (prd t1 y))).cell? ⟨g, (y % (tn : Int)).toNat, none⟩ = some (.int .i64 x) :=
            (World.cell?_of_block (w := wr) (heap_setCell_other wr _ _ _ (by simp; omega))).trans ci
          have fi3 := World.ownsRow.frozenAt hT3 (y % (tn : Int)).toNat
          obtain ⟨hT4, hgT4⟩ := World.ownsRow.stored hT3 (y % (tn : Int)).toNat (.int .i64 (aft x false))
          rw [ints_upd] at hT4
          have hO4 := hO3.kept hgT4 (.inr (by simp [Value.ownBlock]; omega))
          have HP := Lib.hid hprd
          have HX := Lib.hid hx
          have HT4 := Lib.hid hT4
          have HO4 := Lib.hid hO4
          clear hst2 hprd hx hT4 hO4 hO3 hT3 hgc hil hgO3 hgT4 hownT hownO
          go_wp2_with fail
          go_roundw
          case rel =>
            have hO5 := HO4.out
            have hT5 := HT4.out
            rw [HP.out] at hO5 hT5
            exact ⟨k + 1, by omega, by go_num, by rw [HS2.out, HP.out]; exact hO5, by rw [HS2.out, HX.out]; exact hT5, (hb.setCell (by simp; omega) _).setCell hg1 _, by simpa using hsz1, htlt⟩
          case measure => simp [intOf]; omega
    · obtain rfl : k = len := by omega
      have htl : l.take k = l := List.take_of_length_le (by have := HN.out; omega)
      rw [htl, Nat.sub_self, List.replicate_zero, List.append_nil] at hownO
      have HO := Lib.hid (ownsRow_mono hownO hs1)
      clear hownO hownT
      go_wp2_with fail
      go_ret
      have hnn := HN.out
      subst hnn
      exact ⟨_, rfl, HO.out, hb⟩
end Go.Proofs.Ytjciifcaahninaa
