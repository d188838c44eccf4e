/-
  WALK of flow: a list for a network, now and then a circulation. (Filled in from a template of this repo.)
-/
import Derived.Test.YthoehobofdeifaaFlP
namespace Go.Proofs.Ythoehobofdeifaa
open Go.ChangeShapes Go.WideShapes Go.ChangeAt Go.RowKit
set_option linter.unusedVariables false
set_option linter.unusedSimpArgs false

set_option maxRecDepth 100000 in
set_option maxHeartbeats 8000000 in
theorem flow_any (g : Nat) (N : Nw) (hv : N.valid) (hm : N.m ≤ 12) (a : Option Addr) (ca : Nat) (w : World) (h : Arcs w a N) (hc : Cod w g) :
    Calls Try.prog 14 #[.pointer (some ⟨g, 0, none⟩), N.val a ca] w (FlowPost g N.m w) := by
  have hgl := hc.lt
  have HV := Lib.hid hv
  have HA := Lib.hid h
  have HC := Lib.hid hc
  obtain ⟨i0, hi0, hz0, hz1, hz2⟩ := info_parts Try.infoInt
  have HI := Lib.hid hi0
  have HZ0 := Lib.hid hz0
  have HZ1 := Lib.hid hz1
  have HZ2 := Lib.hid hz2
  clear h hc hi0 hz0 hz1 hz2 hv
  have HX : Hid (∀ W, W = (w.alloc (.cells #[.int .i64 (N.V : Int), .slice a N.m ca] 25)) → W.heap[w.heap.size]? = some (.cells #[.int .i64 (N.V : Int), .slice a N.m ca] 25 (0, 0)) ∧ Below w.heap.size w W) := Lib.hid (fun W hW => by
    subst hW
    exact ⟨heap_alloc_new w _, (Below.refl _ _).alloc (Nat.le_refl _) _⟩)
  go_enter Try.func14, Try.ntmps14
  go_upto_region 1 with fail
  obtain ⟨w1, hw1⟩ : ∃ w1, w1 = (w.alloc (.cells #[.int .i64 (N.V : Int), .slice a N.m ca] 25)) := ⟨_, rfl⟩
  rw [← hw1]
  obtain ⟨hn, hb1⟩ := HX.out w1 hw1
  have HN1 := Lib.hid hn
  have HB1 := Lib.hid hb1
  have n0 := cell_of_row _ _ 0 _ _ _ hn
  have n1 := cell_of_row _ _ 1 _ _ _ hn
  have nl := heap_lt hn
  obtain ⟨gn, hgn⟩ : ∃ gn, w.heap.size = gn := ⟨_, rfl⟩
  have HGN := Lib.hid hgn
  rw [hgn] at n0 n1 nl HN1 hgl ⊢
  clear hw1 hn hb1 hgn HX
  go_wp2_with fail
  have hra1 := rwN_ra (HA.out.below HB1.out)
  have hm1 : (rwN N).m ≤ 9223372036854775806 := by show N.m ≤ _; omega
  have hcall := RSolve_any (rwN N) a ca hm1 w1 hra1
  have hval : (rwN N).val a ca = .agg #[.int .i64 (N.V : Int), .slice a N.m ca] := rfl
  rw [hval] at hcall
  refine hcall.mono ?_
  rintro e w2 ⟨hb2, hpost⟩
  have hsol : ∃ (s : Option Addr) (n : Nat) (f : Nat → Int) (code : Int), e = .returned (.tuple #[.slice s n n, .int .i64 code]) ∧ n ≤ N.m ∧ (s = none → n = 0) ∧ Cells w2 s (ivs n f) := by
    rcases hpost with ⟨_, rfl⟩ | ⟨_, rfl, _⟩ | ⟨_, gf, f, rfl, hr, _⟩
    · exact ⟨none, 0, fun _ => 0, _, rfl, by omega, fun _ => rfl, Cells.nil _ _⟩
    · exact ⟨none, 0, fun _ => 0, _, rfl, by omega, fun _ => rfl, Cells.nil _ _⟩
    · refine ⟨_, _, f, _, rfl, Nat.le_refl _, (fun h => by cases h), fun _ => ⟨gf, 0, rfl, hr.lt, fun j u hj => ?_⟩⟩
      rw [Nat.zero_add]
      have hjl : j < N.m := by
        have := (List.getElem?_eq_some_iff.1 hj).1
        rw [ivs_len] at this; exact this
      have := ivs_get (f := f) hjl
      have e2 : (ivs (rwN N).m f)[j]? = some (.int .i64 (f j)) := this
      rw [e2] at hj
      injection hj with hj
      rw [← hj]; exact hr.cell j hjl
  obtain ⟨s, n, f, code, rfl, hnm, hsn, hcells⟩ := hsol
  have HCE := Lib.hid hcells
  have HSN := Lib.hid hsn
  have hb3 := HB1.out.trans (hb2.mono HB1.out.size)
  have HB3 := Lib.hid hb3
  have hs3 : gn < w2.heap.size := by have := hb2.size; omega
  have HN2 : Hid (w2.heap[gn]? = some (.cells #[.int .i64 (N.V : Int), .slice a N.m ca] 25 (0, 0))) := Lib.hid ((hb2.block gn nl).trans HN1.out)
  have HC2 : Hid (Cod w2 g ∧ w.grownBy w2 (some g)) := Lib.hid ⟨HC.out.keep (fun k hk => hb3.block k (by rw [HGN.out]; omega)), ⟨hb3.os, hb3.tape, hb3.output, hb3.size, fun k hk _ => hb3.block k hk⟩⟩
  have hwg : w.heap.size ≤ w2.heap.size := hb3.size
  clear hpost hcells hsn hb2 hb3 n0 n1 nl HN1 HB1 HA HC
  go_upto_region 3 with (at_builtin; refine wpList_append_src rfl _ _ _ rfl w.heap.size 3 i0 _ 1 8 Try.underlying26 HI.out HZ0.out HZ1.out HZ2.out rfl (by omega) (.slice none 0 0) 0 [] rfl (World.ownsRow_nil _ _ _ _) s n n (ivs n f) rfl (Nat.le_refl _) HSN.out (by rw [ivs_len]; omega) HCE.out (ivs_ones n f) (by unfold maxLen; omega) (by omega) (by omega) ?_; intro v1 w3 hown1 hgr1; simp only [Nat.zero_add, List.nil_append] at hown1; obtain ⟨va, vc, rfl, hvo⟩ := Cells.of_own hown1; clear hvo; have HOWN1 := Lib.hid hown1; have HGR1 := Lib.hid hgr1; clear hown1 hgr1)
  have HF : Hid (FL g w va n vc f w3) := Lib.hid (by
    refine ⟨HOWN1.out, ?_, grownBy_own HC2.out.2 HGR1.out (by simp [Value.ownBlock]), by rw [HGN.out]; omega⟩
    exact HC2.out.1.keep (fun k hk => HGR1.out.block k (by omega) (by simp [Value.ownBlock])))
  have HN3 : Hid (w3.heap[gn]? = some (.cells #[.int .i64 (N.V : Int), .slice a N.m ca] 25 (0, 0))) := Lib.hid ((HGR1.out.block gn hs3 (by simp [Value.ownBlock])).trans HN2.out)
  have HNK : Hid (∀ W, w3.grownBy W (some g) → W.heap[gn]? = some (.cells #[.int .i64 (N.V : Int), .slice a N.m ca] 25 (0, 0))) := Lib.hid (fun W hg => (hg.block gn (heap_lt HN3.out) (fun e => by injection e with e; omega)).trans HN3.out)
  clear HOWN1 HGR1 HN2 HN3 HB3 HC2 HCE HSN hs3 hwg
  clear w2
  go_cut [22] from 13 to 22 (fun c wx => ∃ z : Bool, c = .bool z ∧ Hid (FL g w va n vc f wx ∧ w3.grownBy wx (some g)))
  case first =>
    by_cases h0 : n = 0
    · have d0 : ((n : Int) == 0) = true := by rw [h0]; rfl
      clear h0
      go_wp2_with fail
      go_meet
      exact ⟨true, rfl, Lib.hid ⟨HF.out.next HF.out.cod ⟨rfl, rfl, rfl, Nat.le_refl _, fun _ _ _ => rfl⟩, ⟨rfl, rfl, rfl, Nat.le_refl _, fun _ _ _ => rfl⟩⟩⟩
    · have d0 : ((n : Int) == 0) = false := by rw [beq_eq_false_iff_ne]; omega
      clear h0
      go_wp2_with fail
      refine (Next_any g 2 (by omega) _ HF.out.cod).mono ?_
      rintro e w4 ⟨k, rfl, k0, k1, hc4, hg4⟩
      have HF4 : Hid (FL g w va n vc f w4 ∧ w3.grownBy w4 (some g)) := Lib.hid ⟨HF.out.next hc4 hg4, hg4⟩
      clear hc4 hg4 k0 k1
      go_wp2_with fail
      go_meet
      exact ⟨_, rfl, HF4⟩
  case rest =>
    obtain ⟨z, rfl, HZ⟩ := hcut
    go_upto_if 22 with fail
    go_cut [5, 7] from 23 to 37 (fun v5 v7 wx => ∃ (va : Option Addr) (n vc : Nat) (f : Nat → Int), v5 = .slice va n vc ∧ n ≤ N.m ∧ Hid (FL g w va n vc f wx))
    case first =>
      cases z
      · go_wp2_with fail
        go_meet
        exact ⟨_, _, _, _, rfl, hnm, Lib.hid HZ.out.1⟩
      · have hb := HNK.out _ HZ.out.2
        have n0 := cell_of_row _ _ 0 _ _ _ hb
        have n1 := cell_of_row _ _ 1 _ _ _ hb
        have nl := heap_lt hb
        have mk1 := make_ints N.m (by omega)
        have HM : Hid (∀ W, W = (wc.alloc (.cells (vrow N.m fun _ => .int .i64 0) 3)) → FL g w (some ⟨wc.heap.size, 0, none⟩) N.m N.m (fun _ => 0) W) := Lib.hid (fun W hW => by
          subst hW
          exact ⟨World.ownsRow_lit wc (vrow N.m fun _ => .int .i64 0) N.m HZ.out.1.gr.size (by unfold maxLen; omega) (by simp [vrow_size]), HZ.out.1.cod.alloc _, grownBy_trans HZ.out.1.gr (World.grownBy_alloc wc _ (some g)), HZ.out.1.lt⟩)
        clear hb
        go_upto_region 5 with fail
        obtain ⟨w4, hw4⟩ : ∃ w4, w4 = (wc.alloc (.cells (vrow N.m fun _ => .int .i64 0) 3)) := ⟨_, rfl⟩
        rw [← hw4]
        have HF4 := Lib.hid (HM.out w4 hw4)
        have hgc : g ≠ wc.heap.size := by have := HZ.out.1.cod.lt; omega
        obtain ⟨gl, hgl2⟩ : ∃ gl, wc.heap.size = gl := ⟨_, rfl⟩
        rw [hgl2] at HF4 hgc ⊢
        clear hw4 HM n0 n1 nl mk1 hgl2 HZ HNK
        clear wc
        go_wp2_with fail
        go_loopw [7] (fun v7 wr => ∃ (i : Nat) (f1 : Nat → Int), i ≤ N.m ∧ v7 = .int .i64 i ∧ Hid (FL g w (some ⟨gl, 0, none⟩) N.m N.m f1 wr)) (fun v _ => N.m - (intOf v).toNat)
        case atStart => exact ⟨0, _, by omega, rfl, HF4⟩
        case round =>
          obtain ⟨i, f1, hi, rfl, HF1⟩ := hrel
          by_cases hlt : i < N.m
          · go_wp2_with fail
            refine (Next_any g 5 (by omega) _ HF1.out.cod).mono ?_
            rintro e w5 ⟨k, rfl, k0, k1, hc5, hg5⟩
            have HF5 := Lib.hid (HF1.out.next hc5 hg5)
            have q1 := HF5.out.cell hlt
            have q2 := HF5.out.own.frozenAt i
            have q3 := block_lt_of_cell q1
            have HF6 := Lib.hid (HF5.out.put i k)
            clear hc5 hg5 HF1
            go_wp2_with fail
            exact ⟨⟨i + 1, _, by omega, by go_num, HF6⟩, by simp [intOf]; omega⟩
          · obtain rfl : i = N.m := by omega
            go_wp2_with fail
            go_meet
            exact ⟨_, _, _, _, rfl, Nat.le_refl _, HF1⟩
    case rest =>
      obtain ⟨va, n, vc, f, rfl, hnm, HF⟩ := hcut
      clear HZ HNK
      go_upto_region 9 with fail
      go_cut [45] from 38 to 45 (fun c wx => ∃ z : Bool, c = .bool z ∧ (z = true → 0 < n) ∧ Hid (FL g w va n vc f wx))
      case first =>
        by_cases h0 : 0 < n
        · have d0 : decide ((0 : Int) < (n : Int)) = true := by rw [decide_eq_true_eq]; omega
          go_wp2_with fail
          refine (Next_any g 3 (by omega) _ HF.out.cod).mono ?_
          rintro e w4 ⟨k, rfl, k0, k1, hc4, hg4⟩
          have HF4 := Lib.hid (HF.out.next hc4 hg4)
          clear hc4 hg4 k0 k1
          go_wp2_with fail
          go_meet
          exact ⟨_, rfl, fun _ => h0, HF4⟩
        · have d0 : decide ((0 : Int) < (n : Int)) = false := by rw [decide_eq_false_iff_not]; omega
          have hz : n = 0 := by omega
          go_wp2_with fail
          go_meet
          exact ⟨false, rfl, (fun h => by cases h), Lib.hid (HF.out.next HF.out.cod ⟨rfl, rfl, rfl, Nat.le_refl _, fun _ _ _ => rfl⟩)⟩
      case rest =>
        obtain ⟨z, rfl, hz, HF2⟩ := hcut
        clear HF
        go_upto_if 45 with fail
        go_cut [] from 46 to 57 (fun wx => ∃ f : Nat → Int, Hid (FL g w va n vc f wx))
        case first =>
          cases z
          · go_wp2_with fail
            go_meet
            exact ⟨_, HF2⟩
          · have h0 := hz rfl
            obtain ⟨gl, rfl, hgl1, hgl2⟩ := HF2.out.form h0
            have HF3 := HF2
            go_upto_region 10 with fail
            refine wp_region_held_drew (S := (fun _ => True)) (by kernel_rfl) trivial (fun hHeld => ?_)
            refine wpAnyH_take (i := 0) (v := ?_) rfl (by kernel_rfl) (by kernel_rfl) (by kernel_rfl) (fun _ _ _ h => h) (Or.inl ⟨by rfl, ?_⟩) (by assumption) ?_
            rotate_left
            · (intro w hSw; (try dsimp only at hSw); go_simp; try with_reducible rfl)
            (try simp only [Act.put, List.setIfInBounds_toArray, List.set_cons_zero, List.set_cons_succ])
            refine wpAnyH_take (i := 1) (v := ?_) rfl (by kernel_rfl) (by kernel_rfl) (by kernel_rfl) (fun _ _ _ h => h) (Or.inl ⟨by rfl, ?_⟩) (by assumption) ?_
            rotate_left
            · (intro w hSw; (try dsimp only at hSw); go_simp; try with_reducible rfl)
            (try simp only [Act.put, List.setIfInBounds_toArray, List.set_cons_zero, List.set_cons_succ])
            refine wpAnyH_take (i := 2) (v := ?_) rfl (by kernel_rfl) (by kernel_rfl) (by kernel_rfl) (fun _ _ _ h => h) (Or.inl ⟨by rfl, ?_⟩) (by assumption) ?_
            rotate_left
            · (intro w hSw; (try dsimp only at hSw); go_simp; try with_reducible rfl)
            (try simp only [Act.put, List.setIfInBounds_toArray, List.set_cons_zero, List.set_cons_succ])
            refine wpAnyH_take (i := 3) (v := ?_) rfl (by kernel_rfl) (by kernel_rfl) (by kernel_rfl) (fun _ _ _ h => h) (Or.inl ⟨by rfl, ?_⟩) (by assumption) ?_
            rotate_left
            · (intro w hSw; (try dsimp only at hSw); go_simp; try with_reducible rfl)
            (try simp only [Act.put, List.setIfInBounds_toArray, List.set_cons_zero, List.set_cons_succ])
            refine wpAnyH_take (i := 7) (v := ?_) rfl (by kernel_rfl) (by kernel_rfl) (by kernel_rfl) (fun _ _ _ h => h) (Or.inl ⟨by rfl, ?_⟩) (by assumption) ?_
            rotate_left
            · (intro w hSw; (try dsimp only at hSw); go_simp; try with_reducible rfl)
            (try simp only [Act.put, List.setIfInBounds_toArray, List.set_cons_zero, List.set_cons_succ])
            refine wpAnyH_ready (rs := [4]) (by kernel_rfl) (by simp) ?_
            refine AllReadyH.cons rfl (fun K hK => ?_) AllReadyH.nil
            go_simp
            refine (Next_any g _ (by omega) _ (HF3.out.next (w' := wc.drew) HF3.out.cod ⟨rfl, rfl, rfl, Nat.le_refl _, fun _ _ _ => rfl⟩).cod).mono ?_
            rintro e w5 ⟨y, rfl, y0, y1, hc5, hg5⟩
            obtain ⟨j, rfl⟩ := Int.eq_ofNat_of_zero_le y0
            have hj : j < n := by omega
            have HF5 := Lib.hid ((HF3.out.next (w' := wc.drew) HF3.out.cod ⟨rfl, rfl, rfl, Nat.le_refl _, fun _ _ _ => rfl⟩).next hc5 hg5)
            refine hK.out _ _ trivial (fun hHeld => ?_)
            clear hK K hg5 hc5
            (try simp only [Act.put, List.setIfInBounds_toArray, List.set_cons_zero, List.set_cons_succ])
            refine wpAnyH_take (i := 5) (v := ?_) rfl (by kernel_rfl) (by kernel_rfl) (by kernel_rfl) (fun _ _ _ h => h) (Or.inl ⟨by rfl, ?_⟩) (by assumption) ?_
            rotate_left
            · (intro w hSw; (try dsimp only at hSw); go_simp; try with_reducible rfl)
            (try simp only [Act.put, List.setIfInBounds_toArray, List.set_cons_zero, List.set_cons_succ])
            refine wpAnyH_ready (rs := [6, 8]) (by kernel_rfl) (by simp) ?_
            refine AllReadyH.cons rfl (fun K hK => ?_) (AllReadyH.cons rfl (fun K hK => ?_) AllReadyH.nil)
            · have p1 := HF5.out.cell hj
              have p3 := block_lt_of_cell p1
              go_simp
              refine hK.out _ _ trivial (fun hHeld => ?_)
              clear hK K p1 p3
              (try simp only [Act.put, List.setIfInBounds_toArray, List.set_cons_zero, List.set_cons_succ])
              refine wpAnyH_ready (rs := [8]) (by kernel_rfl) (by simp) ?_
              refine AllReadyH.cons rfl (fun K hK => ?_) AllReadyH.nil
              go_simp
              refine (Next_any g _ (by omega) _ HF5.out.cod).mono ?_
              rintro e w6 ⟨x, rfl, x0, x1, hc6, hg6⟩
              have HF6 := Lib.hid (HF5.out.next hc6 hg6)
              refine hK.out _ _ trivial (fun hHeld => ?_)
              clear hK K hg6 hc6
              (try simp only [Act.put, List.setIfInBounds_toArray, List.set_cons_zero, List.set_cons_succ])
              refine wpAnyH_take (i := 9) (v := ?_) rfl (by kernel_rfl) (by kernel_rfl) (by kernel_rfl) (fun _ _ _ h => h) (Or.inl ⟨by rfl, ?_⟩) (by assumption) ?_
              rotate_left
              · (intro w hSw; (try dsimp only at hSw); go_simp; try with_reducible rfl)
              (try simp only [Act.put, List.setIfInBounds_toArray, List.set_cons_zero, List.set_cons_succ])
              refine wpAnyH_take (i := 10) (v := ?_) rfl (by kernel_rfl) (by kernel_rfl) (by kernel_rfl) (fun _ _ _ h => h) (Or.inl ⟨by rfl, ?_⟩) (by assumption) ?_
              rotate_left
              · (intro w hSw; (try dsimp only at hSw); go_simp; try with_reducible rfl)
              (try simp only [Act.put, List.setIfInBounds_toArray, List.set_cons_zero, List.set_cons_succ])
              refine wpAnyH_take (i := 11) (v := ?_) rfl (by kernel_rfl) (by kernel_rfl) (by kernel_rfl) (fun _ _ _ h => h) (Or.inl ⟨by rfl, ?_⟩) (by assumption) ?_
              rotate_left
              · (intro w hSw; (try dsimp only at hSw); go_simp; try with_reducible rfl)
              (try simp only [Act.put, List.setIfInBounds_toArray, List.set_cons_zero, List.set_cons_succ])
              have q1 := HF6.out.cell hj
              have q2 := HF6.out.own.frozenAt j
              have q3 := block_lt_of_cell q1
              refine wpAnyH_ready (rs := [12]) (by kernel_rfl) (by simp) ?_
              refine AllReadyH.cons rfl (fun K hK => ?_) AllReadyH.nil
              go_simp
              have HF7 := fun x => Lib.hid (HF6.out.put j x)
              refine hK.out _ _ trivial (fun hHeld => ?_)
              clear hK K
              (try simp only [Act.put, List.setIfInBounds_toArray, List.set_cons_zero, List.set_cons_succ])
              refine wpAnyH_done (by kernel_rfl) ?_ _
              (try simp only [Act.put, List.setIfInBounds_toArray, List.set_cons_zero, List.set_cons_succ])
              go_wp2_with fail
              go_meet
              exact ⟨_, HF7 _⟩
            · go_simp
              refine (Next_any g _ (by omega) _ HF5.out.cod).mono ?_
              rintro e w6 ⟨x, rfl, x0, x1, hc6, hg6⟩
              have HF6 := Lib.hid (HF5.out.next hc6 hg6)
              refine hK.out _ _ trivial (fun hHeld => ?_)
              clear hK K hg6 hc6
              (try simp only [Act.put, List.setIfInBounds_toArray, List.set_cons_zero, List.set_cons_succ])
              refine wpAnyH_take (i := 9) (v := ?_) rfl (by kernel_rfl) (by kernel_rfl) (by kernel_rfl) (fun _ _ _ h => h) (Or.inl ⟨by rfl, ?_⟩) (by assumption) ?_
              rotate_left
              · (intro w hSw; (try dsimp only at hSw); go_simp; try with_reducible rfl)
              (try simp only [Act.put, List.setIfInBounds_toArray, List.set_cons_zero, List.set_cons_succ])
              refine wpAnyH_ready (rs := [6]) (by kernel_rfl) (by simp) ?_
              refine AllReadyH.cons rfl (fun K hK => ?_) AllReadyH.nil
              have p1 := HF6.out.cell hj
              have p3 := block_lt_of_cell p1
              go_simp
              refine hK.out _ _ trivial (fun hHeld => ?_)
              clear hK K p1 p3
              (try simp only [Act.put, List.setIfInBounds_toArray, List.set_cons_zero, List.set_cons_succ])
              refine wpAnyH_take (i := 10) (v := ?_) rfl (by kernel_rfl) (by kernel_rfl) (by kernel_rfl) (fun _ _ _ h => h) (Or.inl ⟨by rfl, ?_⟩) (by assumption) ?_
              rotate_left
              · (intro w hSw; (try dsimp only at hSw); go_simp; try with_reducible rfl)
              (try simp only [Act.put, List.setIfInBounds_toArray, List.set_cons_zero, List.set_cons_succ])
              refine wpAnyH_take (i := 11) (v := ?_) rfl (by kernel_rfl) (by kernel_rfl) (by kernel_rfl) (fun _ _ _ h => h) (Or.inl ⟨by rfl, ?_⟩) (by assumption) ?_
              rotate_left
              · (intro w hSw; (try dsimp only at hSw); go_simp; try with_reducible rfl)
              (try simp only [Act.put, List.setIfInBounds_toArray, List.set_cons_zero, List.set_cons_succ])
              have q1 := HF6.out.cell hj
              have q2 := HF6.out.own.frozenAt j
              have q3 := block_lt_of_cell q1
              refine wpAnyH_ready (rs := [12]) (by kernel_rfl) (by simp) ?_
              refine AllReadyH.cons rfl (fun K hK => ?_) AllReadyH.nil
              go_simp
              have HF7 := fun x => Lib.hid (HF6.out.put j x)
              refine hK.out _ _ trivial (fun hHeld => ?_)
              clear hK K
              (try simp only [Act.put, List.setIfInBounds_toArray, List.set_cons_zero, List.set_cons_succ])
              refine wpAnyH_done (by kernel_rfl) ?_ _
              (try simp only [Act.put, List.setIfInBounds_toArray, List.set_cons_zero, List.set_cons_succ])
              go_wp2_with fail
              go_meet
              exact ⟨_, HF7 _⟩
        case rest =>
          obtain ⟨f2, HF3⟩ := hcut
          clear hz HF2
          go_upto_region 11 with fail
          go_wp2_with fail
          refine (Next_any g 12 (by omega) _ HF3.out.cod).mono ?_
          rintro e w4 ⟨k, rfl, k0, k1, hc4, hg4⟩
          have HF4 := Lib.hid (HF3.out.next hc4 hg4)
          clear hc4 hg4 HF3
          by_cases hk : k = 0
          · have d0 : (k == 0) = true := by rw [hk]; rfl
            have HOA := Lib.hid (HF4.out.own.alloc (.cells #[.int .i64 0] 3))
            have hsz := HF4.out.gr.size
            clear hk
            go_wp2_with (at_builtin; refine wpList_append_own _ rfl _ _ _ rfl w.heap.size 3 i0 _ 1 8 Try.underlying26 HI.out HZ0.out HZ1.out HZ2.out rfl (by omega) _ _ _ rfl HOA.out ⟨w4.heap.size, 0, none⟩ 1 1 [.int .i64 0] rfl rfl (World.news_of_block (cs := #[.int .i64 0]) (t := 3) (fr := (0, 0)) (heap_alloc_new w4 _)) (by simp [Value.oneCell']) (by unfold maxLen; omega) (by omega) (by simp; omega) ?_; intro v' w9 hown9 hgrow9 _; obtain ⟨va9, vc9, hva, hvb⟩ := Cells.of_own hown9; subst hva; clear hvb; have HO9 := Lib.hid hown9; have HG9 := Lib.hid hgrow9; clear hown9 hgrow9)
            refine bodyPost_ret (v := .slice va9 (n + 1) vc9) (by simp [results, Try.results14, go_sem]) rfl ?_
            have HFL : FL g w va9 (n + 1) vc9 (upd f2 n 0) w9 := ⟨by rw [← ivs_push]; exact HO9.out, (HF4.out.cod.alloc _).grown HG9.out (fun k hk => by have h1 := (HF4.out.own.lt k hk).1; have h2 := HF4.out.lt; omega), grownBy_own (grownBy_trans HF4.out.gr (World.grownBy_alloc w4 _ (some g))) HG9.out (fun k hk => (HF4.out.own.lt k hk).1), HF4.out.lt⟩
            exact HFL.post (by omega)
          · have d0 : (k == 0) = false := by rw [beq_eq_false_iff_ne]; exact hk
            clear hk
            go_wp2_with fail
            refine bodyPost_ret (v := .slice va n vc) (by simp [results, Try.results14, go_sem]) rfl ?_
            exact HF4.out.post (by omega)
end Go.Proofs.Ythoehobofdeifaa
