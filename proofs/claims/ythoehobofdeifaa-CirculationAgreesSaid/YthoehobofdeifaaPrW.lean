/-
  WALK of the law CirculationProves. (Filled in from a template of this repo; printed by mk_prw.py.)
-/
import Derived.Test.YthoehobofdeifaaGrw
import Derived.Test.YthoehobofdeifaaFlW
import Derived.Test.YthoehobofdeifaaPot
import Derived.Test.YthoehobofdeifaaOpt
import Derived.Test.YthoehobofdeifaaSoW
namespace Go.Proofs.Ythoehobofdeifaa
open Go.ChangeShapes Go.WideShapes Go.ChangeAt Go.RowKit
set_option linter.unusedVariables false
set_option linter.unusedSimpArgs false

/-- an answer of Potentials -/
def PtA (R : Rw) (m : Nat) (x : Nat → Int) (code : Int) (n : Nat) (f : Nat → Int) : Prop := (¬ R.good ∧ code = 30 ∧ n = 0) ∨ (R.good ∧ R.feas m x = false ∧ code = 31 ∧ n = 0) ∨ (R.feas m x = true ∧ (¬ ∃ p, R.nw.fits p x) ∧ code = 32 ∧ n = 0) ∨ (R.feas m x = true ∧ code = 0 ∧ n = R.nw.V ∧ Pd R.nw x f)
theorem pt_of {R : Rw} {m : Nat} {x : Nat → Int} {w w' : World} {e : Ending} (h : PtPost R m x w e w') : ∃ (s : Option Addr) (n : Nat) (f : Nat → Int) (code : Int), e = .returned (.tuple #[.slice s n n, .int .i64 code]) ∧ Rd w' s n f ∧ PtA R m x code n f ∧ Below w.heap.size w w' ∧ n ≤ 520 ∧ (s = none → n = 0) ∧ (∀ y, s = some y → w.heap.size ≤ y.block) := by
  obtain ⟨hb, h⟩ := h
  rcases h with ⟨h1, rfl⟩ | ⟨h1, h2, rfl⟩ | ⟨h1, h2, rfl⟩ | ⟨h1, g, d, rfl, h3, h4, h5⟩
  · exact ⟨none, 0, fun _ => 0, 30, rfl, fun j hj => absurd hj (by omega), .inl ⟨h1, rfl, rfl⟩, hb, by omega, fun _ => rfl, fun y hy => by cases hy⟩
  · exact ⟨none, 0, fun _ => 0, 31, rfl, fun j hj => absurd hj (by omega), .inr (.inl ⟨h1, h2, rfl, rfl⟩), hb, by omega, fun _ => rfl, fun y hy => by cases hy⟩
  · exact ⟨none, 0, fun _ => 0, 32, rfl, fun j hj => absurd hj (by omega), .inr (.inr (.inl ⟨h1, h2, rfl, rfl⟩)), hb, by omega, fun _ => rfl, fun y hy => by cases hy⟩
  · have hg := ((R.feas_iff m x).1 h1).1
    have hv := (Rw.valid hg).V2
    exact ⟨_, _, d, 0, rfl, Rd.of_row h3, .inr (.inr (.inr ⟨h1, rfl, rfl, h5⟩)), hb, hv, (fun h => by cases h), fun y hy => by injection hy with hy; subst hy; exact h4⟩
theorem pt_one {R : Rw} {m : Nat} {x : Nat → Int} {c1 c2 : Int} {n1 n2 : Nat} {f1 f2 : Nat → Int} (h1 : PtA R m x c1 n1 f1) (h2 : PtA R m x c2 n2 f2) : c1 = c2 ∧ n1 = n2 ∧ ∀ j, j < n1 → f1 j = f2 j := by
  rcases h1 with ⟨a1, rfl, rfl⟩ | ⟨a1, b1, rfl, rfl⟩ | ⟨a1, b1, rfl, rfl⟩ | ⟨a1, rfl, rfl, d1⟩
  · rcases h2 with ⟨a2, rfl, rfl⟩ | ⟨a2, _⟩ | ⟨a2, _⟩ | ⟨a2, _⟩
    · exact ⟨rfl, rfl, fun j hj => absurd hj (by omega)⟩
    · exact absurd a2 a1
    · exact absurd ((R.feas_iff m x).1 a2).1 a1
    · exact absurd ((R.feas_iff m x).1 a2).1 a1
  · rcases h2 with ⟨a2, _⟩ | ⟨_, _, rfl, rfl⟩ | ⟨a2, _⟩ | ⟨a2, _⟩
    · exact absurd a1 a2
    · exact ⟨rfl, rfl, fun j hj => absurd hj (by omega)⟩
    · rw [b1] at a2; cases a2
    · rw [b1] at a2; cases a2
  · rcases h2 with ⟨a2, _⟩ | ⟨_, b2, _⟩ | ⟨_, _, rfl, rfl⟩ | ⟨_, _, _, d2⟩
    · exact absurd ((R.feas_iff m x).1 a1).1 a2
    · rw [b2] at a1; cases a1
    · exact ⟨rfl, rfl, fun j hj => absurd hj (by omega)⟩
    · exact absurd ⟨f2, d2.fits⟩ b1
  · rcases h2 with ⟨a2, _⟩ | ⟨_, b2, _⟩ | ⟨_, b2, _⟩ | ⟨_, rfl, rfl, d2⟩
    · exact absurd ((R.feas_iff m x).1 a1).1 a2
    · rw [b2] at a1; cases a1
    · exact absurd ⟨f1, d1.fits⟩ b2
    · exact ⟨rfl, rfl, fun j hj => d1.one d2 j hj⟩
theorem cells_of_rd {w : World} {s : Option Addr} {n : Nat} {f : Nat → Int} (h : Rd w s n f) : Cells w s (ivs n f) := fun hne => by
  have hn : 0 < n := by
    rcases Nat.eq_zero_or_pos n with e | e
    · subst e; exact absurd (List.eq_nil_of_length_eq_zero (ivs_len 0 f)) hne
    · exact e
  obtain ⟨b, off, e, hb, _⟩ := h 0 hn
  refine ⟨b, off, e, hb, fun j u hj => ?_⟩
  have hjl : j < n := by have := (List.getElem?_eq_some_iff.1 hj).1; rw [ivs_len] at this; exact this
  rw [ivs_get hjl] at hj
  injection hj with hj
  obtain ⟨b', off', e', _, hc⟩ := h j hjl
  rw [e] at e'
  injection e' with e'
  injection e' with e1 e2
  subst e1 e2
  rw [← hj]; exact hc
set_option maxRecDepth 100000 in
set_option maxHeartbeats 8000000 in
theorem walkProves (a0 : Option Addr) (len0 cap0 : Nat) (z0 : List Int) (a1 : Option Addr) (len1 cap1 : Nat) (z1 : List Int) (a2 : Option Addr) (len2 cap2 : Nat) (z2 : List Int) (w : World) (w0 : InInts .u8 w a0 len0 cap0 z0) (w1 : InInts .i64 w a1 len1 cap1 z1) (w2 : InInts .i64 w a2 len2 cap2 z2) :
    Calls Try.prog 7 #[.slice a0 len0 cap0, .slice a1 len1 cap1, .slice a2 len2 cap2] w fun e w' => e = .returned (.bool true) ∧ Below w.heap.size w w' := by
  have HI := Lib.hid w0
  have HL1 := Lib.hid (Rd.of_ints w1)
  have HL2 := Lib.hid (Rd.of_ints w2)
  clear w0 w1 w2
  by_cases hl1 : 40 < len1
  · have dl : decide (40 < (len1 : Int)) = true := by rw [decide_eq_true_iff]; omega
    clear hl1
    go_enter Try.func7, Try.ntmps7
    go_wp2_with fail
    refine (awake_any _).mono ?_
    rintro e w1 ⟨rfl, hb1⟩
    have HB1 := Lib.hid hb1
    clear hb1
    go_wp2_with fail
    go_ret
    exact ⟨rfl, HB1.out⟩
  have dl1 : decide (40 < (len1 : Int)) = false := by rw [decide_eq_false_iff_not]; omega
  by_cases hl2 : 40 < len2
  · have dl : decide (40 < (len2 : Int)) = true := by rw [decide_eq_true_iff]; omega
    clear hl1 hl2
    go_enter Try.func7, Try.ntmps7
    go_wp2_with fail
    refine (awake_any _).mono ?_
    rintro e w1 ⟨rfl, hb1⟩
    have HB1 := Lib.hid hb1
    clear hb1
    go_wp2_with fail
    go_ret
    exact ⟨rfl, HB1.out⟩
  have dl2 : decide (40 < (len2 : Int)) = false := by rw [decide_eq_false_iff_not]; omega
  have HN1 : Hid (len1 ≤ 40) := Lib.hid (by omega)
  have HN2 : Hid (len2 ≤ 40) := Lib.hid (by omega)
  clear hl1 hl2
  obtain ⟨i0, hi0, hz0, hz1, hz2⟩ := info_parts Try.infoInt
  have HII := Lib.hid hi0
  have HZ0 := Lib.hid hz0
  have HZ1 := Lib.hid hz1
  have HZ2 := Lib.hid hz2
  clear hi0 hz0 hz1 hz2
  go_enter Try.func7, Try.ntmps7
  go_wp2_with fail
  refine (awake_any _).mono ?_
  rintro e w2 ⟨rfl, hb1⟩
  have HB2 := Lib.hid hb1
  have HI2 := Lib.hid (HI.out.below HB2.out)
  clear hb1 HI
  go_wp2_with fail
  refine (New_any a0 len0 cap0 z0 120 (by omega) (by omega) _ HI2.out).mono ?_
  rintro e w3 ⟨g, rfl, hg, hcod, hb3⟩
  have hgw : w.heap.size ≤ g := by have := HB2.out.size; omega
  have HG3 := Lib.hid (grownBy_of_below (HB2.out.trans (hb3.mono HB2.out.size)) (some g))
  have HC3 := Lib.hid hcod
  have HGW := Lib.hid hgw
  clear hb3 hcod HI2 hg HB2 hgw
  go_wp2_with fail
  refine (Network_any g _ HC3.out).mono ?_
  rintro e w4 ⟨V, l, v, rfl, hsm, hown, hcod4, hg4⟩
  have HG4 := Lib.hid (grownBy_trans HG3.out hg4)
  obtain ⟨av, cv, rfl, hlc, hcm, hArc, hblk⟩ := Arcs.of_own (V := V) hown
  have hgl3 := HC3.out.lt
  have HBLK : Hid (∀ x, av = some x → x.block ≠ g) := Lib.hid (fun x hx => by have := hblk x hx; omega)
  have HC4 := Lib.hid hcod4
  have HARC4 := Lib.hid hArc
  have HVAL := Lib.hid (hsm.valid (by omega) (by omega) (by omega))
  have hl9 := hsm.m
  clear hown hsm hArc hblk hcod4 hg4 HC3 HG3 hgl3 hlc hcm
  go_upto_region 5 with fail
  obtain ⟨w5, hw5⟩ : ∃ w5, w5 = (w4.alloc (.cells #[.int .i64 (V : Int), .slice av l.length cv] 25)) := ⟨_, rfl⟩
  rw [← hw5]
  have hb5 : Below w4.heap.size w4 w5 := by rw [hw5]; exact (Below.refl _ _).alloc (Nat.le_refl _) _
  have x0 : w5.cell? ⟨w4.heap.size, 0, none⟩ = some (.int .i64 (V : Int)) := by rw [hw5]; exact cell_mk _ _ _ rfl rfl
  have x1 : w5.cell? ⟨w4.heap.size, 1, none⟩ = some (.slice av l.length cv) := by rw [hw5]; exact cell_mk _ _ _ rfl rfl
  have HG5 := Lib.hid (grownBy_trans HG4.out (grownBy_of_below hb5 (some g)))
  have HC5 := Lib.hid (HC4.out.under hb5)
  have HARC5 := Lib.hid (HARC4.out.below hb5)
  have hgl := HC4.out.lt
  obtain ⟨gx, hgx⟩ : ∃ gx, w4.heap.size = gx := ⟨_, rfl⟩
  rw [hgx] at x0 x1 hgl ⊢
  have HXG : Hid (gx ≠ g) := Lib.hid (by omega)
  have HNK : Hid (∀ W, w5.grownBy W (some g) → (W.cell? ⟨gx, 0, none⟩ = some (.int .i64 (V : Int)) ∧ W.cell? ⟨gx, 1, none⟩ = some (.slice av l.length cv))) := Lib.hid (fun W hW => ⟨cell_grown hW HXG.out x0, cell_grown hW HXG.out x1⟩)
  have HAK : Hid (∀ W, w5.grownBy W (some g) → Arcs W av (nwOf V l)) := Lib.hid (fun W hW => HARC5.out.grown hW (fun _ x hx => HBLK.out x hx))
  clear hw5 hb5 hgx HG4 HC4 HARC4
  clear w4
  have HGD : Hid (w5.grownBy w5.drew (some g)) := Lib.hid ⟨rfl, rfl, rfl, Nat.le_refl _, fun _ _ _ => rfl⟩
  go_cut [49, 50, 51] from 42 to 51 (fun v49 v50 v51 wx => ∃ (gb : Nat) (s1 s2 : Option Addr) (n1 n2 c1 c2 : Nat) (f1 f2 : Nat → Int), v49 = .slice (some ⟨gb, 0, none⟩) 3 3 ∧ v50 = .int .i64 3 ∧ v51 = .int .i64 0 ∧ n1 ≤ 40 ∧ n2 ≤ 40 ∧ gb ≠ g ∧ wx.heap[gb]? = some (.cells #[.slice a1 len1 cap1, .slice s1 n1 c1, .slice s2 n2 c2] 26 (0, 0)) ∧ Hid (w5.grownBy wx (some g) ∧ Cod wx g) ∧ Hid (Rd wx s1 n1 f1 ∧ (∀ x, s1 = some x → x.block ≠ g)) ∧ Hid (Rd wx s2 n2 f2 ∧ (∀ x, s2 = some x → x.block ≠ g)))
  case first =>
    refine wp_region_held_drew (S := (fun w' => w'.cell? ⟨gx, 0, none⟩ = some (.int .i64 (V : Int)) ∧ w'.cell? ⟨gx, 1, none⟩ = some (.slice av l.length cv))) (by kernel_rfl) (HNK.out _ HGD.out) (fun hHeld => ?_)
    refine wpAnyH_takeD (i := 0) (d := some 42) (v := ?_) rfl (by kernel_rfl) (by kernel_rfl) (by kernel_rfl) (by kernel_rfl) (fun _ _ _ h => h) (Or.inl ⟨by kernel_rfl, ?_⟩) (by assumption) ?_
    rotate_left
    · (intro w hSw; (try dsimp only at hSw); obtain ⟨hSw, hSx⟩ := hSw; go_simp; try with_reducible rfl)
    (try simp only [Act.put, List.setIfInBounds_toArray, List.set_cons_zero, List.set_cons_succ])
    refine wpAnyH_takeD (i := 1) (d := some 43) (v := ?_) rfl (by kernel_rfl) (by kernel_rfl) (by kernel_rfl) (by kernel_rfl) (fun _ _ _ h => h) (Or.inl ⟨by kernel_rfl, ?_⟩) (by assumption) ?_
    rotate_left
    · (intro w hSw; (try dsimp only at hSw); obtain ⟨hSw, hSx⟩ := hSw; go_simp; try with_reducible rfl)
    (try simp only [Act.put, List.setIfInBounds_toArray, List.set_cons_zero, List.set_cons_succ])
    refine wpAnyH_takeD (i := 2) (d := some 44) (v := ?_) rfl (by kernel_rfl) (by kernel_rfl) (by kernel_rfl) (by kernel_rfl) (fun _ _ _ h => h) (Or.inl ⟨by kernel_rfl, ?_⟩) (by assumption) ?_
    rotate_left
    · (intro w hSw; (try dsimp only at hSw); obtain ⟨hSw, hSx⟩ := hSw; go_simp; try with_reducible rfl)
    (try simp only [Act.put, List.setIfInBounds_toArray, List.set_cons_zero, List.set_cons_succ])
    refine wpAnyH_takeD (i := 4) (d := some 46) (v := ?_) rfl (by kernel_rfl) (by kernel_rfl) (by kernel_rfl) (by kernel_rfl) (fun _ _ _ h => h) (Or.inl ⟨by kernel_rfl, ?_⟩) (by assumption) ?_
    rotate_left
    · (intro w hSw; (try dsimp only at hSw); obtain ⟨hSw, hSx⟩ := hSw; go_simp; try with_reducible rfl)
    (try simp only [Act.put, List.setIfInBounds_toArray, List.set_cons_zero, List.set_cons_succ])
    refine wpAnyH_takeD (i := 5) (d := some 47) (v := ?_) rfl (by kernel_rfl) (by kernel_rfl) (by kernel_rfl) (by kernel_rfl) (fun _ _ _ h => h) (Or.inl ⟨by kernel_rfl, ?_⟩) (by assumption) ?_
    rotate_left
    · (intro w hSw; (try dsimp only at hSw); obtain ⟨hSw, hSx⟩ := hSw; go_simp; try with_reducible rfl)
    (try simp only [Act.put, List.setIfInBounds_toArray, List.set_cons_zero, List.set_cons_succ])
    refine wpAnyH_takeD (i := 9) (d := some 51) (v := ?_) rfl (by kernel_rfl) (by kernel_rfl) (by kernel_rfl) (by kernel_rfl) (fun _ _ _ h => h) (Or.inl ⟨by kernel_rfl, ?_⟩) (by assumption) ?_
    rotate_left
    · (intro w hSw; (try dsimp only at hSw); obtain ⟨hSw, hSx⟩ := hSw; go_simp; try with_reducible rfl)
    (try simp only [Act.put, List.setIfInBounds_toArray, List.set_cons_zero, List.set_cons_succ])
    have HG5d : Hid (w5.grownBy w5.drew (some g) ∧ Cod w5.drew g) := Lib.hid ⟨HGD.out, HC5.out⟩
    refine wpAnyH_ready (rs := [3]) (by kernel_rfl) (by simp) ?_
    refine AllReadyH.cons rfl (fun K hK => ?_) AllReadyH.nil
    go_simp
    refine (flow_any g (nwOf V l) HVAL.out (show l.length ≤ 12 by omega) av cv _ (HAK.out _ HG5d.out.1) HG5d.out.2).mono ?_
    rintro e w6 ⟨s1, n1, c1, f1, rfl, hn1, hrn1, hbn1, hcn1, hgn1⟩
    have HGw6 : Hid (w5.grownBy w6 (some g) ∧ Cod w6 g) := Lib.hid ⟨grownBy_trans HG5d.out.1 hgn1, hcn1⟩
    have HRn1 : Hid (Rd w6 s1 n1 f1 ∧ (∀ x, s1 = some x → x.block ≠ g)) := Lib.hid ⟨hrn1, fun x hx => by have h1 := hbn1 x hx; have h2 := HG5d.out.2.lt; omega⟩
    have hn1m : n1 ≤ 13 := by have : (nwOf V l).m = l.length := rfl; omega
    refine hK.out _ _ (HNK.out _ HGw6.out.1) (fun hHeld => ?_)
    clear hK K
    (try simp only [Act.put, List.setIfInBounds_toArray, List.set_cons_zero, List.set_cons_succ])
    have HGR2 := Lib.hid hgn1
    refine wpAnyH_ready (rs := [6]) (by kernel_rfl) (by simp) ?_
    refine AllReadyH.cons rfl (fun K hK => ?_) AllReadyH.nil
    go_simp
    refine (flow_any g (nwOf V l) HVAL.out (show l.length ≤ 12 by omega) av cv _ (HAK.out _ HGw6.out.1) HGw6.out.2).mono ?_
    rintro e w7 ⟨s2, n2, c2, f2, rfl, hn2, hrn2, hbn2, hcn2, hgn2⟩
    have HGw7 : Hid (w5.grownBy w7 (some g) ∧ Cod w7 g) := Lib.hid ⟨grownBy_trans HGw6.out.1 hgn2, hcn2⟩
    have HRn2 : Hid (Rd w7 s2 n2 f2 ∧ (∀ x, s2 = some x → x.block ≠ g)) := Lib.hid ⟨hrn2, fun x hx => by have h1 := hbn2 x hx; have h2 := HGw6.out.2.lt; omega⟩
    have hn2m : n2 ≤ 13 := by have : (nwOf V l).m = l.length := rfl; omega
    refine hK.out _ _ (HNK.out _ HGw7.out.1) (fun hHeld => ?_)
    clear hK K
    (try simp only [Act.put, List.setIfInBounds_toArray, List.set_cons_zero, List.set_cons_succ])
    have HR1w : Hid (Rd w7 s1 n1 f1 ∧ (∀ x, s1 = some x → x.block ≠ g)) := Lib.hid ⟨HRn1.out.1.grown hgn2 (fun _ x hx => HRn1.out.2 x hx), HRn1.out.2⟩
    refine wpAnyH_ready (rs := [7]) (by kernel_rfl) (by simp) ?_
    refine AllReadyH.cons rfl (fun K hK => ?_) AllReadyH.nil
    go_simp
    have HB8 : Hid (Below w7.heap.size w7 (w7.alloc (.cells #[.slice a1 len1 cap1, .slice s1 n1 c1, .slice s2 n2 c2] 26))) := Lib.hid ((Below.refl _ _).alloc (Nat.le_refl _) _)
    have HG8 : Hid (w5.grownBy (w7.alloc (.cells #[.slice a1 len1 cap1, .slice s1 n1 c1, .slice s2 n2 c2] 26)) (some g)) := Lib.hid (grownBy_trans HGw7.out.1 (grownBy_of_below HB8.out _))
    refine hK.out _ _ (HNK.out _ HG8.out) (fun hHeld => ?_)
    clear hK K
    (try simp only [Act.put, List.setIfInBounds_toArray, List.set_cons_zero, List.set_cons_succ])
    refine wpAnyH_takeD (i := 8) (d := some 50) (v := ?_) rfl (by kernel_rfl) (by kernel_rfl) (by kernel_rfl) (by kernel_rfl) (fun _ _ _ h => h) (Or.inl ⟨by kernel_rfl, ?_⟩) (by assumption) ?_
    rotate_left
    · (intro w hSw; (try dsimp only at hSw); obtain ⟨hSw, hSx⟩ := hSw; go_simp; try with_reducible rfl)
    (try simp only [Act.put, List.setIfInBounds_toArray, List.set_cons_zero, List.set_cons_succ])
    refine wpAnyH_done (by kernel_rfl) ?_ _
    (try simp only [Act.put, List.setIfInBounds_toArray, List.set_cons_zero, List.set_cons_succ])
    go_wp2_with fail
    go_meet
    exact ⟨w7.heap.size, s1, s2, n1, n2, c1, c2, f1, f2, rfl, rfl, rfl, by omega, by omega, by have := HGw7.out.2.lt; omega, heap_alloc_new w7 _, Lib.hid ⟨HG8.out, HGw7.out.2.under HB8.out⟩, Lib.hid ⟨HR1w.out.1.below HB8.out, HR1w.out.2⟩, Lib.hid ⟨HRn2.out.1.below HB8.out, HRn2.out.2⟩⟩
  case rest =>
    obtain ⟨gb, s1, s2, n1, n2, c1, c2, f1, f2, rfl, rfl, rfl, hn1, hn2, hgbg, hblk, HGC, HR1, HR2⟩ := hcut
    rename World => wQ
    have hgbl := heap_lt hblk
    have HROWS : Hid (∀ W, wQ.grownBy W (some g) → ∀ k, k < 3 → ∃ (s : Option Addr) (n c : Nat) (f : Nat → Int), W.cell? ⟨gb, k, none⟩ = some (.slice s n c) ∧ n ≤ 40 ∧ Rd W s n f ∧ (0 < n → ∀ x, s = some x → x.block ≠ g)) := Lib.hid (fun W hW k hk => by
      have hb := (hW.block gb hgbl (fun e => by injection e with e; exact hgbg e)).trans hblk
      have hk3 : k = 0 ∨ k = 1 ∨ k = 2 := by omega
      rcases hk3 with rfl | rfl | rfl
      · have hng : 0 < len1 → ∀ x, a1 = some x → x.block ≠ g := fun hm x hx => by have := HL1.out.lts hm x hx; have := HGW.out; omega
        exact ⟨a1, len1, cap1, _, cell_of_row _ _ 0 _ _ _ hb, HN1.out, HL1.out.grown (grownBy_trans HG5.out (grownBy_trans HGC.out.1 hW)) hng, hng⟩
      · exact ⟨s1, n1, c1, f1, cell_of_row _ _ 1 _ _ _ hb, hn1, HR1.out.1.grown hW (fun _ x hx => HR1.out.2 x hx), fun _ x hx => HR1.out.2 x hx⟩
      · exact ⟨s2, n2, c2, f2, cell_of_row _ _ 2 _ _ _ hb, hn2, HR2.out.1.grown hW (fun _ x hx => HR2.out.2 x hx), fun _ x hx => HR2.out.2 x hx⟩)
    have HNET : Hid (∀ W, wQ.grownBy W (some g) → W.cell? ⟨gx, 0, none⟩ = some (.int .i64 (V : Int)) ∧ W.cell? ⟨gx, 1, none⟩ = some (.slice av l.length cv) ∧ RA W av l.length (rwA V l.length (fun j => l.getD j default)).A) := Lib.hid (fun W hW => by
      have h := grownBy_trans HGC.out.1 hW
      exact ⟨(HNK.out W h).1, (HNK.out W h).2, rwA_nets (HAK.out W h)⟩)
    have HPL : Hid (∀ W, wQ.grownBy W (some g) → Rd W a2 len2 (fun j => z2.getD j 0)) := Lib.hid (fun W hW => by
      have hng : 0 < len2 → ∀ x, a2 = some x → x.block ≠ g := fun hm x hx => by have := HL2.out.lts hm x hx; have := HGW.out; omega
      exact HL2.out.grown (grownBy_trans HG5.out (grownBy_trans HGC.out.1 hW)) hng)
    have HFIN : Hid (∀ W, wQ.grownBy W (some g) → Below w.heap.size w W) := Lib.hid (fun W hW => below_grown1 (Below.refl _ _) (grownBy_trans HG5.out (grownBy_trans HGC.out.1 hW)) (Nat.le_refl _) HGW.out)
    have HC8 : Hid (Cod wQ g) := Lib.hid HGC.out.2
    obtain ⟨R, hR⟩ : ∃ R, rwA V l.length (fun j => l.getD j default) = R := ⟨_, rfl⟩
    rw [hR] at HNET
    have hRV : R.V = (V : Int) := by rw [← hR]; rfl
    have hRm : R.m = l.length := by rw [← hR]; rfl
    have HRV := Lib.hid hRV
    have HRM := Lib.hid hRm
    clear hgbl hgbg hblk HGC HR1 HR2 x0 x1 hR hRV hRm HNK HAK HGD HG5 HC5 HARC5 HXG HBLK HL1 HL2 HVAL hgl
    clear w5
    have HPOT : Hid (∀ W, wQ.grownBy W (some g) → ∀ (s : Option Addr) (n c : Nat) (f : Nat → Int), n ≤ 40 → Rd W s n f → Calls Try.prog 26 #[.agg #[.int .i64 (V : Int), .slice av l.length cv], .slice s n c] W (PtPost R n f W)) := Lib.hid (fun W hW s n c f hn hr => by
      have h := HNET.out W hW
      have hc := Potentials_any R av cv (by rw [HRM.out]; omega) s n c f (by omega) W (by rw [HRM.out]; exact h.2.2) hr
      have hv : R.val av cv = .agg #[.int .i64 (V : Int), .slice av l.length cv] := by show Value.agg #[.int .i64 R.V, .slice av R.m cv] = _; rw [HRV.out, HRM.out]
      rwa [hv] at hc)
    have HRPOT : Hid (∀ W, wQ.grownBy W (some g) → ∀ (s : Option Addr) (n c : Nat) (f : Nat → Int), n ≤ 40 → Rd W s n f → Calls Try.prog 27 #[.agg #[.int .i64 (V : Int), .slice av l.length cv], .slice s n c] W (PtPost R n f W)) := Lib.hid (fun W hW s n c f hn hr => by
      have h := HNET.out W hW
      have hc := RPotentials_any R av cv (by rw [HRM.out]; omega) s n c f (by omega) W (by rw [HRM.out]; exact h.2.2) hr
      have hv : R.val av cv = .agg #[.int .i64 (V : Int), .slice av l.length cv] := by show Value.agg #[.int .i64 R.V, .slice av R.m cv] = _; rw [HRV.out, HRM.out]
      rwa [hv] at hc)
    have HOPT : Hid (∀ W, wQ.grownBy W (some g) → ∀ (s : Option Addr) (n c : Nat) (f : Nat → Int), n ≤ 40 → Rd W s n f → ∀ (t : Option Addr) (k d : Nat) (p : Nat → Int), k ≤ 520 → Rd W t k p → Calls Try.prog 28 #[.agg #[.int .i64 (V : Int), .slice av l.length cv], .slice s n c, .slice t k d] W fun e w' => e = .returned (.bool (R.opt n f k p)) ∧ Below W.heap.size W w') := Lib.hid (fun W hW s n c f hn hr t k d p hk hp => by
      have h := HNET.out W hW
      have hc := Optimal_any R av cv (by rw [HRM.out]; omega) s n c f (by omega) t k d p (by omega) W (by rw [HRM.out]; exact h.2.2) hr hp
      have hv : R.val av cv = .agg #[.int .i64 (V : Int), .slice av l.length cv] := by show Value.agg #[.int .i64 R.V, .slice av R.m cv] = _; rw [HRV.out, HRM.out]
      rwa [hv] at hc)
    have HROPT : Hid (∀ W, wQ.grownBy W (some g) → ∀ (s : Option Addr) (n c : Nat) (f : Nat → Int), n ≤ 40 → Rd W s n f → ∀ (t : Option Addr) (k d : Nat) (p : Nat → Int), k ≤ 520 → Rd W t k p → Calls Try.prog 29 #[.agg #[.int .i64 (V : Int), .slice av l.length cv], .slice s n c, .slice t k d] W fun e w' => e = .returned (.bool (R.opt n f k p)) ∧ Below W.heap.size W w') := Lib.hid (fun W hW s n c f hn hr t k d p hk hp => by
      have h := HNET.out W hW
      have hc := ROptimal_any R av cv (by rw [HRM.out]; omega) s n c f (by omega) t k d p (by omega) W (by rw [HRM.out]; exact h.2.2) hr hp
      have hv : R.val av cv = .agg #[.int .i64 (V : Int), .slice av l.length cv] := by show Value.agg #[.int .i64 R.V, .slice av R.m cv] = _; rw [HRV.out, HRM.out]
      rwa [hv] at hc)
    go_upto_region 6 with fail
    go_loopw [51] (fun v51 wr => ∃ k : Nat, k ≤ 3 ∧ v51 = .int .i64 k ∧ Hid (wQ.grownBy wr (some g) ∧ Cod wr g)) (fun v _ => 3 - (intOf v).toNat)
    case atStart => exact ⟨0, by omega, rfl, Lib.hid ⟨grownBy_of_below (Below.refl _ _) _, HC8.out⟩⟩
    case round =>
      obtain ⟨k, hk, rfl, HR⟩ := hrel
      by_cases hlt : k < 3
      · obtain ⟨s, n, c, f, q0, hn40, hrd, hsg⟩ := HROWS.out wr HR.out.1 k hlt
        obtain ⟨x0, x1, _⟩ := HNET.out wr HR.out.1
        have HRD := Lib.hid hrd
        have HSG := Lib.hid hsg
        have ql := block_lt_of_cell q0
        have xl := block_lt_of_cell x0
        clear hrd hsg
        go_upto_region 8 with fail
        clear q0 ql
        go_wp2_with fail
        refine (HPOT.out wr HR.out.1 s n c f hn40 HRD.out).mono ?_
        rintro e wA hpost
        obtain ⟨t1, m1, p1, code1, rfl, hr1, ha1, hbA, hm1, _, _⟩ := pt_of hpost
        have HGA : Hid (wQ.grownBy wA (some g) ∧ Cod wA g) := Lib.hid ⟨grownBy_trans HR.out.1 (grownBy_of_below hbA _), HR.out.2.under hbA⟩
        have HR1 := Lib.hid hr1
        have HA1 := Lib.hid ha1
        have HRDA := Lib.hid (HRD.out.below hbA)
        clear hpost hr1 ha1 hbA x0 x1 xl
        obtain ⟨x0, x1, _⟩ := HNET.out wA HGA.out.1
        have xl := block_lt_of_cell x0
        go_wp2_with fail
        refine (HRPOT.out wA HGA.out.1 s n c f hn40 HRDA.out).mono ?_
        rintro e wB hpost
        obtain ⟨t2, m2, p2, code2, rfl, hr2, ha2, hbB, hm2, hnil2, hown2⟩ := pt_of hpost
        obtain ⟨hc12, hm12, hpp⟩ := pt_one HA1.out ha2
        subst hc12
        subst hm12
        have HGB : Hid (wQ.grownBy wB (some g) ∧ Cod wB g) := Lib.hid ⟨grownBy_trans HGA.out.1 (grownBy_of_below hbB _), HGA.out.2.under hbB⟩
        have HR1B := Lib.hid (HR1.out.below hbB)
        have HR2 := Lib.hid hr2
        have HRDB := Lib.hid (HRDA.out.below hbB)
        have HPP := Lib.hid hpp
        have HNIL := Lib.hid hnil2
        have HOW2 : Hid (∀ x, t2 = some x → x.block ≠ g) := Lib.hid (fun x hx => by have h1 := hown2 x hx; have h2 := HGA.out.2.lt; omega)
        have d0 : (code1 != code1) = false := by simp
        clear hpost hr2 ha2 hbB x0 x1 xl hpp hnil2 hown2 HA1 HR1
        go_wp2_with fail
        refine (Ints_any t1 t2 m1 m1 m1 m1 p1 p2 (by omega) (by omega) true (by simp; exact HPP.out) _ HR1B.out HR2.out).mono ?_
        rintro e wC ⟨rfl, hbC⟩
        have HGC : Hid (wQ.grownBy wC (some g) ∧ Cod wC g) := Lib.hid ⟨grownBy_trans HGB.out.1 (grownBy_of_below hbC _), HGB.out.2.under hbC⟩
        have HR2C := Lib.hid (HR2.out.below hbC)
        have HRDC := Lib.hid (HRDB.out.below hbC)
        have HCE := Lib.hid (cells_of_rd HR2C.out)
        clear hbC d0 HGB HR1B HR2 HRDB HPP
        go_upto_region 13 with (at_builtin; refine wpList_append_src rfl _ _ _ rfl wC.heap.size 3 i0 _ 1 8 Try.underlying26 HII.out HZ0.out HZ1.out HZ2.out rfl (by omega) (.slice none 0 0) 0 [] rfl (World.ownsRow_nil _ _ _ _) t2 m1 m1 (ivs m1 p2) rfl (Nat.le_refl _) HNIL.out (by rw [ivs_len]; omega) HCE.out (ivs_ones m1 p2) (by unfold maxLen; omega) (by omega) (by omega) ?_; intro v1 w3 hown1 hgr1; simp only [Nat.zero_add, List.nil_append] at hown1; obtain ⟨va, vc, rfl, hvo⟩ := Cells.of_own hown1; have HOWN1 := Lib.hid hown1; have HGR1 := Lib.hid hgr1; clear hown1 hgr1 hvo)
        have HBD : Hid (Below wC.heap.size wC w3) := Lib.hid ⟨HGR1.out.os, HGR1.out.tape, HGR1.out.output, HGR1.out.size, fun k hk => HGR1.out.block k hk (by simp [Value.ownBlock])⟩
        have HF : Hid (FL g wC va m1 vc p2 w3) := Lib.hid ⟨HOWN1.out, HGC.out.2.under HBD.out, grownBy_of_below HBD.out _, HGC.out.2.lt⟩
        clear HOWN1 HGR1 HBD HCE
        obtain ⟨z, hz⟩ : ∃ z : Bool, decide (0 < m1) = z := ⟨_, rfl⟩
        have HZB : Hid (z = true → 0 < m1) := Lib.hid (fun h => by rw [h] at hz; simpa using hz)
        have hz' : decide ((0 : Int) < (m1 : Int)) = z := by rw [← hz, decide_eq_decide]; omega
        go_upto_if 80 with fail
        (try rw [hz])
        (try rw [hz'])
        clear hz hz'
        go_cut [] from 81 to 92 (fun wx => ∃ p : Nat → Int, Hid (FL g wC va m1 vc p wx))
        case first =>
          cases z
          · go_wp2_with fail
            go_meet
            exact ⟨_, HF⟩
          · have hm0 := HZB.out rfl
            obtain ⟨gl, rfl, hgl1, hgl2⟩ := HF.out.form hm0
            have HF3 := HF
            go_upto_region 14 with fail
            refine wp_region_held_drew (S := (fun _ => True)) (by kernel_rfl) trivial (fun hHeld => ?_)
            refine wpAnyH_takeD (i := 0) (d := some 81) (v := ?_) rfl (by kernel_rfl) (by kernel_rfl) (by kernel_rfl) (by kernel_rfl) (fun _ _ _ h => h) (Or.inl ⟨by kernel_rfl, ?_⟩) (by assumption) ?_
            rotate_left
            · (intro w hSw; (try dsimp only at hSw); go_simp; try with_reducible rfl)
            (try simp only [Act.put, List.setIfInBounds_toArray, List.set_cons_zero, List.set_cons_succ])
            refine wpAnyH_takeD (i := 1) (d := some 82) (v := ?_) rfl (by kernel_rfl) (by kernel_rfl) (by kernel_rfl) (by kernel_rfl) (fun _ _ _ h => h) (Or.inl ⟨by kernel_rfl, ?_⟩) (by assumption) ?_
            rotate_left
            · (intro w hSw; (try dsimp only at hSw); go_simp; try with_reducible rfl)
            (try simp only [Act.put, List.setIfInBounds_toArray, List.set_cons_zero, List.set_cons_succ])
            refine wpAnyH_takeD (i := 2) (d := some 83) (v := ?_) rfl (by kernel_rfl) (by kernel_rfl) (by kernel_rfl) (by kernel_rfl) (fun _ _ _ h => h) (Or.inl ⟨by kernel_rfl, ?_⟩) (by assumption) ?_
            rotate_left
            · (intro w hSw; (try dsimp only at hSw); go_simp; try with_reducible rfl)
            (try simp only [Act.put, List.setIfInBounds_toArray, List.set_cons_zero, List.set_cons_succ])
            refine wpAnyH_takeD (i := 3) (d := some 84) (v := ?_) rfl (by kernel_rfl) (by kernel_rfl) (by kernel_rfl) (by kernel_rfl) (fun _ _ _ h => h) (Or.inl ⟨by kernel_rfl, ?_⟩) (by assumption) ?_
            rotate_left
            · (intro w hSw; (try dsimp only at hSw); go_simp; try with_reducible rfl)
            (try simp only [Act.put, List.setIfInBounds_toArray, List.set_cons_zero, List.set_cons_succ])
            refine wpAnyH_takeD (i := 7) (d := some 88) (v := ?_) rfl (by kernel_rfl) (by kernel_rfl) (by kernel_rfl) (by kernel_rfl) (fun _ _ _ h => h) (Or.inl ⟨by kernel_rfl, ?_⟩) (by assumption) ?_
            rotate_left
            · (intro w hSw; (try dsimp only at hSw); go_simp; try with_reducible rfl)
            (try simp only [Act.put, List.setIfInBounds_toArray, List.set_cons_zero, List.set_cons_succ])
            refine wpAnyH_ready (rs := [4]) (by kernel_rfl) (by simp) ?_
            refine AllReadyH.cons rfl (fun K hK => ?_) AllReadyH.nil
            go_simp
            refine (Next_any g _ (by omega) _ (HF3.out.next (w' := w3.drew) HF3.out.cod ⟨rfl, rfl, rfl, Nat.le_refl _, fun _ _ _ => rfl⟩).cod).mono ?_
            rintro e w5 ⟨y, rfl, y0, y1, hc5, hg5⟩
            obtain ⟨j, rfl⟩ := Int.eq_ofNat_of_zero_le y0
            have hj : j < m1 := by omega
            have HF5 := Lib.hid ((HF3.out.next (w' := w3.drew) HF3.out.cod ⟨rfl, rfl, rfl, Nat.le_refl _, fun _ _ _ => rfl⟩).next hc5 hg5)
            refine hK.out _ _ trivial (fun hHeld => ?_)
            clear hK K hg5 hc5
            (try simp only [Act.put, List.setIfInBounds_toArray, List.set_cons_zero, List.set_cons_succ])
            refine wpAnyH_takeD (i := 5) (d := some 86) (v := ?_) rfl (by kernel_rfl) (by kernel_rfl) (by kernel_rfl) (by kernel_rfl) (fun _ _ _ h => h) (Or.inl ⟨by kernel_rfl, ?_⟩) (by assumption) ?_
            rotate_left
            · (intro w hSw; (try dsimp only at hSw); go_simp; try with_reducible rfl)
            (try simp only [Act.put, List.setIfInBounds_toArray, List.set_cons_zero, List.set_cons_succ])
            refine wpAnyH_ready (rs := [6, 8]) (by kernel_rfl) (by simp) ?_
            refine AllReadyH.cons rfl (fun K hK => ?_) (AllReadyH.cons rfl (fun K hK => ?_) AllReadyH.nil)
            · have p1 := HF5.out.cell hj
              have p3 := block_lt_of_cell p1
              go_simp
              refine hK.out _ _ trivial (fun hHeld => ?_)
              clear hK K p1 p3
              (try simp only [Act.put, List.setIfInBounds_toArray, List.set_cons_zero, List.set_cons_succ])
              refine wpAnyH_ready (rs := [8]) (by kernel_rfl) (by simp) ?_
              refine AllReadyH.cons rfl (fun K hK => ?_) AllReadyH.nil
              go_simp
              refine (Next_any g _ (by omega) _ HF5.out.cod).mono ?_
              rintro e w6 ⟨x, rfl, x0, x1, hc6, hg6⟩
              have HF6 := Lib.hid (HF5.out.next hc6 hg6)
              refine hK.out _ _ trivial (fun hHeld => ?_)
              clear hK K hg6 hc6
              (try simp only [Act.put, List.setIfInBounds_toArray, List.set_cons_zero, List.set_cons_succ])
              refine wpAnyH_takeD (i := 9) (d := some 90) (v := ?_) rfl (by kernel_rfl) (by kernel_rfl) (by kernel_rfl) (by kernel_rfl) (fun _ _ _ h => h) (Or.inl ⟨by kernel_rfl, ?_⟩) (by assumption) ?_
              rotate_left
              · (intro w hSw; (try dsimp only at hSw); go_simp; try with_reducible rfl)
              (try simp only [Act.put, List.setIfInBounds_toArray, List.set_cons_zero, List.set_cons_succ])
              refine wpAnyH_takeD (i := 10) (d := some 91) (v := ?_) rfl (by kernel_rfl) (by kernel_rfl) (by kernel_rfl) (by kernel_rfl) (fun _ _ _ h => h) (Or.inl ⟨by kernel_rfl, ?_⟩) (by assumption) ?_
              rotate_left
              · (intro w hSw; (try dsimp only at hSw); go_simp; try with_reducible rfl)
              (try simp only [Act.put, List.setIfInBounds_toArray, List.set_cons_zero, List.set_cons_succ])
              refine wpAnyH_takeD (i := 11) (d := some 92) (v := ?_) rfl (by kernel_rfl) (by kernel_rfl) (by kernel_rfl) (by kernel_rfl) (fun _ _ _ h => h) (Or.inl ⟨by kernel_rfl, ?_⟩) (by assumption) ?_
              rotate_left
              · (intro w hSw; (try dsimp only at hSw); go_simp; try with_reducible rfl)
              (try simp only [Act.put, List.setIfInBounds_toArray, List.set_cons_zero, List.set_cons_succ])
              have q1 := HF6.out.cell hj
              have q2 := HF6.out.own.frozenAt j
              have q3 := block_lt_of_cell q1
              refine wpAnyH_ready (rs := [12]) (by kernel_rfl) (by simp) ?_
              refine AllReadyH.cons rfl (fun K hK => ?_) AllReadyH.nil
              go_simp
              have HF7 := fun x => Lib.hid (HF6.out.put j x)
              refine hK.out _ _ trivial (fun hHeld => ?_)
              clear hK K
              (try simp only [Act.put, List.setIfInBounds_toArray, List.set_cons_zero, List.set_cons_succ])
              refine wpAnyH_done (by kernel_rfl) ?_ _
              (try simp only [Act.put, List.setIfInBounds_toArray, List.set_cons_zero, List.set_cons_succ])
              go_wp2_with fail
              go_meet
              exact ⟨_, HF7 _⟩
            · go_simp
              refine (Next_any g _ (by omega) _ HF5.out.cod).mono ?_
              rintro e w6 ⟨x, rfl, x0, x1, hc6, hg6⟩
              have HF6 := Lib.hid (HF5.out.next hc6 hg6)
              refine hK.out _ _ trivial (fun hHeld => ?_)
              clear hK K hg6 hc6
              (try simp only [Act.put, List.setIfInBounds_toArray, List.set_cons_zero, List.set_cons_succ])
              refine wpAnyH_takeD (i := 9) (d := some 90) (v := ?_) rfl (by kernel_rfl) (by kernel_rfl) (by kernel_rfl) (by kernel_rfl) (fun _ _ _ h => h) (Or.inl ⟨by kernel_rfl, ?_⟩) (by assumption) ?_
              rotate_left
              · (intro w hSw; (try dsimp only at hSw); go_simp; try with_reducible rfl)
              (try simp only [Act.put, List.setIfInBounds_toArray, List.set_cons_zero, List.set_cons_succ])
              refine wpAnyH_ready (rs := [6]) (by kernel_rfl) (by simp) ?_
              refine AllReadyH.cons rfl (fun K hK => ?_) AllReadyH.nil
              have p1 := HF6.out.cell hj
              have p3 := block_lt_of_cell p1
              go_simp
              refine hK.out _ _ trivial (fun hHeld => ?_)
              clear hK K p1 p3
              (try simp only [Act.put, List.setIfInBounds_toArray, List.set_cons_zero, List.set_cons_succ])
              refine wpAnyH_takeD (i := 10) (d := some 91) (v := ?_) rfl (by kernel_rfl) (by kernel_rfl) (by kernel_rfl) (by kernel_rfl) (fun _ _ _ h => h) (Or.inl ⟨by kernel_rfl, ?_⟩) (by assumption) ?_
              rotate_left
              · (intro w hSw; (try dsimp only at hSw); go_simp; try with_reducible rfl)
              (try simp only [Act.put, List.setIfInBounds_toArray, List.set_cons_zero, List.set_cons_succ])
              refine wpAnyH_takeD (i := 11) (d := some 92) (v := ?_) rfl (by kernel_rfl) (by kernel_rfl) (by kernel_rfl) (by kernel_rfl) (fun _ _ _ h => h) (Or.inl ⟨by kernel_rfl, ?_⟩) (by assumption) ?_
              rotate_left
              · (intro w hSw; (try dsimp only at hSw); go_simp; try with_reducible rfl)
              (try simp only [Act.put, List.setIfInBounds_toArray, List.set_cons_zero, List.set_cons_succ])
              have q1 := HF6.out.cell hj
              have q2 := HF6.out.own.frozenAt j
              have q3 := block_lt_of_cell q1
              refine wpAnyH_ready (rs := [12]) (by kernel_rfl) (by simp) ?_
              refine AllReadyH.cons rfl (fun K hK => ?_) AllReadyH.nil
              go_simp
              have HF7 := fun x => Lib.hid (HF6.out.put j x)
              refine hK.out _ _ trivial (fun hHeld => ?_)
              clear hK K
              (try simp only [Act.put, List.setIfInBounds_toArray, List.set_cons_zero, List.set_cons_succ])
              refine wpAnyH_done (by kernel_rfl) ?_ _
              (try simp only [Act.put, List.setIfInBounds_toArray, List.set_cons_zero, List.set_cons_succ])
              go_wp2_with fail
              go_meet
              exact ⟨_, HF7 _⟩
        case rest =>
          obtain ⟨p3, HFQ⟩ := hcut
          have HQ : Hid (wC.grownBy wc (some g) ∧ Rd wc va m1 p3 ∧ Cod wc g) := Lib.hid ⟨HFQ.out.gr, HFQ.out.rd, HFQ.out.cod⟩
          have HGQ : Hid (wQ.grownBy wc (some g)) := Lib.hid (grownBy_trans HGC.out.1 HQ.out.1)
          have HR2Q := Lib.hid (HR2C.out.grown HQ.out.1 (fun _ x hx => HOW2.out x hx))
          have HRDQ := Lib.hid (HRDC.out.grown HQ.out.1 (fun h x hx => HSG.out h x hx))
          clear HF HFQ HGC HR2C HRDC
          go_upto_region 16 with fail
          have HST : Hid (∀ W, W = (wc.alloc (.cells #[.slice a2 len2 cap2, .slice t2 m1 m1, .slice va m1 vc] 26)) → Below wc.heap.size wc W ∧ (∀ j, j < 3 → ∃ (t : Option Addr) (k d : Nat) (p : Nat → Int), W.cell? ⟨wc.heap.size, j, none⟩ = some (.slice t k d) ∧ k ≤ 520 ∧ Rd W t k p)) := Lib.hid (fun W hW => by
            subst hW
            have hb : Below wc.heap.size wc (wc.alloc (.cells #[.slice a2 len2 cap2, .slice t2 m1 m1, .slice va m1 vc] 26)) := (Below.refl _ _).alloc (Nat.le_refl _) _
            refine ⟨hb, fun j hj => ?_⟩
            have hj2 : j = 0 ∨ j = 1 ∨ j = 2 := by omega
            rcases hj2 with rfl | rfl | rfl
            · exact ⟨a2, len2, cap2, _, cell_mk _ _ _ rfl rfl, by have := HN2.out; omega, (HPL.out wc HGQ.out).below hb⟩
            · exact ⟨t2, m1, m1, p2, cell_mk _ _ _ rfl rfl, by omega, HR2Q.out.below hb⟩
            · exact ⟨va, m1, vc, p3, cell_mk _ _ _ rfl rfl, by omega, HQ.out.2.1.below hb⟩)
          obtain ⟨wE, hwE⟩ : ∃ wE, wE = (wc.alloc (.cells #[.slice a2 len2 cap2, .slice t2 m1 m1, .slice va m1 vc] 26)) := ⟨_, rfl⟩
          rw [← hwE]
          obtain ⟨hbE, hst⟩ := HST.out wE hwE
          have HGE : Hid (wQ.grownBy wE (some g) ∧ Cod wE g) := Lib.hid ⟨grownBy_trans HGQ.out (grownBy_of_below hbE _), HQ.out.2.2.under hbE⟩
          have HRDE := Lib.hid (HRDQ.out.below hbE)
          obtain ⟨gl, hgl⟩ : ∃ gl, wc.heap.size = gl := ⟨_, rfl⟩
          have hgll : gl < wE.heap.size := by rw [hwE, ← hgl]; simp
          rw [hgl] at hst ⊢
          have HROW : Hid (∀ W, Below wE.heap.size wE W → ∀ j, j < 3 → ∃ (t : Option Addr) (k d : Nat) (p : Nat → Int), W.cell? ⟨gl, j, none⟩ = some (.slice t k d) ∧ k ≤ 520 ∧ Rd W t k p) := Lib.hid (fun W hW j hj => by
            obtain ⟨s, n, c, f, h1, h2, h3⟩ := hst j hj
            exact ⟨s, n, c, f, (hW.cell (p := ⟨gl, j, none⟩) hgll).trans h1, h2, h3.below hW⟩)
          have HGLL := Lib.hid hgll
          clear hwE hgl hgll hst hbE HST HQ HGQ HR2Q HRDQ
          clear wc
          clear HSG HOW2 HNIL HRD HRDA HGA HR hm1 hm2
          clear wC
          go_loopw [98] (fun v98 wr => ∃ j : Nat, j ≤ 3 ∧ v98 = .int .i64 j ∧ Hid (Below wE.heap.size wE wr)) (fun v _ => 3 - (intOf v).toNat)
          case atStart => exact ⟨0, by omega, rfl, Lib.hid (Below.refl _ _)⟩
          case round =>
            obtain ⟨j, hj, rfl, HRJ⟩ := hrel
            by_cases hjt : j < 3
            · obtain ⟨t, kk, dd, p, r0, hk520, hrp⟩ := HROW.out _ HRJ.out j hjt
              have hgJ := grownBy_trans HGE.out.1 (grownBy_of_below HRJ.out (some g))
              obtain ⟨x0, x1, _⟩ := HNET.out _ hgJ
              have HGJ := Lib.hid hgJ
              have HRP := Lib.hid hrp
              have HRDJ := Lib.hid (HRDE.out.below HRJ.out)
              obtain ⟨wJ, hwJ⟩ : ∃ wJ, wr = wJ := ⟨_, rfl⟩
              rw [hwJ] at HRJ r0 x0 x1 HGJ HRP HRDJ ⊢
              have gll := block_lt_of_cell r0
              have xl := block_lt_of_cell x0
              have HO1 : Hid (∀ W, Below wJ.heap.size wJ W → Calls Try.prog 28 #[.agg #[.int .i64 (V : Int), .slice av l.length cv], .slice s n c, .slice t kk dd] W fun e w' => e = .returned (.bool (R.opt n f kk p)) ∧ Below W.heap.size W w') := Lib.hid (fun W hW => HOPT.out W (grownBy_trans HGJ.out (grownBy_of_below hW _)) s n c f hn40 (HRDJ.out.below hW) t kk dd p hk520 (HRP.out.below hW))
              have HO2 : Hid (∀ W, Below wJ.heap.size wJ W → Calls Try.prog 29 #[.agg #[.int .i64 (V : Int), .slice av l.length cv], .slice s n c, .slice t kk dd] W fun e w' => e = .returned (.bool (R.opt n f kk p)) ∧ Below W.heap.size W w') := Lib.hid (fun W hW => HROPT.out W (grownBy_trans HGJ.out (grownBy_of_below hW _)) s n c f hn40 (HRDJ.out.below hW) t kk dd p hk520 (HRP.out.below hW))
              generalize R.opt n f kk p = bo at HO1 HO2
              have d1 : (bo != bo) = false := by simp
              clear hrp hgJ hwJ HRP HRDJ HGJ
              go_upto_region 18 with fail
              refine wp_region_below (by kernel_rfl) (by kernel_rfl) ?_
              have g1 := fun y : Since wJ => y.cell x0
              have g2 := fun y : Since wJ => y.cell x1
              repeat (go_big_quiet_step (first
                | (go_at_call 28; exact calls_since _ (HO1.out _ (Since.property _)))
                | (go_at_call 29; exact calls_since _ (HO2.out _ (Since.property _)))))
              refine wpQuiet_nil ?_
              intro W1 hbW
              clear g1 g2 x0 x1 r0 gll xl
              have HRJ2 := Lib.hid (HRJ.out.trans (hbW.mono HRJ.out.size))
              clear hbW HO1 HO2
              go_wp2_with fail
              go_roundw
              case rel => exact ⟨j + 1, by omega, by go_num, HRJ2⟩
              case measure => simp [intOf]; omega
            · obtain rfl : j = 3 := by omega
              have HEND : Hid (∀ W, Below wE.heap.size wE W → wQ.grownBy W (some g) ∧ Cod W g) := Lib.hid (fun W hW => ⟨grownBy_trans HGE.out.1 (grownBy_of_below hW _), HGE.out.2.under hW⟩)
              go_wp2_with fail
              go_roundw
              case rel => exact ⟨k + 1, by omega, by go_num, Lib.hid (HEND.out _ HRJ.out)⟩
              case measure => simp [intOf]; omega
      · obtain rfl : k = 3 := by omega
        go_wp2_with fail
        go_ret
        exact ⟨rfl, HFIN.out _ HR.out.1⟩
end Go.Proofs.Ythoehobofdeifaa
