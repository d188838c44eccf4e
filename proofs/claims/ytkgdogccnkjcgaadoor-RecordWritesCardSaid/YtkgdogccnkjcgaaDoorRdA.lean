/-
  WALKS of the reader on any bytes.
-/
import Derived.Test.YtkgdogccnkjcgaaDoorHdr
namespace Go.Proofs.YtkgdogccnkjcgaaDoor
open Go.ChangeShapes Go.WideShapes Go.ChangeAt Go.RowKit
/-- a reader: the bytes before it, and its error -/
abbrev St := List Nat × Nat
def rdU (s : St) : Nat × St := if s.2 = 0 then ((ud s.1).1, s.1.drop (ud s.1).2.1, (ud s.1).2.2) else (0, s)
def rdI (s : St) : Int × St := if s.2 = 0 then (zag (ud s.1).1, s.1.drop (ud s.1).2.1, (ud s.1).2.2) else (0, s)
def rdS (s : St) : Int × St := (if (rdU s).1 ≤ 4611686018427387904 then ((rdU s).1 : Int) else -1, (rdU s).2)
/-- block g is this reader -/
def RdS (w : World) (B g : Nat) (s : St) : Prop := ∃ (a : Option Addr) (n cap : Nat), w.heap[g]? = some (.cells #[.slice a n cap, .int .i64 (s.2 : Nat)] 92 (0, 0)) ∧ Bs w a n cap s.1 ∧ (∀ x, a = some x → x.block < B)
def RdSPost (B g : Nat) (s' : St) (v : Value) (w : World) (e : Ending) (w' : World) : Prop := e = .returned v ∧ RdS w' B g s' ∧ w.grownBy w' (some g)
theorem udF_pos : ∀ (f : Nat) (l : List Nat) (i acc : Nat), (udF f l i acc).2.2 = 0 → 1 ≤ (udF f l i acc).2.1
  | 0, _, _, _ => by intro h; simp [udF] at h
  | f + 1, l, i, acc => by
    intro h
    rw [udF] at h ⊢
    split
    · rename_i h1; rw [if_pos h1] at h; simp at h
    · rename_i h1
      rw [if_neg h1] at h
      split
      · rename_i h2; rw [if_pos h2] at h; simp at h
      · rename_i h2
        rw [if_neg h2] at h
        split
        · simp
        · rename_i h3
          rw [if_neg h3] at h
          exact udF_pos f l _ _ h
theorem ud_pos (l : List Nat) : (ud l).2.2 = 0 → 1 ≤ (ud l).2.1 := udF_pos 10 l 0 0
theorem Bs.rest2 {w : World} {b off n cap k : Nat} {zs : List Nat} (h : Bs w (some ⟨b, off, none⟩) n cap zs) (hk : k ≤ zs.length) :
    Bs w (if cap = k then some ⟨b, off, none⟩ else some ⟨b, off + k, none⟩) (n - k) (cap - k) (zs.drop k) := by
  have := Bs.rest (w := w) (b := b) (off := off) (n := n) (cap := cap) (k := k) (xs := zs.take k) (zs := zs.drop k) (by rw [List.take_append_drop]; exact h) (by simp; omega)
  exact this
theorem grownBy_refl' (w : World) (g : Nat) : w.grownBy w (some g) := ⟨rfl, rfl, rfl, Nat.le_refl _, fun _ _ _ => rfl⟩
structure SliceZero (a : Option Addr) (n cap : Nat) : Prop where
  h : ∃ w zs, Bs w a n cap zs

set_option maxRecDepth 100000 in
set_option maxHeartbeats 8000000 in
theorem uint_a (B g : Nat) (hBg : B ≤ g) (s : St) (hb : Byt s.1) (hlen : s.1.length ≤ 100000) (w : World) (h : RdS w B g s) : Calls Tryd.prog 55 #[.pointer (some ⟨g, 0, none⟩)] w (RdSPost B g (rdU s).2 (.int .u64 ((rdU s).1 : Nat)) w) := by
  obtain ⟨zs, e0⟩ := s
  obtain ⟨a, n, cap, hg, hbs, hlt⟩ := h
  have hne : ∀ x, a = some x → x.block ≠ g := fun x hx e => by have := hlt x hx; omega
  simp only at hb hlen hg hbs
  have HBS := Lib.hid hbs
  have HB := Lib.hid hb
  by_cases he0 : e0 = 0
  · subst he0
    have f0 : w.cell? ⟨g, 0, none⟩ = some (.slice a n cap) := cell_of_row _ _ 0 _ _ _ hg
    have f1 : w.cell? ⟨g, 1, none⟩ = some (.int .i64 0) := cell_of_row _ _ 1 _ _ _ hg
    have z0 : w.frozen? ⟨g, 0, none⟩ = false := unfrozen_of_row hg
    have z1 : w.frozen? ⟨g, 1, none⟩ = false := unfrozen_of_row hg
    obtain ⟨b1, b2, b3, b4, b5⟩ := ud_bd zs
    have hpos := ud_pos zs
    obtain ⟨⟨v, k, r⟩, hu⟩ : ∃ u, ud zs = u := ⟨_, rfl⟩
    rw [hu] at b1 b2 b3 b4 b5 hpos
    simp only at b1 b2 b3 b4 b5 hpos
    have HU := Lib.hid hu
    have hl := hbs.1
    have hnc := hbs.2.1
    have hcm := hbs.2.2.1
    unfold maxLen at hcm
    have s1 : (0 : Int) ≤ (k : Int) := by omega
    have s2 : (k : Int) ≤ (n : Int) := by omega
    rw [hl] at hlen
    by_cases hr : r = 0
    · subst hr
      have hk := hpos rfl
      cases a with
      | none => have := hbs.2.2.2.1 rfl; omega
      | some ad =>
      have hex := hbs.2.2.2.2.byt 0 (by omega)
      obtain ⟨b, off, ea, hbl, _⟩ := hex
      injection ea with ea
      subst ea
      have hbg : b ≠ g := hne _ rfl
      have hbB : b < B := hlt _ rfl
      have hrest := hbs.rest2 (k := k) (by omega)
      obtain ⟨ad, had⟩ : ∃ ad : Addr, (if cap = k then some (⟨b, off, none⟩ : Addr) else some ⟨b, off + k, none⟩) = some ad := by
        by_cases hc : cap = k
        · exact ⟨_, if_pos hc⟩
        · exact ⟨_, if_neg hc⟩
      have hadb : ad.block = b := by
        by_cases hc : cap = k
        · rw [if_pos hc] at had; injection had with had; rw [← had]
        · rw [if_neg hc] at had; injection had with had; rw [← had]
      rw [had] at hrest
      have h1 := heap_setCell_same w g 0 _ _ (.slice (some ad) (n - k) (cap - k)) hg
      have h2 := heap_setCell_same _ g 1 _ _ (.int .i64 0) h1
      have hgr : w.grownBy ((w.setCell ⟨g, 0, none⟩ (.slice (some ad) (n - k) (cap - k))).setCell ⟨g, 1, none⟩ (.int .i64 0)) (some g) := grownBy_trans (grownBy_set w g 0 _) (grownBy_set _ g 1 _)
      have HRD : Hid (RdS ((w.setCell ⟨g, 0, none⟩ (.slice (some ad) (n - k) (cap - k))).setCell ⟨g, 1, none⟩ (.int .i64 0)) B g (zs.drop k, 0)) := Lib.hid ⟨some ad, n - k, cap - k, h2, hrest.not_block (fun x hx => by injection hx with hx; rw [← hx, hadb]; exact hbg) hgr, fun x hx => by injection hx with hx; rw [← hx, hadb]; exact hbB⟩
      have HGR := Lib.hid hgr
      clear h1 h2 hrest hbs hu hgr hpos b5 hb
      go_enter Tryd.func55, Tryd.ntmps55
      go_wp2_with fail
      refine (Uint_any _ n cap zs (by omega) HB.out _ HBS.out).mono ?_
      rintro e w1 ⟨he, rfl⟩
      rw [HU.out] at he
      subst he
      go_wp2_with fail
      go_ret
      refine ⟨by unfold rdU; simp only [if_pos]; rw [HU.out]; rfl, ?_, HGR.out⟩
      unfold rdU; simp only [if_pos]; rw [HU.out]; exact HRD.out
    · obtain ⟨hv0, hk0⟩ := b5 hr
      subst hv0 hk0
      have h1 := heap_setCell_same w g 0 _ _ (.slice a n cap) hg
      have h2 := heap_setCell_same _ g 1 _ _ (.int .i64 (r : Nat)) h1
      have hgr : w.grownBy ((w.setCell ⟨g, 0, none⟩ (.slice a n cap)).setCell ⟨g, 1, none⟩ (.int .i64 (r : Nat))) (some g) := grownBy_trans (grownBy_set w g 0 _) (grownBy_set _ g 1 _)
      have HRD : Hid (RdS ((w.setCell ⟨g, 0, none⟩ (.slice a n cap)).setCell ⟨g, 1, none⟩ (.int .i64 (r : Nat))) B g (zs, r)) := Lib.hid ⟨a, n, cap, h2, hbs.not_block hne hgr, hlt⟩
      have HGR := Lib.hid hgr
      have hadd : ∀ b o, (⟨b, o, none⟩ : Addr).add 0 = ⟨b, o, none⟩ := fun b o => by rw [add_none]; rfl
      clear h1 h2 hbs hu hgr hpos b5 hb
      have haz : SliceZero a n cap := ⟨w, zs, HBS.out⟩
      go_enter Tryd.func55, Tryd.ntmps55
      go_wp2_with fail
      refine (Uint_any _ n cap zs (by omega) HB.out _ HBS.out).mono ?_
      rintro e w1 ⟨he, rfl⟩
      rw [HU.out] at he
      subst he
      go_wp2_with fail
      go_ret
      refine ⟨by unfold rdU; simp only [if_pos]; rw [HU.out]; rfl, ?_, HGR.out⟩
      unfold rdU; simp only [if_pos]; rw [HU.out]; exact HRD.out
  · have f1 : w.cell? ⟨g, 1, none⟩ = some (.int .i64 (e0 : Nat)) := cell_of_row _ _ 1 _ _ _ hg
    have d0 : (((e0 : Nat) : Int) == 0) = false := by simp; omega
    have HE := Lib.hid he0
    have HG := Lib.hid hg
    clear he0 hbs hb hg
    go_enter Tryd.func55, Tryd.ntmps55
    go_wp2_with fail
    go_ret
    refine ⟨by unfold rdU; rw [if_neg HE.out]; rfl, ?_, grownBy_refl' _ _⟩
    unfold rdU; rw [if_neg HE.out]; exact ⟨a, n, cap, HG.out, HBS.out, hlt⟩

set_option maxRecDepth 100000 in
set_option maxHeartbeats 8000000 in
theorem int_a (B g : Nat) (hBg : B ≤ g) (s : St) (hb : Byt s.1) (hlen : s.1.length ≤ 100000) (w : World) (h : RdS w B g s) : Calls Tryd.prog 57 #[.pointer (some ⟨g, 0, none⟩)] w (RdSPost B g (rdI s).2 (.int .i64 (rdI s).1) w) := by
  obtain ⟨zs, e0⟩ := s
  obtain ⟨a, n, cap, hg, hbs, hlt⟩ := h
  have hne : ∀ x, a = some x → x.block ≠ g := fun x hx e => by have := hlt x hx; omega
  simp only at hb hlen hg hbs
  have HBS := Lib.hid hbs
  have HB := Lib.hid hb
  by_cases he0 : e0 = 0
  · subst he0
    have f0 : w.cell? ⟨g, 0, none⟩ = some (.slice a n cap) := cell_of_row _ _ 0 _ _ _ hg
    have f1 : w.cell? ⟨g, 1, none⟩ = some (.int .i64 0) := cell_of_row _ _ 1 _ _ _ hg
    have z0 : w.frozen? ⟨g, 0, none⟩ = false := unfrozen_of_row hg
    have z1 : w.frozen? ⟨g, 1, none⟩ = false := unfrozen_of_row hg
    obtain ⟨b1, b2, b3, b4, b5⟩ := ud_bd zs
    have hpos := ud_pos zs
    obtain ⟨⟨v, k, r⟩, hu⟩ : ∃ u, ud zs = u := ⟨_, rfl⟩
    rw [hu] at b1 b2 b3 b4 b5 hpos
    simp only at b1 b2 b3 b4 b5 hpos
    have HU := Lib.hid hu
    have hl := hbs.1
    have hnc := hbs.2.1
    have hcm := hbs.2.2.1
    unfold maxLen at hcm
    have s1 : (0 : Int) ≤ (k : Int) := by omega
    have s2 : (k : Int) ≤ (n : Int) := by omega
    rw [hl] at hlen
    by_cases hr : r = 0
    · subst hr
      have hk := hpos rfl
      cases a with
      | none => have := hbs.2.2.2.1 rfl; omega
      | some ad =>
      have hex := hbs.2.2.2.2.byt 0 (by omega)
      obtain ⟨b, off, ea, hbl, _⟩ := hex
      injection ea with ea
      subst ea
      have hbg : b ≠ g := hne _ rfl
      have hbB : b < B := hlt _ rfl
      have hrest := hbs.rest2 (k := k) (by omega)
      obtain ⟨ad, had⟩ : ∃ ad : Addr, (if cap = k then some (⟨b, off, none⟩ : Addr) else some ⟨b, off + k, none⟩) = some ad := by
        by_cases hc : cap = k
        · exact ⟨_, if_pos hc⟩
        · exact ⟨_, if_neg hc⟩
      have hadb : ad.block = b := by
        by_cases hc : cap = k
        · rw [if_pos hc] at had; injection had with had; rw [← had]
        · rw [if_neg hc] at had; injection had with had; rw [← had]
      rw [had] at hrest
      have h1 := heap_setCell_same w g 0 _ _ (.slice (some ad) (n - k) (cap - k)) hg
      have h2 := heap_setCell_same _ g 1 _ _ (.int .i64 0) h1
      have hgr : w.grownBy ((w.setCell ⟨g, 0, none⟩ (.slice (some ad) (n - k) (cap - k))).setCell ⟨g, 1, none⟩ (.int .i64 0)) (some g) := grownBy_trans (grownBy_set w g 0 _) (grownBy_set _ g 1 _)
      have HRD : Hid (RdS ((w.setCell ⟨g, 0, none⟩ (.slice (some ad) (n - k) (cap - k))).setCell ⟨g, 1, none⟩ (.int .i64 0)) B g (zs.drop k, 0)) := Lib.hid ⟨some ad, n - k, cap - k, h2, hrest.not_block (fun x hx => by injection hx with hx; rw [← hx, hadb]; exact hbg) hgr, fun x hx => by injection hx with hx; rw [← hx, hadb]; exact hbB⟩
      have HGR := Lib.hid hgr
      clear h1 h2 hrest hbs hu hgr hpos b5 hb
      go_enter Tryd.func57, Tryd.ntmps57
      go_wp2_with fail
      refine (Int_any _ n cap zs (by omega) HB.out _ HBS.out).mono ?_
      rintro e w1 ⟨he, rfl⟩
      rw [HU.out] at he
      subst he
      go_wp2_with fail
      go_ret
      refine ⟨by unfold rdI; simp only [if_pos]; rw [HU.out]; rfl, ?_, HGR.out⟩
      unfold rdI; simp only [if_pos]; rw [HU.out]; exact HRD.out
    · obtain ⟨hv0, hk0⟩ := b5 hr
      subst hv0 hk0
      have h1 := heap_setCell_same w g 0 _ _ (.slice a n cap) hg
      have h2 := heap_setCell_same _ g 1 _ _ (.int .i64 (r : Nat)) h1
      have hgr : w.grownBy ((w.setCell ⟨g, 0, none⟩ (.slice a n cap)).setCell ⟨g, 1, none⟩ (.int .i64 (r : Nat))) (some g) := grownBy_trans (grownBy_set w g 0 _) (grownBy_set _ g 1 _)
      have HRD : Hid (RdS ((w.setCell ⟨g, 0, none⟩ (.slice a n cap)).setCell ⟨g, 1, none⟩ (.int .i64 (r : Nat))) B g (zs, r)) := Lib.hid ⟨a, n, cap, h2, hbs.not_block hne hgr, hlt⟩
      have HGR := Lib.hid hgr
      have hadd : ∀ b o, (⟨b, o, none⟩ : Addr).add 0 = ⟨b, o, none⟩ := fun b o => by rw [add_none]; rfl
      clear h1 h2 hbs hu hgr hpos b5 hb
      have haz : SliceZero a n cap := ⟨w, zs, HBS.out⟩
      go_enter Tryd.func57, Tryd.ntmps57
      go_wp2_with fail
      refine (Int_any _ n cap zs (by omega) HB.out _ HBS.out).mono ?_
      rintro e w1 ⟨he, rfl⟩
      rw [HU.out] at he
      subst he
      go_wp2_with fail
      go_ret
      refine ⟨by unfold rdI; simp only [if_pos]; rw [HU.out]; rfl, ?_, HGR.out⟩
      unfold rdI; simp only [if_pos]; rw [HU.out]; exact HRD.out
  · have f1 : w.cell? ⟨g, 1, none⟩ = some (.int .i64 (e0 : Nat)) := cell_of_row _ _ 1 _ _ _ hg
    have d0 : (((e0 : Nat) : Int) == 0) = false := by simp; omega
    have HE := Lib.hid he0
    have HG := Lib.hid hg
    clear he0 hbs hb hg
    go_enter Tryd.func57, Tryd.ntmps57
    go_wp2_with fail
    go_ret
    refine ⟨by unfold rdI; rw [if_neg HE.out]; rfl, ?_, grownBy_refl' _ _⟩
    unfold rdI; rw [if_neg HE.out]; exact ⟨a, n, cap, HG.out, HBS.out, hlt⟩

theorem rdU_byt {s : St} (h : Byt s.1) : Byt (rdU s).2.1 := by
  unfold rdU; split
  · exact h.drop _
  · exact h
theorem rdU_len (s : St) : (rdU s).2.1.length ≤ s.1.length := by
  unfold rdU; split
  · simp
  · exact Nat.le_refl _
theorem rdI_byt {s : St} (h : Byt s.1) : Byt (rdI s).2.1 := by
  unfold rdI; split
  · exact h.drop _
  · exact h
theorem rdI_len (s : St) : (rdI s).2.1.length ≤ s.1.length := by
  unfold rdI; split
  · simp
  · exact Nat.le_refl _
theorem rdS_byt {s : St} (h : Byt s.1) : Byt (rdS s).2.1 := rdU_byt h
theorem rdS_len (s : St) : (rdS s).2.1.length ≤ s.1.length := rdU_len s
theorem rdU_lt (s : St) : (rdU s).1 < 18446744073709551616 := by
  unfold rdU; split
  · exact (ud_bd s.1).1
  · exact Nat.succ_le_of_lt (by decide : 0 < 18446744073709551616)
set_option maxRecDepth 100000 in
set_option maxHeartbeats 4000000 in
theorem small_a (B g : Nat) (hBg : B ≤ g) (s : St) (hb : Byt s.1) (hlen : s.1.length ≤ 100000) (w : World) (h : RdS w B g s) : Calls Tryd.prog 54 #[.pointer (some ⟨g, 0, none⟩)] w (RdSPost B g (rdS s).2 (.int .i64 (rdS s).1) w) := by
  have H := Lib.hid h
  have HB := Lib.hid hb
  have HL := Lib.hid hlen
  have hlt := rdU_lt s
  have HS : Hid ((rdS s).2 = (rdU s).2) := Lib.hid rfl
  have HV : Hid ((rdS s).1 = if (rdU s).1 ≤ 4611686018427387904 then ((rdU s).1 : Int) else -1) := Lib.hid rfl
  clear h hb hlen
  by_cases hc : (rdU s).1 ≤ 4611686018427387904
  · have d1 : decide ((((rdU s).1 : Nat) : Int) ≤ 4611686018427387904) = true := by simp; omega
    have HC := Lib.hid hc
    go_enter Tryd.func54, Tryd.ntmps54
    go_wp2_with fail
    refine (uint_a B g hBg s HB.out HL.out _ H.out).mono ?_
    rintro e w1 ⟨rfl, hrd, hgr⟩
    go_wp2_with fail
    go_ret
    exact ⟨by rw [HV.out, if_pos HC.out]; rfl, by rw [HS.out]; exact hrd, hgr⟩
  · have d1 : decide ((((rdU s).1 : Nat) : Int) ≤ 4611686018427387904) = false := by simp; omega
    have HC := Lib.hid hc
    go_enter Tryd.func54, Tryd.ntmps54
    go_wp2_with fail
    refine (uint_a B g hBg s HB.out HL.out _ H.out).mono ?_
    rintro e w1 ⟨rfl, hrd, hgr⟩
    go_wp2_with fail
    go_ret
    exact ⟨by rw [HV.out, if_neg HC.out]; rfl, by rw [HS.out]; exact hrd, hgr⟩
def stDone (s : St) : Bool := decide (s.2 = 0) && decide (s.1.length = 0)
set_option maxRecDepth 100000 in
set_option maxHeartbeats 4000000 in
theorem done_a (B g : Nat) (s : St) (hlen : s.1.length ≤ 100000) (w : World) (h : RdS w B g s) : Calls Tryd.prog 56 #[.pointer (some ⟨g, 0, none⟩)] w fun e w' => e = .returned (.bool (stDone s)) ∧ w' = w := by
  obtain ⟨zs, e0⟩ := s
  obtain ⟨a, n, cap, hg, hbs, hne⟩ := h
  have f0 : w.cell? ⟨g, 0, none⟩ = some (.slice a n cap) := cell_of_row _ _ 0 _ _ _ hg
  have f1 : w.cell? ⟨g, 1, none⟩ = some (.int .i64 (e0 : Nat)) := cell_of_row _ _ 1 _ _ _ hg
  have hn := hbs.1
  simp only at hn hlen
  subst hn
  have HQ : Hid (stDone (zs, e0) = (decide (e0 = 0) && decide (zs.length = 0))) := Lib.hid rfl
  clear hbs hg
  by_cases h0 : e0 = 0
  · subst h0
    by_cases h1 : zs.length = 0
    · have HC := Lib.hid h1
      have d1 : ((zs.length : Int) == 0) = true := by rw [h1]; rfl
      go_enter Tryd.func56, Tryd.ntmps56
      go_wp2_with fail
      go_ret
      exact ⟨by rw [HQ.out, HC.out]; rfl, rfl⟩
    · have HC := Lib.hid h1
      have d1 : ((zs.length : Int) == 0) = false := by simp; intro e; exact h1 (by rw [e]; rfl)
      go_enter Tryd.func56, Tryd.ntmps56
      go_wp2_with fail
      go_ret
      exact ⟨by rw [HQ.out, decide_eq_false HC.out]; rfl, rfl⟩
  · have HC := Lib.hid h0
    have d1 : (((e0 : Nat) : Int) == 0) = false := by simp; omega
    go_enter Tryd.func56, Tryd.ntmps56
    go_wp2_with fail
    go_ret
    exact ⟨by rw [HQ.out, decide_eq_false HC.out]; rfl, rfl⟩
end Go.Proofs.YtkgdogccnkjcgaaDoor
