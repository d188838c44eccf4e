/-
  WALK of the reference's reader: unary. (Filled in from a template of this repo.)
-/
import Derived.Test.YtlbjdglgnkajnaaDoorQsC
namespace Go.Proofs.YtlbjdglgnkajnaaDoor
open Go.ChangeShapes Go.WideShapes Go.ChangeAt Go.RowKit
set_option linter.unusedVariables false
set_option linter.unusedSimpArgs false

theorem un_sign {rest : List Tk} {o : Int} (h : opF false rest [([45], 1), ([33], 2)] = some o) : 0 < o ∧ (∀ x r, Ps .un rest.tail (.ok x r) → Ps .un rest (.ok (nd 5 o 0 (lnOf rest) [] x) r)) ∧ (∀ r, Ps .un rest.tail (.bad r) → Ps .un rest (.bad r)) := by
  simp only [opF, Bool.not_false, Bool.true_and] at h
  split at h
  · rename_i h1
    injection h with h
    subst h
    exact ⟨by omega, fun x r k => Ps.un_neg h1 k, fun r k => Ps.un_neg_bad h1 k⟩
  · rename_i h1
    have h1 : isT [45] rest = false := by simpa using h1
    split at h
    · rename_i h2
      injection h with h
      subst h
      exact ⟨by omega, fun x r k => Ps.un_not h1 h2 k, fun r k => Ps.un_not_bad h1 h2 k⟩
    · cases h
theorem un_none {rest : List Tk} (h : opF false rest [([45], 1), ([33], 2)] = none) : ∀ y, Ps .ca rest y → Ps .un rest y := by
  simp only [opF, Bool.not_false, Bool.true_and] at h
  split at h
  · cases h
  · rename_i h1
    split at h
    · cases h
    · rename_i h2
      exact fun y k => Ps.un_ca (by simpa using h1) (by simpa using h2) k
section
variable {K : PC} {w wx w7 : World} {gR : Nat} {lv lvc : Lv} {at_ : Nat} {bad : Bool} {rest : List Tk} {h : Hd} {a : Option Addr} {n c : Nat} {bad2 bad7 : Bool} {at2 at7 : Nat} {r r7 : List Tk}
/-- what a callee leaves is the result -/
theorem RS.up (M : RS K w wx at2 bad2 r) (R : Lc wx gR zhd (.slice none 0 0)) (b1 : w.heap.size ≤ gR) (hp7 : RAt w7 K at7 bad7 r7) (hle7 : r7.length ≤ r.length) (hg7 : wx.grownBy w7 (some K.g))
    (hres : (bad2 = false ∧ bad7 = false ∧ ∃ ar, Ps lvc r (.ok (one1 h ar) r7) ∧ ArgsAt w7 (fun b => wx.heap.size ≤ b) ar (.slice a n c) ∧ r7.length < r.length) ∨ (bad2 = false ∧ bad7 = true ∧ Ps lvc r (.bad r7)) ∨ (bad2 = true ∧ bad7 = true ∧ at7 = at2 ∧ r7 = r))
    (hle : r.length ≤ rest.length) (hok : bad2 = false → bad = false ∧ ∀ y, Ps lvc r y → Ps lv rest y) (hbad : bad2 = true → bad = true ∧ at2 = at_ ∧ r = rest) :
    EQ K lv at_ bad rest w (.returned (exv h (.slice a n c))) (set6 w7 gR (.int .i64 h.k) (.int .i64 h.op) (.int .i64 h.v) (.int .i64 h.ln) (.string (st h.nm)) (.slice a n c)) ∧
    Lc (set6 w7 gR (.int .i64 h.k) (.int .i64 h.op) (.int .i64 h.v) (.int .i64 h.ln) (.string (st h.nm)) (.slice a n c)) gR h (.slice a n c) := by
  have hgl := M.gl
  have hlr := R.lt
  have hms := (M.call hp7 hg7).s6 b1 (.int .i64 h.k) (.int .i64 h.op) (.int .i64 h.v) (.int .i64 h.ln) (.string (st h.nm)) (.slice a n c)
  refine ⟨⟨h, a, n, c, bad7, at7, r7, rfl, hms.pat, by omega, hms.gr, Lib.hid ?_⟩, (R.gr hg7 (by omega)).s6 h (.slice a n c)⟩
  rcases hres with ⟨h1, h2, ar, h3, h4, h5⟩ | ⟨h1, h2, h3⟩ | ⟨h1, h2, h3, h4⟩
  · exact .inl ⟨(hok h1).1, h2, ar, (hok h1).2 _ h3, args_mono (args_s6 h4 (fun b hb => by omega)) (fun b hb _ => by have := M.gr.size; omega), by omega⟩
  · exact .inr (.inl ⟨(hok h1).1, h2, (hok h1).2 _ h3⟩)
  · obtain ⟨e1, e2, e3⟩ := hbad h1
    exact .inr (.inr ⟨e1, h2, by omega, by rw [h4, e3]⟩)
/-- one operand in a new row is the result -/
theorem RS.one {k op ln : Int} {nm : Bt} (M : RS K w wx at2 false r) (R : Lc wx gR zhd (.slice none 0 0)) (b1 : w.heap.size ≤ gR) (hp7 : RAt w7 K at7 bad7 r7) (hle7 : r7.length ≤ r.length) (hg7 : wx.grownBy w7 (some K.g))
    (hres : (false = false ∧ bad7 = false ∧ ∃ ar, Ps lvc r (.ok (one1 h ar) r7) ∧ ArgsAt w7 (fun b => wx.heap.size ≤ b) ar (.slice a n c) ∧ r7.length < r.length) ∨ (false = false ∧ bad7 = true ∧ Ps lvc r (.bad r7)) ∨ (false = true ∧ bad7 = true ∧ at7 = at2 ∧ r7 = r))
    (hle : r.length < rest.length) (hok : ∀ ar, Ps lvc r (.ok (one1 h ar) r7) → Ps lv rest (.ok (nd k op 0 ln nm (one1 h ar)) r7)) (hbad : Ps lvc r (.bad r7) → Ps lv rest (.bad r7)) :
    ∀ W, W = (set6 w7 gR (.int .i64 k) (.int .i64 op) (.int .i64 0) (.int .i64 ln) (.string (st nm)) (.slice (some ⟨w7.heap.size, 0, none⟩) 1 1)).alloc (.cells #[.int .i64 h.k, .int .i64 h.op, .int .i64 h.v, .int .i64 h.ln, .string (st h.nm), .slice a n c] 31) →
      EQ K lv at_ false rest w (.returned (exv ⟨k, op, 0, ln, nm⟩ (.slice (some ⟨w7.heap.size, 0, none⟩) 1 1))) W ∧ Lc W gR ⟨k, op, 0, ln, nm⟩ (.slice (some ⟨w7.heap.size, 0, none⟩) 1 1) := by
  intro W hW
  have hgl := M.gl
  have hlr := R.lt
  have R7 := R.gr hg7 (by omega)
  rw [← set6_alloc _ R7.lt] at hW
  have hA := R7.al (.cells #[.int .i64 h.k, .int .i64 h.op, .int .i64 h.v, .int .i64 h.ln, .string (st h.nm), .slice a n c] 31)
  subst hW
  have hms := ((M.call hp7 hg7).al (.cells #[.int .i64 h.k, .int .i64 h.op, .int .i64 h.v, .int .i64 h.ln, .string (st h.nm), .slice a n c] 31)).s6 b1 (.int .i64 k) (.int .i64 op) (.int .i64 0) (.int .i64 ln) (.string (st nm)) (.slice (some ⟨w7.heap.size, 0, none⟩) 1 1)
  refine ⟨⟨⟨k, op, 0, ln, nm⟩, some ⟨w7.heap.size, 0, none⟩, 1, 1, bad7, at7, r7, rfl, hms.pat, by omega, hms.gr, Lib.hid ?_⟩, hA.s6 ⟨k, op, 0, ln, nm⟩ _⟩
  have hs7 := hg7.size
  have hsw := M.gr.size
  rcases hres with ⟨h1, h2, ar, h3, h4, h5⟩ | ⟨h1, h2, h3⟩ | ⟨h1, _⟩
  · refine .inl ⟨rfl, h2, one1 h ar, hok ar h3, ?_, by omega⟩
    exact args_mono (args_s6 (one_made (Q := fun b => w.heap.size ≤ b ∧ b ≠ gR) h4 (fun b hb _ => ⟨by omega, by omega⟩) ⟨by omega, by have := R7.lt; omega⟩) (fun b hb => hb.2)) (fun b hb _ => hb.1)
  · exact .inr (.inl ⟨rfl, h2, hbad h3⟩)
  · cases h1
end
set_option maxRecDepth 100000 in
set_option maxHeartbeats 8000000 in
theorem runary_step (m : Nat) (hC : CQ 115 .ca m) (hU : ∀ j, j < m → CQ 105 .un j) : CQ 105 .un m := by
  intro K at_ bad rest w hP hm
  have HM1 := Lib.hid ((RS.init hP).al zex)
  have HR1 := Lib.hid (Lc.zero w)
  have HC := Lib.hid hC
  have HMm := Lib.hid hm
  have HRT : Hid (rest.tail.length < rest.length) := Lib.hid (by obtain ⟨x, r, e⟩ := hP.en.cons; rw [e]; simp)
  have HU : Hid (bad = false → ∀ (w2 : World), RAt w2 K (at_ + 1) false rest.tail → Calls Tryd.prog 105 #[.pointer (some ⟨K.g, 0, none⟩)] w2 (EQ K .un (at_ + 1) false rest.tail w2)) := Lib.hid (fun hb w2 hp => hU rest.tail.length (by subst hb; have h3 : rest.length ≤ m := hm; have := HRT.out; omega) K (at_ + 1) false rest.tail w2 hp (Nat.le_refl _))
  clear hC hU hP hm
  go_enter Tryd.func105, Tryd.ntmps105
  go_upto_region 1 with fail
  obtain ⟨w1, hw1⟩ : ∃ W, w.alloc zex = W := ⟨_, rfl⟩
  obtain ⟨gR, hgR⟩ : ∃ x, w.heap.size = x := ⟨_, rfl⟩
  (try rw [show w.alloc (.cells #[.int .i64 0, .int .i64 0, .int .i64 0, .int .i64 0, .string { data := #[] }, .slice none 0 0] 31) = w1 from hw1])
  rw [hw1] at HM1 HR1
  rw [hgR] at HR1
  (try rw [hgR])
  have HGR := Lib.hid hgR
  clear hw1 hgR
  have hsg := Sgn.new w1 [([45], 1), ([33], 2)] 9 3
  have HBB := Lib.hid ((below_alloc w1 (.cells #[.string { data := #[45] }, .string { data := #[33] }] 9)).alloc (by simp) (.cells #[.int .i64 1, .int .i64 2] 3))
  have HRO := Lib.hid (roperator_any K at_ bad rest [([45], 1), ([33], 2)] w1.heap.size (w1.heap.size + 1) _ (HM1.out.be HBB.out).pat hsg (by decide) ⟨by have := HM1.out.pat.glt; omega, by have := HM1.out.pat.glt; omega⟩)
  clear hsg
  go_wp2_with fail
  refine HRO.out.mono ?_
  rintro e w4 ⟨at4, r4, hp4, hg4, hc⟩
  have HM4 := Lib.hid ((HM1.out.be HBB.out).call hp4 hg4)
  have HR4 := Lib.hid ((HR1.out.be HBB.out).gr hg4 (by have := HM1.out.gl; have := HGR.out; omega))
  clear hp4 hg4 HRO HBB HM1 HR1
  rcases hc with ⟨o, ho, rfl, rfl, hk, rfl, rfl⟩ | ⟨ho, rfl, rfl, rfl⟩
  · have HT := Lib.hid (un_sign ho)
    have ho3 : 0 < o := HT.out.1
    have dop : decide (0 < o) = true := decide_eq_true ho3
    obtain ⟨tn, htn⟩ : ∃ x, lnOf rest = x := ⟨_, rfl⟩
    have HLN := Lib.hid htn
    (try rw [htn])
    clear ho hk htn
    go_wp2_with fail
    refine (HU.out (by first | rfl | trivial) w4 HM4.out.pat).mono ?_
    rintro e w7 ⟨h, a, n, c, bad7, at7, r7, rfl, hp7, hle7, hg7, hres7⟩
    have HFIN := Lib.hid (RS.one (lv := .un) (at_ := at_) (rest := rest) (k := 5) (op := o) (ln := tn) (nm := []) HM4.out HR4.out (by have := HGR.out; omega) hp7 hle7 hg7 hres7.out HRT.out (fun ar k => by have := HT.out.2.1 _ _ k; rw [HLN.out] at this; exact this) (fun k => HT.out.2.2 _ k))
    have HR7 := Lib.hid (HR4.out.gr hg7 (by have := HM4.out.gl; have := HGR.out; omega))
    clear hres7 hp7 hg7 hle7
    obtain ⟨u0, u1, u2, u3, u4, u5⟩ := HR7.out.cells
    obtain ⟨k0, k1, k2, k3, k4, k5⟩ := HR7.out.froz
    have hlR7 := HR7.out.lt
    go_wp2_with fail
    obtain ⟨wz, hwz⟩ : ∃ W, (set6 w7 gR (.int .i64 5) (.int .i64 o) (.int .i64 0) (.int .i64 tn) (.string { data := #[] }) (.slice (some ⟨w7.heap.size, 0, none⟩) 1 1)).alloc (.cells #[.int .i64 h.k, .int .i64 h.op, .int .i64 h.v, .int .i64 h.ln, .string (st h.nm), .slice a n c] 31) = W := ⟨_, rfl⟩
    have hwz2 := hwz
    unfold set6 at hwz2
    (try rw [hwz2])
    obtain ⟨hep, hd⟩ := HFIN.out wz hwz.symm
    obtain ⟨d0, d1, d2, d3, d4, d5⟩ := hd.cells
    refine bodyPost_ret (v := exv ⟨5, o, 0, tn, []⟩ (.slice (some ⟨w7.heap.size, 0, none⟩) 1 1)) (by simp [results, Tryd.results105, go_sem, d0, d1, d2, d3, d4, d5]) rfl ?_
    exact hep
  · have HN : Hid (bad = false → ∀ y, Ps .ca r4 y → Ps .un r4 y) := Lib.hid (fun hb => by subst hb; exact un_none ho)
    clear ho
    go_wp2_with fail
    refine (HC.out K at4 bad r4 w4 HM4.out.pat HMm.out).mono ?_
    rintro e w7 ⟨h, a, n, c, bad7, at7, r7, rfl, hp7, hle7, hg7, hres7⟩
    have HF := Lib.hid (RS.up (lv := .un) (at_ := at4) (bad := bad) (rest := r4) HM4.out HR4.out (by have := HGR.out; omega) hp7 hle7 hg7 hres7.out (Nat.le_refl _) (fun hb => ⟨hb, HN.out hb⟩) (fun hb => ⟨hb, rfl, rfl⟩))
    have HR7 := Lib.hid (HR4.out.gr hg7 (by have := HM4.out.gl; have := HGR.out; omega))
    clear hres7 hp7 hg7 hle7
    obtain ⟨u0, u1, u2, u3, u4, u5⟩ := HR7.out.cells
    obtain ⟨k0, k1, k2, k3, k4, k5⟩ := HR7.out.froz
    have hlR7 := HR7.out.lt
    go_wp2_with fail
    obtain ⟨wz, hwz⟩ : ∃ W, set6 w7 gR (.int .i64 h.k) (.int .i64 h.op) (.int .i64 h.v) (.int .i64 h.ln) (.string (st h.nm)) (.slice a n c) = W := ⟨_, rfl⟩
    have hwz2 := hwz
    unfold set6 at hwz2
    (try rw [hwz2])
    rw [hwz] at HF
    obtain ⟨d0, d1, d2, d3, d4, d5⟩ := HF.out.2.cells
    refine bodyPost_ret (v := exv h (.slice a n c)) (by simp [results, Tryd.results105, go_sem, d0, d1, d2, d3, d4, d5]) rfl ?_
    exact HF.out.1
end Go.Proofs.YtlbjdglgnkajnaaDoor
