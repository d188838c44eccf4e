/-
  WALK of the reference's Potentials. (Filled in from a template of this repo.)
-/
import Derived.Test.YthoehobofdeifaaRPoP
import Derived.Test.YthoehobofdeifaaRCw
import Derived.Test.YthoehobofdeifaaRFeb
namespace Go.Proofs.Ythoehobofdeifaa
open Go.ChangeShapes Go.WideShapes Go.ChangeAt Go.RowKit
set_option linter.unusedVariables false

/-- what Potentials leaves -/
def PtPost (R : Rw) (n : Nat) (x : Nat → Int) (w : World) (e : Ending) (w' : World) : Prop := Below w.heap.size w w' ∧
  ((¬ R.good ∧ e = .returned (.tuple #[.slice none 0 0, .int .i64 30])) ∨
   (R.good ∧ R.feas n x = false ∧ e = .returned (.tuple #[.slice none 0 0, .int .i64 31])) ∨
   (R.feas n x = true ∧ (¬ ∃ p, R.nw.fits p x) ∧ e = .returned (.tuple #[.slice none 0 0, .int .i64 32])) ∨
   (R.feas n x = true ∧ ∃ (g : Nat) (d : Nat → Int), e = .returned (.tuple #[.slice (some ⟨g, 0, none⟩) R.nw.V R.nw.V, .int .i64 0]) ∧ IRow w' g R.nw.V d ∧ w.heap.size ≤ g ∧ Pd R.nw x d))
/-- the worlds of Potentials -/
structure PW (N : Nw) (a : Option Addr) (ca gn gd go : Nat) (w0 : World) (d o : Nat → Int) (w : World) : Prop where
  below : Below w0.heap.size w0 w
  d : IRow w gd N.V d
  o : IRow w go N.V o
  n0 : w.cell? ⟨gn, 0, none⟩ = some (.int .i64 (N.V : Int))
  n1 : w.cell? ⟨gn, 1, none⟩ = some (.slice a N.m ca)
  lo : w0.heap.size ≤ gn ∧ w0.heap.size ≤ gd ∧ w0.heap.size ≤ go
  ne : gn ≠ gd ∧ gn ≠ go ∧ gd ≠ go
theorem PW.more {N : Nw} {a : Option Addr} {ca gn gd go : Nat} {w0 w w' : World} {d o : Nat → Int} (h : PW N a ca gn gd go w0 d o w) (hb : Below w.heap.size w w') : PW N a ca gn gd go w0 d o w' :=
  ⟨h.below.trans (hb.mono h.below.size), VRow.below h.d hb h.d.lt, VRow.below h.o hb h.o.lt, (hb.cell (p := ⟨gn, 0, none⟩) (block_lt_of_cell h.n0)).trans h.n0, (hb.cell (p := ⟨gn, 1, none⟩) (block_lt_of_cell h.n1)).trans h.n1, h.lo, h.ne⟩
theorem PW.kpd {N : Nw} {a : Option Addr} {ca gn gd go : Nat} {w0 w w' : World} {d o d' o' : Nat → Int} (h : PW N a ca gn gd go w0 d o w) (hk : Kp [gd, go] w w') (hd : IRow w' gd N.V d') (ho : IRow w' go N.V o') : PW N a ca gn gd go w0 d' o' w' :=
  ⟨h.below.trans (hk.to_below h.below.size (by have := h.lo; simp; omega)), hd, ho, hk.cell h.n0 (by have := h.ne; simp; omega), hk.cell h.n1 (by have := h.ne; simp; omega), h.lo, h.ne⟩
set_option maxRecDepth 100000 in
set_option maxHeartbeats 4000000 in
theorem RPotentials_any (R : Rw) (a : Option Addr) (ca : Nat) (hm : R.m ≤ 9223372036854775806) (la : Option Addr) (n lc : Nat) (x : Nat → Int) (hn : n ≤ 9223372036854775806) (w : World) (h : RA w a R.m R.A) (hx : Rd w la n x) :
    Calls Try.prog 27 #[R.val a ca, .slice la n lc] w (PtPost R n x w) := by
  have hb0 : Below w.heap.size w (w.alloc (.cells #[.int .i64 R.V, .slice a R.m ca] 25)) := (Below.refl _ _).alloc (Nat.le_refl _) _
  have H := Lib.hid h
  have HX := Lib.hid hx
  have HB0 := Lib.hid hb0
  have hc0 : (w.alloc (.cells #[.int .i64 R.V, .slice a R.m ca] 25)).cell? ⟨w.heap.size, 0, none⟩ = some (.int .i64 R.V) := cell_mk _ _ _ rfl rfl
  have hc1 : (w.alloc (.cells #[.int .i64 R.V, .slice a R.m ca] 25)).cell? ⟨w.heap.size, 1, none⟩ = some (.slice a R.m ca) := cell_mk _ _ _ rfl rfl
  have HC : Hid (∀ W, Below (w.alloc (.cells #[.int .i64 R.V, .slice a R.m ca] 25)).heap.size (w.alloc (.cells #[.int .i64 R.V, .slice a R.m ca] 25)) W → W.cell? ⟨w.heap.size, 0, none⟩ = some (.int .i64 R.V) ∧ W.cell? ⟨w.heap.size, 1, none⟩ = some (.slice a R.m ca)) := Lib.hid (fun W hW => ⟨(hW.cell (p := ⟨w.heap.size, 0, none⟩) (by simp)).trans hc0, (hW.cell (p := ⟨w.heap.size, 1, none⟩) (by simp)).trans hc1⟩)
  clear h hx hb0 hc0 hc1
  by_cases hg : R.good
  · have HG := Lib.hid hg
    have hV := Rw.VI hg
    have HV := Lib.hid (Rw.valid hg)
    cases hf : R.feas n x
    · have HF := Lib.hid hf
      clear hg hf hV
      go_enter Try.func27, Try.ntmps27
      go_wp2_with fail
      refine (RValid_any R a ca hm _ (H.out.below HB0.out)).mono ?_
      rintro e w1 ⟨rfl, hb1⟩
      rw [Rw.okB_true HG.out]
      obtain ⟨c0, c1⟩ := HC.out _ hb1
      have HB1 := Lib.hid (HB0.out.trans (hb1.mono HB0.out.size))
      have cl := block_lt_of_cell c0
      clear hb1
      go_wp2_with fail
      refine (RFeasible_any R a ca hm la n lc x hn _ (H.out.below HB1.out) (HX.out.below HB1.out)).mono ?_
      rintro e w2 ⟨rfl, hb2⟩
      rw [HF.out]
      have HB2 := Lib.hid (HB1.out.trans (hb2.mono HB1.out.size))
      clear hb2 c0 c1 cl
      go_wp2_with fail
      go_ret2
      exact ⟨HB2.out, .inr (.inl ⟨HG.out, HF.out, rfl⟩)⟩
    · obtain ⟨_, hnm, hci⟩ := (R.feas_iff n x).1 hf
      subst hnm
      have HF := Lib.hid hf
      have HA := Lib.hid (RA.arcs hg H.out)
      have HCI := Lib.hid hci
      have HPOST : Hid (∀ (w' : World) (e : Ending), Below w.heap.size w w' → ((¬ (∃ p, R.nw.fits p x) ∧ e = .returned (.tuple #[.slice none 0 0, .int .i64 32])) ∨ ∃ (g : Nat) (d : Nat → Int), e = .returned (.tuple #[.slice (some ⟨g, 0, none⟩) R.nw.V R.nw.V, .int .i64 0]) ∧ IRow w' g R.nw.V d ∧ w.heap.size ≤ g ∧ Pd R.nw x d) → PtPost R R.m x w e w') := Lib.hid (fun w' e hb hh => ⟨hb, by
        rcases hh with ⟨h1, h2⟩ | h1
        · exact .inr (.inr (.inl ⟨HF.out, h1, h2⟩))
        · exact .inr (.inr (.inr ⟨HF.out, h1⟩))⟩)
      have hval : R.val a ca = R.nw.val a ca := Rw.val_eq hg a ca
      have HVAL := Lib.hid hval
      have HVI := Lib.hid hV
      clear hg hf hci hval hV
      go_enter Try.func27, Try.ntmps27
      go_wp2_with fail
      refine (RValid_any R a ca hm _ (H.out.below HB0.out)).mono ?_
      rintro e w1 ⟨rfl, hb1⟩
      rw [Rw.okB_true HG.out]
      obtain ⟨c0, c1⟩ := HC.out _ hb1
      have HB1 := Lib.hid (HB0.out.trans (hb1.mono HB0.out.size))
      have HB01 := Lib.hid hb1
      have cl := block_lt_of_cell c0
      clear hb1
      go_wp2_with fail
      refine (RFeasible_any R a ca hm la R.m lc x hn _ (H.out.below HB1.out) (HX.out.below HB1.out)).mono ?_
      rintro e w2 ⟨rfl, hb2⟩
      rw [HF.out]
      have HB2 := Lib.hid (HB1.out.trans (hb2.mono HB1.out.size))
      have HB02 := Lib.hid (HB01.out.trans (hb2.mono HB01.out.size))
      clear hb2 c0 c1 cl
      obtain ⟨c0, c1⟩ := HC.out _ HB02.out
      have cl : w.heap.size < w2.heap.size := block_lt_of_cell c0
      obtain ⟨N, hN⟩ : ∃ N, R.nw = N := ⟨_, rfl⟩
      have hNm : N.m = R.m := by rw [← hN]; rfl
      rw [hN] at HA HV HCI HPOST HVI HVAL
      rw [HVI.out] at c0
      rw [← hNm] at HX c1 ⊢
      have HNM := Lib.hid hNm
      clear hNm
      have hV2 := HV.out.V2
      have mk1 := make_ints N.V (by omega)
      go_upto_region 5 with fail
      go_cut [6, 7] from 16 to 21 (fun v6 v7 wx => ∃ gd go : Nat, v6 = .slice (some ⟨gd, 0, none⟩) N.V N.V ∧ v7 = .slice (some ⟨go, 0, none⟩) N.V N.V ∧ Hid (PW N a ca w.heap.size gd go w (fun _ => 0) (fun _ => 0) wx))
      case first =>
        have HNW : Hid (∀ (o1 o2 : Obj), o1 = .cells (vrow N.V fun _ => .int .i64 0) 3 → o2 = .cells (vrow N.V fun _ => .int .i64 0) 3 → ∀ W, W = ((w2.alloc o1).alloc o2).drew → PW N a ca w.heap.size w2.heap.size (w2.heap.size + 1) w (fun _ => 0) (fun _ => 0) W ∧ PW N a ca w.heap.size (w2.heap.size + 1) w2.heap.size w (fun _ => 0) (fun _ => 0) W) := Lib.hid (fun o1 o2 e1 e2 W hW => by
          subst e1 e2
          have hb : Below w2.heap.size w2 W := by rw [hW]; exact (((Below.refl _ _).alloc (Nat.le_refl _) _).alloc (by simp) _).drew
          have r1 : IRow W w2.heap.size N.V (fun _ => 0) := by rw [hW]; exact VRow.keep (w := ((w2.alloc (.cells (vrow N.V fun _ => .int .i64 0) 3)).alloc (.cells (vrow N.V fun _ => .int .i64 0) 3))) ((VRow.new w2 _ _ _ rfl).alloc _) rfl
          have r2 : IRow W (w2.heap.size + 1) N.V (fun _ => 0) := by rw [hW]; exact VRow.keep (w := ((w2.alloc (.cells (vrow N.V fun _ => .int .i64 0) 3)).alloc (.cells (vrow N.V fun _ => .int .i64 0) 3))) (VRow.new _ _ _ _ (by simp)) rfl
          have hs := HB2.out.size
          have d0 := (hb.cell (p := ⟨w.heap.size, 0, none⟩) cl).trans c0
          have d1 := (hb.cell (p := ⟨w.heap.size, 1, none⟩) cl).trans c1
          exact ⟨⟨HB2.out.trans (hb.mono hs), r1, r2, d0, d1, by omega, by omega⟩, ⟨HB2.out.trans (hb.mono hs), r2, r1, d0, d1, by omega, by omega⟩⟩)
        go_region
        all_goals
          go_wp2
          go_meet
          first
            | exact ⟨_, _, rfl, rfl, Lib.hid (HNW.out _ _ rfl rfl _ rfl).1⟩
            | exact ⟨_, _, rfl, rfl, Lib.hid (HNW.out _ _ rfl rfl _ rfl).2⟩
            | (refine ⟨_, _, rfl, rfl, Lib.hid ?_⟩; simpa using (HNW.out _ _ rfl rfl _ rfl).1)
            | (refine ⟨_, _, rfl, rfl, Lib.hid ?_⟩; simpa using (HNW.out _ _ rfl rfl _ rfl).2)
      case rest =>
        obtain ⟨gd, go, rfl, rfl, HP⟩ := hcut
        clear c0 c1 mk1 HB02 HB01
        clear cl
        clear HB2
        clear hN
        clear w2
        go_wp2_with fail
        go_loopw [8] (fun v8 wr => ∃ (k : Nat) (d o : Nat → Int), k ≤ N.V + 1 ∧ v8 = .int .i64 k ∧ Hid (Pr N x k d) ∧ Hid (k = N.V + 1 → ¬ ∃ p, N.fits p x) ∧ Hid (PW N a ca w.heap.size gd go w d o wr)) (fun v _ => N.V + 1 - (intOf v).toNat)
        case atStart => exact ⟨0, fun _ => 0, fun _ => 0, by omega, rfl, Lib.hid (Pr.start x), Lib.hid (fun h => absurd h (by omega)), HP⟩
        case round =>
          obtain ⟨k, d, o, hk, rfl, HR, HE, HW⟩ := hrel
          have n0 := HW.out.n0
          have n1 := HW.out.n1
          have nl := block_lt_of_cell n0
          by_cases hlt : k < N.V + 1
          · have hkV : decide ((k : Int) ≤ (N.V : Int)) = true := by rw [decide_eq_true_iff]; omega
            go_wp2_with fail
            refine (Rrelax_any N HV.out a ca la lc x HCI.out.1 gd go N.V N.V HW.out.ne.2.2 d o (fun v hv => by have h1 := HR.out.lo v hv; have h2 := HR.out.le v; unfold rfar; omega) _ (fun w' hk' => HA.out.below (HW.out.below.trans (hk'.to_below HW.out.below.size (by have := HW.out.lo; simp; omega)))) (fun w' hk' => HX.out.below (HW.out.below.trans (hk'.to_below HW.out.below.size (by have := HW.out.lo; simp; omega)))) HW.out.d HW.out.o).mono ?_
            rintro e w5 ⟨rfl, hd5, ho5, hk5⟩
            have HW5 := Lib.hid (HW.out.kpd hk5 hd5 ho5)
            have HNX := Lib.hid (HR.out.step HV.out (o := o) (b := false))
            have HST := Lib.hid (HR.out.still HV.out (o := o))
            have HLA := Lib.hid (HR.out.last HV.out (o := o))
            clear hd5 ho5 hk5 n0 n1 nl hkV
            obtain ⟨D, hD⟩ : ∃ D, rx N x ⟨d, o, false⟩ N.m = D := ⟨_, rfl⟩
            rw [hD] at HW5 HNX HST HLA ⊢
            clear hD
            have n0 := HW5.out.n0
            have nl := block_lt_of_cell n0
            obtain ⟨z, hz⟩ : ∃ z, D.b = z := ⟨_, rfl⟩
            rw [hz] at HST HLA ⊢
            clear hz
            cases z
            · go_wp2_with fail
              go_ret2
              exact HPOST.out _ _ HW5.out.below (.inr ⟨gd, D.d, rfl, HW5.out.d, HW5.out.lo.2.1, HST.out (by first | rfl | trivial)⟩)
            · go_wp2_with fail
              go_roundw
              case rel => exact ⟨k + 1, D.d, D.o, by omega, by go_num, HNX, Lib.hid (fun h => HLA.out (by omega) (by first | rfl | trivial)), HW5⟩
              case measure => simp [intOf]; omega
          · obtain rfl : k = N.V + 1 := by omega
            have hkV : decide (((N.V + 1 : Nat) : Int) ≤ (N.V : Int)) = false := by rw [decide_eq_false_iff_not]; omega
            have HNO := Lib.hid (HE.out rfl)
            go_wp2_with fail
            go_ret2
            exact HPOST.out _ _ HW.out.below (.inl ⟨HNO.out, rfl⟩)
  · have HG := Lib.hid hg
    clear hg
    go_enter Try.func27, Try.ntmps27
    go_wp2_with fail
    refine (RValid_any R a ca hm _ (H.out.below HB0.out)).mono ?_
    rintro e w1 ⟨rfl, hb1⟩
    rw [Rw.okB_false HG.out]
    have HB1 := Lib.hid (HB0.out.trans (hb1.mono HB0.out.size))
    clear hb1
    go_wp2_with fail
    go_ret2
    exact ⟨HB1.out, .inl ⟨HG.out, rfl⟩⟩
end Go.Proofs.Ythoehobofdeifaa
