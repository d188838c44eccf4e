/-
  WALK of the reference's relax. (Filled in from a template of this repo.)
-/
import Derived.Test.YthoehobofdeifaaRSm
import Derived.Test.YthoehobofdeifaaCirE
import Derived.Test.YthoehobofdeifaaCirAb
namespace Go.Proofs.Ythoehobofdeifaa
open Go.ChangeShapes Go.WideShapes Go.ChangeAt Go.RowKit
set_option linter.unusedVariables false

/-- the worlds of relax's loop -/
structure RI (N : Nw) (gd go : Nat) (w0 : World) (E : Ds) (w : World) : Prop where
  d : IRow w gd N.V E.d
  o : IRow w go N.V E.o
  kp : Kp [gd, go] w0 w
theorem RI.more {N : Nw} {gd go : Nat} {w0 w w' : World} {E : Ds} (h : RI N gd go w0 E w) (hb : Below w.heap.size w w') : RI N gd go w0 E w' :=
  ⟨VRow.below h.d hb h.d.lt, VRow.below h.o hb h.o.lt, h.kp.trans (Kp.of_below hb)⟩
theorem RI.put {N : Nw} {gd go : Nat} {w0 w : World} {E : Ds} (h : RI N gd go w0 E w) (hne : gd ≠ go) (s : Sp) (x : Int) (hx : x = E.d (N.beg s) + N.sc s) (y : Int) (hy : y = s.code) (v : Nat) (hv : N.fin s = v) : RI N gd go w0 (E.put N s) ((w.setCell ⟨gd, v, none⟩ (.int .i64 x)).setCell ⟨go, v, none⟩ (.int .i64 y)) := by
  subst hx hy hv
  refine ⟨?_, ?_, (h.kp.setCell _ _ (.inl (by simp))).setCell _ _ (.inl (by simp))⟩
  · have := VRow.set h.d (N.fin s) (.int .i64 (E.d (N.beg s) + N.sc s)) (fun j => .int .i64 ((E.put N s).d j)) (by show Value.int .i64 (upd _ _ _ _) = _; rw [upd_same]) (fun j _ hj => by show Value.int .i64 (upd _ _ _ _) = _; rw [upd_other _ _ hj])
    exact this.keep (heap_setCell_other _ ⟨go, _, none⟩ gd _ hne)
  · have h1 : IRow (w.setCell ⟨gd, N.fin s, none⟩ (.int .i64 (E.d (N.beg s) + N.sc s))) go N.V E.o := h.o.keep (heap_setCell_other _ ⟨gd, _, none⟩ go _ hne.symm)
    exact VRow.set h1 (N.fin s) (.int .i64 s.code) (fun j => .int .i64 ((E.put N s).o j)) (by show Value.int .i64 (upd _ _ _ _) = _; rw [upd_same]) (fun j _ hj => by show Value.int .i64 (upd _ _ _ _) = _; rw [upd_other _ _ hj])
theorem can_fw {N : Nw} {f : Nat → Int} {E : Ds} {i : Nat} : E.can N f ⟨i, true⟩ ↔ f i < N.up i ∧ E.d (N.fr i) < 1125899906842624 ∧ E.d (N.fr i) + N.c i < E.d (N.to i) := by
  unfold Ds.can
  show 0 < N.up i - f i ∧ E.d (N.fr i) < rfar ∧ E.d (N.fr i) + N.c i < E.d (N.to i) ↔ _
  unfold rfar
  constructor <;> rintro ⟨h1, h2, h3⟩ <;> exact ⟨by omega, h2, h3⟩
theorem can_bw {N : Nw} {f : Nat → Int} {E : Ds} {i : Nat} : E.can N f ⟨i, false⟩ ↔ N.lo i < f i ∧ E.d (N.to i) < 1125899906842624 ∧ E.d (N.to i) - N.c i < E.d (N.fr i) := by
  unfold Ds.can
  show 0 < f i - N.lo i ∧ E.d (N.to i) < rfar ∧ E.d (N.to i) + -N.c i < E.d (N.fr i) ↔ _
  unfold rfar
  constructor <;> rintro ⟨h1, h2, h3⟩ <;> exact ⟨by omega, h2, by omega⟩
theorem imp_true {N : Nw} {f : Nat → Int} {D : Ds} {s : Sp} {y : Bool} (hy : y = true ↔ D.can N f s) (h : y = true) : D.imp N f s = D.put N s := Ds.imp_yes (hy.1 h)
theorem imp_false {N : Nw} {f : Nat → Int} {D : Ds} {s : Sp} {y : Bool} (hy : y = true ↔ D.can N f s) (h : y = false) : D.imp N f s = D := Ds.imp_no (fun hc => by rw [hy.2 hc] at h; cases h)
set_option maxRecDepth 100000 in
set_option maxHeartbeats 8000000 in
theorem Rrelax_any (N : Nw) (hv : N.valid) (a : Option Addr) (ca : Nat) (la : Option Addr) (lc : Nat) (f : Nat → Int) (hbd : N.bd f) (gd go cd co : Nat) (hne : gd ≠ go) (d o : Nat → Int) (hdb : ∀ v, v < N.V → -1000000000000 ≤ d v ∧ d v ≤ rfar) (w : World)
    (hA : ∀ w', Kp [gd, go] w w' → Arcs w' a N) (hF : ∀ w', Kp [gd, go] w w' → Rd w' la N.m f) (hd : IRow w gd N.V d) (ho : IRow w go N.V o) :
    Calls Try.prog 44 #[N.val a ca, .slice la N.m lc, .slice (some ⟨gd, 0, none⟩) N.V cd, .slice (some ⟨go, 0, none⟩) N.V co] w
      fun e w' => e = .returned (.bool (rx N f ⟨d, o, false⟩ N.m).b) ∧ IRow w' gd N.V (rx N f ⟨d, o, false⟩ N.m).d ∧ IRow w' go N.V (rx N f ⟨d, o, false⟩ N.m).o ∧ Kp [gd, go] w w' := by
  have hV2 := hv.V2
  have hm2 := hv.m2
  have HV := Lib.hid hv
  have HBD := Lib.hid hbd
  have HDB : Hid (∀ k, k ≤ N.m → ∀ v, v < N.V → -(1000000000000 + 2000 * (k : Int)) ≤ (rx N f ⟨d, o, false⟩ k).d v ∧ (rx N f ⟨d, o, false⟩ k).d v ≤ rfar) := Lib.hid (rx_bd hv (f := f) (D := ⟨d, o, false⟩) (L := 1000000000000) hdb)
  have hgn : gd ≠ w.heap.size ∧ go ≠ w.heap.size := ⟨by have := hd.lt; omega, by have := ho.lt; omega⟩
  have hb0 : Below w.heap.size w (w.alloc (.cells #[.int .i64 (N.V : Int), .slice a N.m ca] 25)) := (Below.refl _ _).alloc (Nat.le_refl _) _
  have h0 : RI N gd go (w.alloc (.cells #[.int .i64 (N.V : Int), .slice a N.m ca] 25)) ⟨d, o, false⟩ (w.alloc (.cells #[.int .i64 (N.V : Int), .slice a N.m ca] 25)) := ⟨VRow.below hd hb0 hd.lt, VRow.below ho hb0 ho.lt, Kp.refl _ _⟩
  have HK0 : Hid (Kp [gd, go] w (w.alloc (.cells #[.int .i64 (N.V : Int), .slice a N.m ca] 25))) := Lib.hid (Kp.of_below hb0)
  have HN : Hid (∀ W, Kp [gd, go] (w.alloc (.cells #[.int .i64 (N.V : Int), .slice a N.m ca] 25)) W → Arcs W a N ∧ Rd W la N.m f ∧ W.cell? ⟨w.heap.size, 1, none⟩ = some (.slice a N.m ca)) := Lib.hid (fun W hW =>
    ⟨hA W ((Kp.of_below hb0).trans hW), hF W ((Kp.of_below hb0).trans hW), hW.cell (cell_mk _ _ _ rfl rfl) (by simp; omega)⟩)
  have HI0 := Lib.hid h0
  have HNE := Lib.hid hne
  have HGN := Lib.hid hgn
  clear hv hbd hdb hA hF hd ho hb0 h0 hgn hne
  obtain ⟨D0, hD0⟩ : ∃ D0 : Ds, D0 = ⟨d, o, false⟩ := ⟨_, rfl⟩
  rw [← hD0] at HDB HI0 ⊢
  have hb0 : D0.b = false := by rw [hD0]
  have HB0 := Lib.hid hb0
  clear hb0 hD0
  go_enter Try.func44, Try.ntmps44
  go_wp2_with fail
  generalize (w.alloc (.cells #[.int .i64 (N.V : Int), .slice a N.m ca] 25)) = w1 at *
  generalize w.heap.size = gn at *
  go_loopw [9, 10] (fun v9 v10 wr => ∃ (i : Nat) (z : Bool), i ≤ N.m ∧ v10 = .int .i64 i ∧ v9 = .bool z ∧ Hid (RI N gd go w1 (rx N f D0 i) wr ∧ (rx N f D0 i).b = z)) (fun _ v _ => N.m - (intOf v).toNat)
  case atStart => exact ⟨0, false, by omega, rfl, rfl, Lib.hid ⟨HI0.out, HB0.out⟩⟩
  case round =>
    obtain ⟨i, z, hi, rfl, rfl, HR⟩ := hrel
    by_cases hlt : i < N.m
    · obtain ⟨hAr, hRd, hcn⟩ := HN.out _ HR.out.1.kp
      obtain ⟨b, off, rfl, hb, k0, k1, k2, k3, k4⟩ := hAr i hlt
      have hnl := block_lt_of_cell hcn
      have HS1 : Hid (RI N gd go w1 (rx N f D0 i) (wr.alloc (.cells #[.int .i64 (N.fr i : Int), .int .i64 (N.to i : Int), .int .i64 (N.lo i), .int .i64 (N.up i), .int .i64 (N.c i)] 46)) ∧ ArcAt (wr.alloc (.cells #[.int .i64 (N.fr i : Int), .int .i64 (N.to i : Int), .int .i64 (N.lo i), .int .i64 (N.up i), .int .i64 (N.c i)] 46)) wr.heap.size N i) := Lib.hid ⟨HR.out.1.more ((Below.refl _ _).alloc (Nat.le_refl _) _), ⟨cell_mk _ _ _ rfl rfl, cell_mk _ _ _ rfl rfl, cell_mk _ _ _ rfl rfl, cell_mk _ _ _ rfl rfl, cell_mk _ _ _ rfl rfl⟩⟩
      have HGA : Hid (gd ≠ wr.heap.size ∧ go ≠ wr.heap.size) := Lib.hid ⟨by have := HR.out.1.d.lt; omega, by have := HR.out.1.o.lt; omega⟩
      have HBZ := Lib.hid HR.out.2
      clear hRd
      go_upto_region 6 with fail
      generalize (wr.alloc (.cells #[.int .i64 (N.fr i : Int), .int .i64 (N.to i : Int), .int .i64 (N.lo i), .int .i64 (N.up i), .int .i64 (N.c i)] 46)) = wB at *
      generalize wr.heap.size = ga at *
      clear k0 k1 k2 k3 k4 hb hcn hnl HR hAr
      clear wr
      obtain ⟨E, hE⟩ : ∃ E, rx N f D0 i = E := ⟨_, rfl⟩
      have HB1 : Hid (∀ v, v < N.V → -1000004801000 ≤ E.d v ∧ E.d v ≤ rfar) := Lib.hid (fun v hv => by have := HDB.out i hi v hv; rw [hE] at this; omega)
      have HEQ := Lib.hid hE
      rw [hE] at HS1 HBZ
      have H1 := HS1
      have HBZ1 := HBZ
      clear HS1 HBZ HDB hE
      go_cut [53] from 23 to 53 (fun c wx => ∃ y : Bool, c = .bool y ∧ Hid ((y = true ↔ E.can N f ⟨i, true⟩) ∧ RI N gd go w1 E wx ∧ ArcAt wx ga N i))
      case first =>
        obtain ⟨a0, a1, a2, a3, a4⟩ := H1.out.2
        have hal := block_lt_of_cell a0
        obtain ⟨b2, off2, rfl, hb2, p0⟩ := (HN.out _ H1.out.1.kp).2.1 i hlt
        have q1 := H1.out.1.d.cell (N.fr i) (by have := HV.out.ok i hlt; omega)
        have q2 := H1.out.1.d.cell (N.to i) (by have := HV.out.ok i hlt; omega)
        have q3 := H1.out.1.d.lt
        have e1 := HB1.out (N.fr i) (by have := HV.out.ok i hlt; omega)
        have e2 := HB1.out (N.to i) (by have := HV.out.ok i hlt; omega)
        have e3 := HV.out.c i hlt
        have e4 := HV.out.ok i hlt
        have e5 := HBD.out i hlt
        have e6 := HV.out.lo i hlt
        have HNEW : Hid (∀ W, Below wB.heap.size wB W → RI N gd go w1 E W ∧ ArcAt W ga N i) := Lib.hid (fun W hW => ⟨H1.out.1.more hW, H1.out.2.kp (X := []) (Kp.of_below hW) (by simp)⟩)
        have HCAN : Hid (E.can N f ⟨i, true⟩ ↔ _) := Lib.hid can_fw
        have hga := HGA.out.1
        have hgb := HGA.out.1.symm
        obtain ⟨x1, hx1⟩ : ∃ x, E.d (N.fr i) = x := ⟨_, rfl⟩
        obtain ⟨x2, hx2⟩ : ∃ x, E.d (N.to i) = x := ⟨_, rfl⟩
        rw [hx1] at q1 e1 HCAN
        rw [hx2] at q2 e2 HCAN
        clear hx1 hx2
        clear H1 HB1
        generalize f i = fi at *
        generalize N.up i = up at *
        generalize N.lo i = lo at *
        generalize N.c i = ci at *
        generalize N.fr i = fr at *
        generalize N.to i = tt at *
        obtain ⟨e11, e12⟩ := e1
        obtain ⟨e21, e22⟩ := e2
        obtain ⟨e31, e32⟩ := e3
        obtain ⟨e41, e42⟩ := e4
        obtain ⟨e51, e52⟩ := e5
        obtain ⟨e61, e62, e63⟩ := e6
        unfold rfar at e12 e22
        by_cases c1 : fi < up
        · by_cases c2 : x1 < 1125899906842624
          · have HF : Hid (decide (x1 + ci < x2) = true ↔ E.can N f ⟨i, true⟩) := Lib.hid (Iff.trans ⟨fun h => ⟨c1, c2, by simpa using h⟩, fun h => by simpa using h.2.2⟩ HCAN.out.symm)
            clear HCAN
            go_quiet (fail)
            go_wp2_with fail
            go_meet
            exact ⟨_, rfl, Lib.hid ⟨HF.out, HNEW.out _ (below_drewN (Below.refl _ _) _)⟩⟩
          · have d2 : decide (x1 < 1125899906842624) = false := by simpa using c2
            have HF : Hid (false = true ↔ E.can N f ⟨i, true⟩) := Lib.hid ⟨fun h => (by cases h), fun h => absurd (HCAN.out.1 h).2.1 c2⟩
            clear HCAN
            go_quiet (fail)
            go_wp2_with fail
            go_meet
            exact ⟨_, rfl, Lib.hid ⟨HF.out, HNEW.out _ (below_drewN (Below.refl _ _) _)⟩⟩
        · have d1 : decide (fi < up) = false := by simpa using c1
          have HF : Hid (false = true ↔ E.can N f ⟨i, true⟩) := Lib.hid ⟨fun h => (by cases h), fun h => absurd (HCAN.out.1 h).1 c1⟩
          clear HCAN
          go_quiet (fail)
          go_wp2_with fail
          go_meet
          exact ⟨_, rfl, Lib.hid ⟨HF.out, HNEW.out _ (below_drewN (Below.refl _ _) _)⟩⟩
      case rest =>
        obtain ⟨y, rfl, HC⟩ := hcut
        clear H1
        go_upto_if 53 with fail
        go_cut [9] from 54 to 71 (fun v9 wx => ∃ z1 : Bool, v9 = .bool z1 ∧ Hid (RI N gd go w1 (E.imp N f ⟨i, true⟩) wx ∧ ArcAt wx ga N i ∧ (E.imp N f ⟨i, true⟩).b = z1))
        case first =>
          cases y
          · go_wp2_with fail
            go_meet
            exact ⟨_, rfl, Lib.hid ⟨by rw [imp_false HC.out.1 rfl]; exact HC.out.2.1, HC.out.2.2, by rw [imp_false HC.out.1 rfl]; exact HBZ1.out⟩⟩
          · obtain ⟨a0, a1, a2, a3, a4⟩ := HC.out.2.2
            have hal := block_lt_of_cell a0
            obtain ⟨e41, e42⟩ := HV.out.ok i hlt
            have q1 := HC.out.2.1.d.cell (N.fr i) (by omega)
            have q2 := HC.out.2.1.d.frozen (N.to i)
            have q3 := HC.out.2.1.d.lt
            have r1 := HC.out.2.1.o.frozen (N.to i)
            have r3 := HC.out.2.1.o.lt
            have q5 := HC.out.2.1.d.cell (N.to i) (by omega)
            have r5 := HC.out.2.1.o.cell (N.to i) (by omega)
            have HPUT := Lib.hid (HC.out.2.1.put HNE.out ⟨i, true⟩)
            obtain ⟨e11, e12⟩ := HB1.out (N.fr i) (by omega)
            obtain ⟨e31, e32⟩ := HV.out.c i hlt
            unfold rfar at e12
            have n1 := HGA.out.1
            have n2 := HGA.out.2
            have n3 := n1.symm
            have n4 := n2.symm
            have n5 := HNE.out
            have n6 := n5.symm
            have HCD : Hid (∀ (u v : Value) (fn : Nat), ArcAt (((wc.setCell ⟨gd, fn, none⟩ u).setCell ⟨go, fn, none⟩ v).drew) ga N i) := Lib.hid (fun u v fn => HC.out.2.2.kp (X := [gd, go]) (((Kp.refl _ _).setCell _ _ (.inl (by simp))).setCell _ _ (.inl (by simp))).drew (by have := HGA.out; simp; omega))
            obtain ⟨x1, hx1⟩ : ∃ x, E.d (N.fr i) = x := ⟨_, rfl⟩
            rw [hx1] at q1 e11 e12
            generalize E.d (N.to i) = xd at q5
            generalize E.o (N.to i) = xo at r5
            have HX1 := Lib.hid hx1
            have HY : Hid ((E.can N f ⟨i, true⟩)) := Lib.hid (HC.out.1.1 rfl)
            clear hx1 HC
            obtain ⟨fb, hfb⟩ : ∃ x, N.fr i = x := ⟨_, rfl⟩
            obtain ⟨ff, hff⟩ : ∃ x, N.to i = x := ⟨_, rfl⟩
            obtain ⟨ci, hci⟩ : ∃ x, N.c i = x := ⟨_, rfl⟩
            rw [hfb] at a0 q1 e41
            rw [hff] at a1 q2 q5 r5 r1 e42
            rw [hci] at a4 e31 e32
            have HFB := Lib.hid hfb
            have HFF := Lib.hid hff
            have HCI := Lib.hid hci
            have j1 : (0 : Int) ≤ (fb : Int) := by omega
            have j2 : (fb : Int) < (N.V : Int) := by omega
            have j3 : (0 : Int) ≤ (ff : Int) := by omega
            have j4 : (ff : Int) < (N.V : Int) := by omega
            clear hfb hff hci
            go_wp2_with fail
            go_region
            all_goals
              go_wp2_with fail
              go_meet
              refine ⟨true, rfl, Lib.hid ⟨?_, HCD.out _ _ _, by rw [Ds.imp_yes HY.out]; rfl⟩⟩
              rw [Ds.imp_yes HY.out]
              exact (HPUT.out (x1 + ci) (by have e1 : N.beg ⟨i, true⟩ = fb := HFB.out; have e2 : N.sc ⟨i, true⟩ = ci := HCI.out; rw [e2, ← HX1.out]; rfl) ((i : Int) + 1) rfl ff (by have e1 : N.fin ⟨i, true⟩ = ff := HFF.out; exact e1)).more (Below.refl _ _).drew
        case rest =>
          obtain ⟨z1, rfl, HE1⟩ := hcut
          obtain ⟨E1, hE1⟩ : ∃ x, E.imp N f ⟨i, true⟩ = x := ⟨_, rfl⟩
          have HB2 : Hid (∀ v, v < N.V → -1000004802000 ≤ E1.d v ∧ E1.d v ≤ rfar) := Lib.hid (fun v hv => by
            have := imp_bd HV.out (f := f) (D := E) (s := ⟨i, true⟩) hlt (L := 1000004801000) (fun v hv => by have := HB1.out v hv; omega) v hv
            rw [hE1] at this
            omega)
          rw [hE1] at HE1
          have H2 : Hid (RI N gd go w1 E1 wc ∧ ArcAt wc ga N i) := Lib.hid ⟨HE1.out.1, HE1.out.2.1⟩
          have HBZ2 : Hid (E1.b = z1) := Lib.hid HE1.out.2.2
          have HEQ1 := Lib.hid hE1
          clear hE1 HE1 HB1 HBZ1
          generalize wc = wd at *
          go_upto_region 8 with fail
          go_cut [102] from 72 to 102 (fun c wx => ∃ y : Bool, c = .bool y ∧ Hid ((y = true ↔ E1.can N f ⟨i, false⟩) ∧ RI N gd go w1 E1 wx ∧ ArcAt wx ga N i))
          case first =>
            obtain ⟨a0, a1, a2, a3, a4⟩ := H2.out.2
            have hal := block_lt_of_cell a0
            obtain ⟨b2, off2, rfl, hb2, p0⟩ := (HN.out _ H2.out.1.kp).2.1 i hlt
            have q1 := H2.out.1.d.cell (N.to i) (by have := HV.out.ok i hlt; omega)
            have q2 := H2.out.1.d.cell (N.fr i) (by have := HV.out.ok i hlt; omega)
            have q3 := H2.out.1.d.lt
            have e1 := HB2.out (N.to i) (by have := HV.out.ok i hlt; omega)
            have e2 := HB2.out (N.fr i) (by have := HV.out.ok i hlt; omega)
            have e3 := HV.out.c i hlt
            have e4 := HV.out.ok i hlt
            have e5 := HBD.out i hlt
            have e6 := HV.out.lo i hlt
            have HNEW : Hid (∀ W, Below wd.heap.size wd W → RI N gd go w1 E1 W ∧ ArcAt W ga N i) := Lib.hid (fun W hW => ⟨H2.out.1.more hW, H2.out.2.kp (X := []) (Kp.of_below hW) (by simp)⟩)
            have HCAN : Hid (E1.can N f ⟨i, false⟩ ↔ _) := Lib.hid can_bw
            have hga := HGA.out.1
            have hgb := HGA.out.1.symm
            obtain ⟨x1, hx1⟩ : ∃ x, E1.d (N.to i) = x := ⟨_, rfl⟩
            obtain ⟨x2, hx2⟩ : ∃ x, E1.d (N.fr i) = x := ⟨_, rfl⟩
            rw [hx1] at q1 e1 HCAN
            rw [hx2] at q2 e2 HCAN
            clear hx1 hx2
            clear H2 HB2
            generalize f i = fi at *
            generalize N.up i = up at *
            generalize N.lo i = lo at *
            generalize N.c i = ci at *
            generalize N.fr i = fr at *
            generalize N.to i = tt at *
            obtain ⟨e11, e12⟩ := e1
            obtain ⟨e21, e22⟩ := e2
            obtain ⟨e31, e32⟩ := e3
            obtain ⟨e41, e42⟩ := e4
            obtain ⟨e51, e52⟩ := e5
            obtain ⟨e61, e62, e63⟩ := e6
            unfold rfar at e12 e22
            by_cases c1 : lo < fi
            · by_cases c2 : x1 < 1125899906842624
              · have HF : Hid (decide (x1 - ci < x2) = true ↔ E1.can N f ⟨i, false⟩) := Lib.hid (Iff.trans ⟨fun h => ⟨c1, c2, by simpa using h⟩, fun h => by simpa using h.2.2⟩ HCAN.out.symm)
                clear HCAN
                go_quiet (fail)
                go_wp2_with fail
                go_meet
                exact ⟨_, rfl, Lib.hid ⟨HF.out, HNEW.out _ (below_drewN (Below.refl _ _) _)⟩⟩
              · have d2 : decide (x1 < 1125899906842624) = false := by simpa using c2
                have HF : Hid (false = true ↔ E1.can N f ⟨i, false⟩) := Lib.hid ⟨fun h => (by cases h), fun h => absurd (HCAN.out.1 h).2.1 c2⟩
                clear HCAN
                go_quiet (fail)
                go_wp2_with fail
                go_meet
                exact ⟨_, rfl, Lib.hid ⟨HF.out, HNEW.out _ (below_drewN (Below.refl _ _) _)⟩⟩
            · have d1 : decide (lo < fi) = false := by simpa using c1
              have HF : Hid (false = true ↔ E1.can N f ⟨i, false⟩) := Lib.hid ⟨fun h => (by cases h), fun h => absurd (HCAN.out.1 h).1 c1⟩
              clear HCAN
              go_quiet (fail)
              go_wp2_with fail
              go_meet
              exact ⟨_, rfl, Lib.hid ⟨HF.out, HNEW.out _ (below_drewN (Below.refl _ _) _)⟩⟩
          case rest =>
            obtain ⟨y, rfl, HC⟩ := hcut
            clear H2
            have HRX : Hid (rx N f D0 (i + 1) = E1.imp N f ⟨i, false⟩) := Lib.hid (by show ((rx N f D0 i).imp N f ⟨i, true⟩).imp N f ⟨i, false⟩ = _; rw [HEQ.out, HEQ1.out])
            · cases y
              · go_wp2_with fail
                go_roundw
                case rel => exact ⟨i + 1, _, by omega, by go_num, rfl, Lib.hid (by rw [HRX.out, imp_false HC.out.1 rfl]; exact ⟨HC.out.2.1, HBZ2.out⟩)⟩
                case measure => simp [intOf]; omega
              · obtain ⟨a0, a1, a2, a3, a4⟩ := HC.out.2.2
                have hal := block_lt_of_cell a0
                obtain ⟨e41, e42⟩ := HV.out.ok i hlt
                have q1 := HC.out.2.1.d.cell (N.to i) (by omega)
                have q2 := HC.out.2.1.d.frozen (N.fr i)
                have q3 := HC.out.2.1.d.lt
                have r1 := HC.out.2.1.o.frozen (N.fr i)
                have r3 := HC.out.2.1.o.lt
                have q5 := HC.out.2.1.d.cell (N.fr i) (by omega)
                have r5 := HC.out.2.1.o.cell (N.fr i) (by omega)
                have HPUT := Lib.hid (HC.out.2.1.put HNE.out ⟨i, false⟩)
                obtain ⟨e11, e12⟩ := HB2.out (N.to i) (by omega)
                obtain ⟨e31, e32⟩ := HV.out.c i hlt
                unfold rfar at e12
                have n1 := HGA.out.1
                have n2 := HGA.out.2
                have n3 := n1.symm
                have n4 := n2.symm
                have n5 := HNE.out
                have n6 := n5.symm
                have HCD : Hid (∀ (u v : Value) (fn : Nat), ArcAt (((wc.setCell ⟨gd, fn, none⟩ u).setCell ⟨go, fn, none⟩ v).drew) ga N i) := Lib.hid (fun u v fn => HC.out.2.2.kp (X := [gd, go]) (((Kp.refl _ _).setCell _ _ (.inl (by simp))).setCell _ _ (.inl (by simp))).drew (by have := HGA.out; simp; omega))
                obtain ⟨x1, hx1⟩ : ∃ x, E1.d (N.to i) = x := ⟨_, rfl⟩
                rw [hx1] at q1 e11 e12
                generalize E1.d (N.fr i) = xd at q5
                generalize E1.o (N.fr i) = xo at r5
                have HX1 := Lib.hid hx1
                have HY : Hid ((E1.can N f ⟨i, false⟩)) := Lib.hid (HC.out.1.1 rfl)
                clear hx1 HC
                obtain ⟨fb, hfb⟩ : ∃ x, N.to i = x := ⟨_, rfl⟩
                obtain ⟨ff, hff⟩ : ∃ x, N.fr i = x := ⟨_, rfl⟩
                obtain ⟨ci, hci⟩ : ∃ x, N.c i = x := ⟨_, rfl⟩
                rw [hfb] at a1 q1 e42
                rw [hff] at a0 q2 q5 r5 r1 e41
                rw [hci] at a4 e31 e32
                have HFB := Lib.hid hfb
                have HFF := Lib.hid hff
                have HCI := Lib.hid hci
                have j1 : (0 : Int) ≤ (fb : Int) := by omega
                have j2 : (fb : Int) < (N.V : Int) := by omega
                have j3 : (0 : Int) ≤ (ff : Int) := by omega
                have j4 : (ff : Int) < (N.V : Int) := by omega
                clear hfb hff hci
                go_wp2_with fail
                go_region
                all_goals
                  go_wp2_with fail
                  go_roundw
                  case rel => exact ⟨i + 1, _, by omega, by go_num, rfl, Lib.hid (by rw [HRX.out, Ds.imp_yes HY.out]; exact ⟨(HPUT.out (x1 - ci) (by show x1 - ci = E1.d (N.to i) + -N.c i; rw [HX1.out, HCI.out]; omega) (-(i : Int) - 1) rfl ff (by have e1 : N.fin ⟨i, false⟩ = ff := HFF.out; exact e1)).more (Below.refl _ _).drew, rfl⟩)⟩
                  case measure => simp [intOf]; omega
    · obtain rfl : i = N.m := by omega
      obtain ⟨hd, ho, hk⟩ := HR.out.1
      have HFIN : Hid (∀ n, IRow (wr.drewN n) gd N.V (rx N f D0 N.m).d ∧ IRow (wr.drewN n) go N.V (rx N f D0 N.m).o ∧ Kp [gd, go] w (wr.drewN n)) := Lib.hid (fun n => ⟨hd, ho, (HK0.out.trans hk).drewN n⟩)
      have HZ := Lib.hid HR.out.2
      clear hd ho hk HR HDB
      go_wp2_with fail
      go_ret
      exact ⟨by rw [HZ.out]; rfl, HFIN.out 0⟩
end Go.Proofs.Ythoehobofdeifaa
