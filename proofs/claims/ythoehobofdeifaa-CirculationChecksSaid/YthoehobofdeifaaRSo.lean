/-
  WALK of the reference's Solve. (Filled in from a template of this repo.)
-/
import Derived.Test.YthoehobofdeifaaRCh
import Derived.Test.YthoehobofdeifaaRPo
import Derived.Test.YthoehobofdeifaaRLe
import Derived.Test.YthoehobofdeifaaCirS2
namespace Go.Proofs.Ythoehobofdeifaa
open Go.ChangeShapes Go.WideShapes Go.ChangeAt Go.RowKit
set_option linter.unusedVariables false

/-- the worlds of Solve's loop -/
structure SW (N : Nw) (a : Option Addr) (ca gn gf gp : Nat) (w0 : World) (f p : Nat → Int) (w : World) : Prop where
  below : Below w0.heap.size w0 w
  f : IRow w gf N.m f
  p : IRow w gp N.V p
  n0 : w.cell? ⟨gn, 0, none⟩ = some (.int .i64 (N.V : Int))
  n1 : w.cell? ⟨gn, 1, none⟩ = some (.slice a N.m ca)
  lo : w0.heap.size ≤ gf
  ne : gp ≠ gf ∧ gn ≠ gf
theorem SW.more {N : Nw} {a : Option Addr} {ca gn gf gp : Nat} {w0 w w' : World} {f p : Nat → Int} (h : SW N a ca gn gf gp w0 f p w) (hb : Below w.heap.size w w') : SW N a ca gn gf gp w0 f p w' :=
  ⟨h.below.trans (hb.mono h.below.size), VRow.below h.f hb h.f.lt, VRow.below h.p hb h.p.lt, (hb.cell (p := ⟨gn, 0, none⟩) (block_lt_of_cell h.n0)).trans h.n0, (hb.cell (p := ⟨gn, 1, none⟩) (block_lt_of_cell h.n1)).trans h.n1, h.lo, h.ne⟩
theorem SW.kpf {N : Nw} {a : Option Addr} {ca gn gf gp : Nat} {w0 w w' : World} {f f' p : Nat → Int} (h : SW N a ca gn gf gp w0 f p w) (hk : Kp [gf] w w') (hf : IRow w' gf N.m f') : SW N a ca gn gf gp w0 f' p w' :=
  ⟨h.below.trans (hk.to_below h.below.size (by have := h.lo; simp; omega)), hf, VRow.kp h.p hk (by have := h.ne; simp; omega), hk.cell h.n0 (by have := h.ne; simp; omega), hk.cell h.n1 (by have := h.ne; simp; omega), h.lo, h.ne⟩
set_option maxRecDepth 100000 in
set_option maxHeartbeats 4000000 in
theorem RSolve_core (N : Nw) (hv : N.valid) (a : Option Addr) (ca : Nat) (w : World) (h : Arcs w a N)
    (hok : ∀ w', Below w.heap.size w w' → Calls Try.prog 16 #[N.val a ca] w' fun e w'' => e = .returned (.bool true) ∧ Below w'.heap.size w' w'')
    (hpt : ∀ (w' : World) (la : Option Addr) (lc : Nat) (x : Nat → Int), Below w.heap.size w w' → N.circ x → (∃ p, N.fits p x) → Rd w' la N.m x → Calls Try.prog 27 #[N.val a ca, .slice la N.m lc] w' fun e w'' => Below w'.heap.size w' w'' ∧ ∃ (g : Nat) (d : Nat → Int), e = .returned (.tuple #[.slice (some ⟨g, 0, none⟩) N.V N.V, .int .i64 0]) ∧ IRow w'' g N.V d ∧ w'.heap.size ≤ g ∧ Pd N x d) :
    Calls Try.prog 22 #[N.val a ca] w (CorePost N w) := by
  have hV2 := hv.V2
  have hm2 := hv.m2
  have HV := Lib.hid hv
  have HA := Lib.hid h
  have HOK := Lib.hid hok
  have HPT := Lib.hid hpt
  have hb0 : Below w.heap.size w (w.alloc (.cells #[.int .i64 (N.V : Int), .slice a N.m ca] 25)) := (Below.refl _ _).alloc (Nat.le_refl _) _
  have HB0 := Lib.hid hb0
  have hc0 : (w.alloc (.cells #[.int .i64 (N.V : Int), .slice a N.m ca] 25)).cell? ⟨w.heap.size, 0, none⟩ = some (.int .i64 (N.V : Int)) := cell_mk _ _ _ rfl rfl
  have hc1 : (w.alloc (.cells #[.int .i64 (N.V : Int), .slice a N.m ca] 25)).cell? ⟨w.heap.size, 1, none⟩ = some (.slice a N.m ca) := cell_mk _ _ _ rfl rfl
  have HC : Hid (∀ W, Below (w.alloc (.cells #[.int .i64 (N.V : Int), .slice a N.m ca] 25)).heap.size (w.alloc (.cells #[.int .i64 (N.V : Int), .slice a N.m ca] 25)) W → W.cell? ⟨w.heap.size, 0, none⟩ = some (.int .i64 (N.V : Int)) ∧ W.cell? ⟨w.heap.size, 1, none⟩ = some (.slice a N.m ca)) := Lib.hid (fun W hW => ⟨(hW.cell (p := ⟨w.heap.size, 0, none⟩) (by simp)).trans hc0, (hW.cell (p := ⟨w.heap.size, 1, none⟩) (by simp)).trans hc1⟩)
  have HFAR : Hid (∀ g, w.heap.size ≤ g → 0 < N.m → ∀ x, a = some x → x.block ∉ [g]) := Lib.hid (fun g hg h0 x hx => by
    obtain ⟨b, off, e1, hb, _⟩ := h 0 h0
    rw [hx] at e1; injection e1 with e1
    subst e1
    have : b < w.heap.size := hb
    simp; omega)
  clear h hb0 hc0 hc1 hv hok hpt
  go_enter Try.func22, Try.ntmps22
  go_wp2_with fail
  refine (HOK.out _ HB0.out).mono ?_
  rintro e w1 ⟨rfl, hb1⟩
  have HB1 := Lib.hid (HB0.out.trans (hb1.mono HB0.out.size))
  have HB01 := Lib.hid hb1
  clear hb1
  obtain ⟨c0, c1⟩ := HC.out _ HB01.out
  have cl : w.heap.size < w1.heap.size := block_lt_of_cell c0
  go_wp2_with fail
  refine (Rcheapest_any N HV.out a ca _ (HA.out.below HB1.out)).mono ?_
  rintro e w2 ⟨hb2, he⟩
  have HB2 := Lib.hid (HB1.out.trans (hb2.mono HB1.out.size))
  have HB02 := Lib.hid (HB01.out.trans (hb2.mono HB01.out.size))
  clear hb2 c0 c1 cl
  obtain ⟨c0, c1⟩ := HC.out _ HB02.out
  have cl : w.heap.size < w2.heap.size := block_lt_of_cell c0
  rcases he with ⟨rfl, hn⟩ | ⟨gf, f, rfl, hf2, hgf, hci, hfit⟩
  · have HN := Lib.hid hn
    clear hn
    go_wp2_with fail
    go_ret2
    exact ⟨HB2.out, .inl ⟨rfl, HN.out⟩⟩
  · have HF2 := Lib.hid hf2
    have HGF : Hid (w1.heap.size ≤ gf) := Lib.hid hgf
    have HCI := Lib.hid hci
    have HFIT := Lib.hid hfit
    clear hf2 hgf hci hfit
    go_wp2_with fail
    refine (HPT.out _ (some ⟨gf, 0, none⟩) N.m f HB2.out HCI.out HFIT.out (Rd.of_row HF2.out)).mono ?_
    rintro e w3 ⟨hb3, gp, d, rfl, hd3, hgp, hpd⟩
    have HPD := Lib.hid hpd
    have HW3 : Hid (SW N a ca w.heap.size gf gp w f d w3) := Lib.hid (by
      obtain ⟨d0, d1⟩ := HC.out _ (HB02.out.trans (hb3.mono HB02.out.size))
      have h1 := HGF.out
      have h2 := HB1.out.size
      have h3 := HF2.out.lt
      have h4 := (HC.out _ HB01.out).1
      have h5 : w.heap.size < w1.heap.size := block_lt_of_cell h4
      exact ⟨HB2.out.trans (hb3.mono HB2.out.size), VRow.below HF2.out hb3 HF2.out.lt, hd3, d0, d1, by omega, by omega⟩)
    clear hb3 hd3 hgp hpd c0 c1 cl HB02 HB01 HB2 HC HF2
    obtain ⟨gn, hgn⟩ : ∃ gn, w.heap.size = gn := ⟨_, rfl⟩
    have HPB : Hid (∀ v, v < N.V → -1000000000 ≤ d v ∧ d v ≤ 1000000000) := Lib.hid (fun v hv => by have := HPD.out.lo HV.out hv; omega)
    rw [hgn] at HW3 ⊢
    clear hgn
    go_wp2_with fail
    go_loopw [8] (fun v8 wr => ∃ (i : Nat) (f1 : Nat → Int), i ≤ N.m ∧ v8 = .int .i64 i ∧ Hid (Lx N (z0p N d) f i f1) ∧ Hid (SW N a ca gn gf gp w f1 d wr)) (fun v _ => N.m - (intOf v).toNat)
    case atStart => exact ⟨0, f, by omega, rfl, Lib.hid (Lx.start _ HCI.out), HW3⟩
    case round =>
      obtain ⟨i, f1, hi, rfl, HLX, HW⟩ := hrel
      clear HW3
      have n0 := HW.out.n0
      have n1 := HW.out.n1
      have nl := block_lt_of_cell n0
      by_cases hlt : i < N.m
      · obtain ⟨b, off, rfl, hb, k0, k1, k2, k3, k4⟩ := HA.out.below HW.out.below i hlt
        obtain ⟨hfV, htV⟩ := HV.out.ok i hlt
        have p0 := HW.out.p.cell (N.fr i) hfV
        have p1 := HW.out.p.cell (N.to i) htV
        have p2 := HW.out.p.lt
        obtain ⟨pb1, pb2⟩ := HPB.out (N.fr i) hfV
        obtain ⟨pb3, pb4⟩ := HPB.out (N.to i) htV
        obtain ⟨cb1, cb2⟩ := HV.out.c i hlt
        have HPR : Hid (N.price d i = N.c i + d (N.fr i) - d (N.to i)) := Lib.hid rfl
        have HWN : Hid (∀ n, SW N (some ⟨b, off, none⟩) ca gn gf gp w f1 d (wr.drewN n)) := Lib.hid (fun n => HW.out.more (below_drewN (Below.refl _ _) n))
        by_cases hpz : N.c i + d (N.fr i) - d (N.to i) = 0
        · have dpz : (N.c i + d (N.fr i) - d (N.to i) == 0) = true := by simpa using hpz
          have HZF : Hid (z0p N d i = false) := Lib.hid (by
            cases hq : z0p N d i
            · rfl
            · have := (z0p_iff N d i).1 hq; rw [HPR.out] at this; exact absurd hpz this)
          generalize N.c i = ci at *
          generalize d (N.fr i) = pf at *
          generalize d (N.to i) = pt at *
          clear hpz
          go_wp2_with fail
          go_quiet (fail)
          have HW4 := Lib.hid (HWN.out nq)
          obtain ⟨w4, hw4⟩ : ∃ w4, wr.drewN nq = w4 := ⟨_, rfl⟩
          rw [hw4] at HW4 ⊢
          clear hw4 dpz n0 n1 nl hb k0 k1 k2 k3 k4 p0 p1 p2 HW
          have n0 := HW4.out.n0
          have n1 := HW4.out.n1
          have nl := block_lt_of_cell n0
          go_wp2_with fail
          refine (Rlessen_any N HV.out (some ⟨b, off, none⟩) ca gf N.m gp N.V f1 d HLX.out.circ HPB.out i hlt _ (HA.out.below HW4.out.below) HW4.out.f HW4.out.p HW4.out.ne.1 (HFAR.out gf HW4.out.lo)).mono ?_
          rintro e w5 ⟨rfl, hk5, f2, hf2, hles⟩
          have HW5 := Lib.hid (HW4.out.kpf hk5 hf2)
          have HLX2 := Lib.hid (HLX.out.step hlt hles HZF.out)
          clear hk5 hf2 hles n0 n1 nl
          go_wp2_with fail
          go_roundw
          case rel => exact ⟨i + 1, f2, by omega, by go_num, HLX2, HW5⟩
          case measure => simp [intOf]; omega
        · have dpz : (N.c i + d (N.fr i) - d (N.to i) == 0) = false := by simpa using hpz
          have HLX2 := Lib.hid (HLX.out.skip ((z0p_iff N d i).2 (by rw [HPR.out]; exact hpz)))
          generalize N.c i = ci at *
          generalize d (N.fr i) = pf at *
          generalize d (N.to i) = pt at *
          clear hpz
          go_wp2_with fail
          go_quiet (fail)
          clear dpz
          go_wp2_with fail
          go_roundw
          case rel => exact ⟨i + 1, f1, by omega, by go_num, HLX2, Lib.hid (HWN.out _)⟩
          case measure => simp [intOf]; omega
      · obtain rfl : i = N.m := by omega
        go_wp2_with fail
        go_ret2
        exact ⟨HW.out.below, .inr ⟨gf, f1, rfl, HW.out.f, HW.out.lo, d, f, z0p N d, HPD.out.fits, HCI.out, fun i hi => z0p_iff N d i, HLX.out⟩⟩
set_option maxHeartbeats 4000000 in
theorem RSolve_any (R : Rw) (a : Option Addr) (ca : Nat) (hm : R.m ≤ 9223372036854775806) (w : World) (h : RA w a R.m R.A) :
    Calls Try.prog 22 #[R.val a ca] w (SolvePost R w) := by
  by_cases hg : R.good
  · rw [Rw.val_eq hg]
    refine (RSolve_core R.nw (Rw.valid hg) a ca w (RA.arcs hg h) (fun w' hb => ?_) (fun w' la lc x hb hc hfit hx => ?_)).mono ?_
    · have := RValid_any R a ca hm w' (h.below hb)
      rw [Rw.val_eq hg, Rw.okB_true hg] at this
      exact this
    · have h1 := RPotentials_any R a ca hm la R.m lc x hm w' (h.below hb) hx
      rw [Rw.val_eq hg] at h1
      refine h1.mono ?_
      rintro e w'' ⟨hb2, hh⟩
      refine ⟨hb2, ?_⟩
      have hfe : R.feas R.m x = true := Rw.feas_true ⟨hg, rfl, hc⟩
      rcases hh with ⟨h1, _⟩ | ⟨_, h1, _⟩ | ⟨_, h1, _⟩ | ⟨_, h1⟩
      · exact absurd hg h1
      · rw [hfe] at h1; cases h1
      · exact absurd hfit h1
      · exact h1
    · rintro e w' ⟨hb, he⟩
      refine ⟨hb, .inr ?_⟩
      rcases he with ⟨rfl, hn⟩ | ⟨gf, f, rfl, h1, h2, h3⟩
      · exact .inl ⟨hg, rfl, hn⟩
      · exact .inr ⟨hg, gf, f, rfl, h1, h2, h3⟩
  · have H := Lib.hid h
    have HG := Lib.hid hg
    have hb0 : Below w.heap.size w (w.alloc (.cells #[.int .i64 R.V, .slice a R.m ca] 25)) := (Below.refl _ _).alloc (Nat.le_refl _) _
    have HB0 := Lib.hid hb0
    clear h hb0 hg
    go_enter Try.func22, Try.ntmps22
    go_wp2_with fail
    refine (RValid_any R a ca hm _ (H.out.below HB0.out)).mono ?_
    rintro e w1 ⟨rfl, hb1⟩
    rw [Rw.okB_false HG.out]
    have HB1 := Lib.hid (HB0.out.trans (hb1.mono HB0.out.size))
    clear hb1
    go_wp2_with fail
    go_ret2
    exact ⟨HB1.out, .inl ⟨HG.out, rfl⟩⟩
end Go.Proofs.Ythoehobofdeifaa
