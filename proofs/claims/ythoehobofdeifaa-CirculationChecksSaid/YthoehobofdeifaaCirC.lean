/-
  WALK of circulation.search's balance. (Filled in from a template of this repo.)
-/
import Derived.Test.YthoehobofdeifaaCirN
import Derived.Test.YthoehobofdeifaaCirB
import Derived.Test.YthoehobofdeifaaCirI
namespace Go.Proofs.Ythoehobofdeifaa
open Go.ChangeShapes Go.WideShapes Go.ChangeAt Go.RowKit
set_option linter.unusedVariables false

/-- the nearest of the first i that have too little; -1 if there is none -/
def Mt (d x : Nat → Int) (i : Nat) (c : Int) : Prop := (c = -1 ∧ ∀ v, v < i → x v < 0 → far ≤ d v) ∨ (∃ u : Nat, c = (u : Int) ∧ u < i ∧ x u < 0 ∧ d u < far ∧ ∀ v, v < i → x v < 0 → d u ≤ d v)
theorem Mt.zero (d x : Nat → Int) : Mt d x 0 (-1) := .inl ⟨rfl, fun v hv => absurd hv (by omega)⟩
theorem Mt.skip {d x : Nat → Int} {i : Nat} {c : Int} (h : Mt d x i c) (hs : 0 ≤ x i ∨ far ≤ d i ∨ ∃ u : Nat, c = (u : Int) ∧ d u ≤ d i) : Mt d x (i + 1) c := by
  rcases h with ⟨rfl, h⟩ | ⟨u, rfl, hu, h1, h2, h3⟩
  · refine .inl ⟨rfl, fun v hv hx => ?_⟩
    by_cases e : v = i
    · subst e
      rcases hs with hs | hs | ⟨u, hu, _⟩
      · omega
      · exact hs
      · omega
    · exact h v (by omega) hx
  · refine .inr ⟨u, rfl, by omega, h1, h2, fun v hv hx => ?_⟩
    by_cases e : v = i
    · subst e
      rcases hs with hs | hs | ⟨u', hu', hs⟩
      · omega
      · omega
      · obtain rfl : u = u' := by omega
        exact hs
    · exact h3 v (by omega) hx
theorem Mt.take {d x : Nat → Int} {i : Nat} {c : Int} (h : Mt d x i c) (hx : x i < 0) (hd : d i < far) (hs : c = -1 ∨ ∃ u : Nat, c = (u : Int) ∧ d i < d u) : Mt d x (i + 1) (i : Int) := by
  refine .inr ⟨i, rfl, by omega, hx, hd, fun v hv hxv => ?_⟩
  by_cases e : v = i
  · subst e; exact Int.le_refl _
  · rcases h with ⟨rfl, h⟩ | ⟨u, rfl, hu, h1, h2, h3⟩
    · have := h v (by omega) hxv; omega
    · have := h3 v (by omega) hxv
      rcases hs with hs | ⟨u', hu', hs⟩
      · omega
      · obtain rfl : u = u' := by omega
        omega
/-- potentials, the first k of them shifted -/
def shf (p d : Nat → Int) (D : Int) (k : Nat) (v : Nat) : Int := if v < k then p v + min (d v) D else p v
theorem shf_lt (p d : Nat → Int) (D : Int) {k v : Nat} (h : v < k) : shf p d D k v = p v + min (d v) D := if_pos h
theorem shf_ge (p d : Nat → Int) (D : Int) {k v : Nat} (h : k ≤ v) : shf p d D k v = p v := if_neg (by omega)
/-- what balance leaves -/
def BalPost (N : Nw) (K : Lay) (ge : Nat) (w : World) (e : Ending) (w' : World) : Prop :=
  Kp [K.gf, K.gp, ge] w w' ∧
  ((e = .returned (.bool true) ∧ ∃ f p : Nat → Int, IRow w' K.gf N.m f ∧ IRow w' K.gp N.V p ∧ N.circ f ∧ N.fits p f ∧ ∀ v, v < N.V → 0 ≤ p v ∧ p v ≤ 300000000) ∨
   (e = .returned (.bool false) ∧ N.noc))
/-- the rows of balance -/
structure BR (N : Nw) (K : Lay) (ge : Nat) (w0 : World) (f p x : Nat → Int) (w : World) : Prop where
  kp : Kp [K.gf, K.gp, ge] w0 w
  f : IRow w K.gf N.m f
  p : IRow w K.gp N.V p
  x : IRow w ge N.V x
  z : BRow w K.gc N.m (fun _ => false)
theorem BR.below {N : Nw} {K : Lay} {ge : Nat} {w0 w w' : World} {f p x : Nat → Int} (h : BR N K ge w0 f p x w) (hb : Below w.heap.size w w') : BR N K ge w0 f p x w' :=
  ⟨h.kp.trans ((Kp.of_below (X := []) hb).mono (by simp)), VRow.below h.f hb h.f.lt, VRow.below h.p hb h.p.lt, VRow.below h.x hb h.x.lt, VRow.below h.z hb h.z.lt⟩
theorem Rd.row {w : World} {b n : Nat} {x : Nat → Int} (h : IRow w b n x) : Rd w (some ⟨b, 0, none⟩) n x := Rd.of_row h
set_option maxRecDepth 100000 in
set_option maxHeartbeats 4000000 in
theorem balance_any (N : Nw) (hv : N.valid) (K : Lay) (g ge : Nat) (f p x : Nat → Int) (hB : Bal N f p x) (w : World) (hS : ∀ w', Kp [K.gf, K.gp, ge] w w' → Srch w' g N K) (hne : ge ≠ K.gf ∧ ge ≠ K.gp ∧ ge ≠ K.gc)
    (hR : BR N K ge w f p x w) : Calls Try.prog 37 #[.pointer (some ⟨g, 0, none⟩), .slice (some ⟨ge, 0, none⟩) N.V N.V] w (BalPost N K ge w) := by
  have hV2 := hv.V2
  have HV := Lib.hid hv
  have HS := Lib.hid hS
  have HNE := Lib.hid hne
  have HB0 := Lib.hid hB
  have HR0 := Lib.hid hR
  clear hv hS hne hB hR
  go_enter Try.func37, Try.ntmps37
  go_wp2
  go_loopg [5] (tot N.V x).toNat (fun n v5 wr => ∃ (f p x : Nat → Int), n = (tot N.V x).toNat ∧ Hid (Bal N f p x) ∧ Hid (BR N K ge w f p x wr))
  case atStart => exact ⟨f, p, x, rfl, HB0, HR0⟩
  case round =>
    obtain ⟨f1, p1, x1, hgk, HB, HR⟩ := hrel
    have hgk' := Lib.hid hgk
    clear hgk HB0 HR0
    obtain ⟨w1, rfl⟩ : ∃ w1 : World, w1 = wr := ⟨_, rfl⟩
    go_wp2_with fail
    refine (Index_pos _ rfl (some ⟨ge, 0, none⟩) N.V N.V x1 (by omega) _ (Rd.row HR.out.x)).mono ?_
    rintro e w2 ⟨he, rfl⟩
    rcases he with ⟨rfl, h1⟩ | ⟨fm, hfm, rfl, h1, h2⟩
    · have HX : Hid (∀ v, v < N.V → x1 v ≤ 0) := Lib.hid (fun v hv => by have := h1 v hv; simpa using this)
      clear h1
      go_wp2_with fail
      go_ret
      exact ⟨HR.out.kp, .inl ⟨rfl, f1, p1, HR.out.f, HR.out.p, HB.out.done HV.out HX.out, HB.out.fit, fun v hv => HB.out.pots HV.out hv⟩⟩
    · have HX1 : Hid (0 < x1 fm) := Lib.hid (by simpa using h1)
      have HX2 : Hid (∀ v, v < fm → x1 v ≤ 0) := Lib.hid (fun v hv => by have := h2 v hv; simpa using this)
      clear h1 h2
      go_wp2_with fail
      refine (nearest_any N HV.out K g f1 p1 HB.out.bd HB.out.fit (fun v hv => by have := HB.out.pots HV.out hv; omega) fm hfm _ (HS.out _ HR.out.kp) HR.out.f HR.out.z HR.out.p).mono ?_
      rintro e w3 ⟨gd, gb, gD, d, bk, D, rfl, hNB, hNear⟩
      have HNB := Lib.hid hNB
      have HN := Lib.hid hNear
      have HR3 := Lib.hid (HR.out.below hNB.below)
      have hgd := hNB.nd
      have hgb := hNB.nb
      clear hNB hNear
      go_wp2
      go_loopw [8, 27] (fun v8 v27 wr => ∃ (i : Nat) (c : Int), i ≤ N.V ∧ v27 = .int .i64 i ∧ v8 = .int .i64 c ∧ Hid (Mt d x1 i c) ∧ wr = w3) (fun _ v _ => N.V - (intOf v).toNat)
      case atStart => exact ⟨0, -1, by omega, rfl, rfl, Lib.hid (Mt.zero d x1), rfl⟩
      case round =>
        obtain ⟨i, c, hi, rfl, rfl, HM, rfl⟩ := hrel
        by_cases hlt : i < N.V
        · have q1 := HNB.out.d.cell i hlt
          have q2 := HR3.out.x.cell i hlt
          have q3 := HNB.out.d.lt
          have q4 := HR3.out.x.lt
          by_cases hx : x1 i < 0
          · by_cases hfar : d i < 1152921504606846976
            · rcases HM.out with ⟨hc, _⟩ | ⟨u, hc, hui, _, _, _⟩
              · have HMs := Lib.hid (HM.out.take hx (by unfold far; exact hfar) (.inl hc))
                subst hc
                go_wp2_with fail
                exact ⟨⟨i + 1, i, by omega, by go_num, rfl, HMs, trivial⟩, by simp [intOf]; omega⟩
              · have huV : u < N.V := by omega
                have q5 := HNB.out.d.cell u huV
                have du0 : decide ((u : Int) < 0) = false := by simp
                by_cases hlt2 : d i < d u
                · have HMs := Lib.hid (HM.out.take hx (by unfold far; exact hfar) (.inr ⟨u, hc, hlt2⟩))
                  subst hc
                  go_wp2_with fail
                  exact ⟨⟨i + 1, i, by omega, by go_num, rfl, HMs, trivial⟩, by simp [intOf]; omega⟩
                · have HMs := Lib.hid (HM.out.skip (.inr (.inr ⟨u, hc, by omega⟩)))
                  have d3 : decide (d i < d u) = false := by simpa using hlt2
                  subst hc
                  go_wp2_with fail
                  exact ⟨⟨i + 1, u, by omega, by go_num, rfl, HMs, trivial⟩, by simp [intOf]; omega⟩
            · have HMs := Lib.hid (HM.out.skip (.inr (.inl (by unfold far; omega))))
              have d3 : decide (d i < 1152921504606846976) = false := by simpa using hfar
              go_wp2_with fail
              exact ⟨⟨i + 1, c, by omega, by go_num, rfl, HMs, trivial⟩, by simp [intOf]; omega⟩
          · have HMs := Lib.hid (HM.out.skip (.inl (by omega)))
            have d3 : decide (x1 i < 0) = false := by simpa using hx
            go_wp2_with fail
            exact ⟨⟨i + 1, c, by omega, by go_num, rfl, HMs, trivial⟩, by simp [intOf]; omega⟩
        · obtain rfl : i = N.V := by omega
          rcases HM.out with ⟨hc, hall⟩ | ⟨to_, hc, htV, htx, htd, hmin⟩
          · have HNO : Hid N.noc := Lib.hid (HB.out.noc HV.out hfm HX1.out HN.out hall)
            subst hc
            clear hall
            go_wp2_with fail
            go_ret
            exact ⟨HR3.out.kp, .inr ⟨rfl, HNO.out⟩⟩
          · have HMIN := Lib.hid hmin
            have hd0 := (HN.out.bd to_).1
            have HTX := Lib.hid htx
            have HTD := Lib.hid htd
            unfold far at htd
            subst hc
            clear hmin hi HM hlt
            go_wp2_with fail
            obtain ⟨w3, rfl⟩ : ∃ w3 : World, w3 = wr := ⟨_, rfl⟩
            have hgw : K.gp < w1.heap.size := HR.out.p.lt
            have n1 : gd ≠ K.gp := by omega
            have n2 : gb ≠ K.gp := by omega
            have hgs : g ≠ K.gp := by have := (HS.out _ HR.out.kp).g_ne; simp at this; omega
            have HSX : Hid (∀ wx, Kp [K.gp] w3 wx → Srch wx g N K) := Lib.hid (fun wx hk => HS.out _ (HR3.out.kp.trans (hk.mono (by simp))))
            go_loopw [59] (fun v59 wr => ∃ i : Nat, i ≤ N.V ∧ v59 = .int .i64 i ∧ Kp [K.gp] w3 wr ∧ IRow wr K.gp N.V (shf p1 d (d to_) i)) (fun v _ => N.V - (intOf v).toNat)
            case atStart => exact ⟨0, by omega, rfl, Kp.refl _ _, VRow.congr HR3.out.p _ (fun v _ => by rw [shf_ge _ _ _ (Nat.zero_le _)])⟩
            case round =>
              obtain ⟨i, hi, rfl, hkp, hrow⟩ := hrel
              by_cases hlt : i < N.V
              · have c4 := (HSX.out wr hkp).cells.2.2.2.2.1
                have c5 := (HSX.out wr hkp).lt
                have q1 := hrow.cell i hlt
                have q2 := hrow.frozen i
                have q3 := hrow.lt
                rw [shf_ge _ _ _ (Nat.le_refl _)] at q1
                have q4 := (VRow.kp HNB.out.d hkp (by simpa using n1)).cell i hlt
                have q5 := (VRow.kp HNB.out.d hkp (by simpa using n1)).cell to_ htV
                have q6 := (VRow.kp HNB.out.d hkp (by simpa using n1)).lt
                have b1 := HB.out.pots HV.out hlt
                have b2 := HN.out.bd i
                obtain ⟨b3, b4⟩ := b1
                obtain ⟨b5, b6⟩ := b2
                unfold far at b6
                have HROW : Hid (∀ v : Int, v = p1 i + min (d i) (d to_) → IRow (wr.setCell ⟨K.gp, i, none⟩ (.int .i64 v)) K.gp N.V (shf p1 d (d to_) (i + 1))) := Lib.hid (fun v hv => IRow.set hrow i v (by rw [shf_lt _ _ _ (by omega)]; exact hv.symm) (fun j hj => by
                  by_cases e : j < i
                  · rw [shf_lt _ _ _ e, shf_lt _ _ _ (by omega)]
                  · rw [shf_ge _ _ _ (by omega), shf_ge _ _ _ (by omega)]))
                clear hrow
                generalize d i = di at *
                generalize d to_ = dt at *
                generalize p1 i = pi at *
                go_wp2
                go_region
                all_goals
                  go_wp2
                  exact ⟨⟨i + 1, by omega, by go_num, (hkp.setCell _ _ (.inl (by simp))).drew, HROW.out _ (by split <;> omega)⟩, by simp [intOf]; omega⟩
              · obtain rfl : i = N.V := by omega
                have hp2 : IRow wr K.gp N.V (fun v => p1 v + min (d v) (d to_)) := VRow.congr hrow _ (fun v hvV => by rw [shf_lt _ _ _ hvV])
                obtain ⟨l, hPw, hlen, hpw, hWk, hl⟩ := HN.out.walk to_ htV HTD.out
                have HPW := Lib.hid hPw
                have HPAIR := Lib.hid hpw
                have HWK := Lib.hid hWk
                have HL := Lib.hid hl
                have HP2 := Lib.hid hp2
                have HNBw := Lib.hid (VRow.kp HNB.out.b hkp (by simpa using n2))
                have hne := HNE.out
                have HRX : Hid (BR N K ge w f1 (fun v => p1 v + min (d v) (d to_)) x1 wr) := Lib.hid ⟨HR3.out.kp.trans (hkp.mono (by simp)),
                  VRow.kp HR3.out.f hkp (by simpa using (HSX.out wr hkp).dist.1), hp2, VRow.kp HR3.out.x hkp (by simpa using hne.2.1), VRow.kp HR3.out.z hkp (by simpa using (HSX.out wr hkp).dist.2.2.symm)⟩
                clear hPw hpw hWk hl hp2 hrow hne hkp hi hlt
                go_wp2_with fail
                refine (walk_any N K g bk fm to_ HV.out l (by omega) HPW.out htV gb N.V (Nat.le_refl _) _ (HS.out _ HRX.out.kp) HNBw.out).mono ?_
                rintro e w5 ⟨a, c, rfl, hst, hnew, hbw⟩
                have HR5 := Lib.hid (HRX.out.below hbw)
                have HRLT : Hid (K.gf < wr.heap.size) := Lib.hid HRX.out.f.lt
                have HST := Lib.hid hst
                have HNEW := Lib.hid hnew
                clear HRX HNBw hbw hst hnew
                go_wp2_with fail
                obtain ⟨m0, hm0⟩ : ∃ m0 : Int, m0 = (if -(x1 to_) < x1 fm then -(x1 to_) else x1 fm) := ⟨_, rfl⟩
                have hx1 := HX1.out
                have hx2 := HTX.out
                obtain ⟨xb1, xb2⟩ := HB.out.xb HV.out hfm
                obtain ⟨xb3, xb4⟩ := HB.out.xb HV.out htV
                have hm1 : 0 < m0 ∧ m0 ≤ x1 fm ∧ m0 ≤ -(x1 to_) := by rw [hm0]; split <;> omega
                have hAM : 0 < lst N f1 (fun _ => false) l m0 := lst_pos N f1 (fun _ => false) l m0 hm1.1 (fun s hs => by
                  have := (HL.out s hs).2.1
                  simpa [Nw.rz] using this)
                have hAL := lst_le N f1 (fun _ => false) l m0
                have HAM : Hid (0 < lst N f1 (fun _ => false) l m0 ∧ lst N f1 (fun _ => false) l m0 ≤ x1 fm ∧ lst N f1 (fun _ => false) l m0 ≤ -(x1 to_) ∧ ∀ s ∈ l, lst N f1 (fun _ => false) l m0 ≤ N.rm f1 s) := Lib.hid ⟨hAM, by omega, by omega, fun s hs => by have := hAL.2 s hs; simpa [Nw.rz] using this⟩
                have HM0 := Lib.hid hm0
                have HM1 : Hid (0 ≤ m0 ∧ m0 ≤ 9223372036854775807) := Lib.hid (by omega)
                have e1 := HR5.out.x.cell fm hfm
                have e2 := HR5.out.x.cell to_ htV
                have HLI : Hid (∀ s ∈ l, s.i < N.m) := Lib.hid (fun s hs => (HL.out s hs).1)
                clear hm0 hAM hAL hm1 hx1 hx2
                obtain ⟨xf, hxf⟩ : ∃ y, x1 fm = y := ⟨_, rfl⟩
                obtain ⟨xt, hxt⟩ : ∃ y, x1 to_ = y := ⟨_, rfl⟩
                rw [hxf] at e1 xb1 xb2 HAM HM0
                rw [hxt] at e2 xb3 xb4 HAM HM0
                have HXF := Lib.hid hxf
                have HXT := Lib.hid hxt
                clear hxf hxt
                refine wp_region_below (by kernel_rfl) (by kernel_rfl) ?_
                have g1 := fun y : Since w5 => y.cell e1
                have g2 := fun y : Since w5 => y.cell e2
                have hw : IntKind.i64.wrap (-xt) = -xt := by rw [IntKind.wrap_i64]; omega
                repeat (go_big_quiet_step ((go_at_call 52; rw [← HM0.out]; exact calls_since _ (least_any N HV.out K g f1 (fun _ => false) HB.out.bd l HLI.out m0 HM1.out (by omega) a c _ (HS.out _ (HR5.out.below (Since.property _)).kp) (HR5.out.below (Since.property _)).f (HR5.out.below (Since.property _)).z (HST.out.below (Since.property _))))))
                refine wpQuiet_nil ?_
                intro w6 hb6
                rw [← HM0.out]
                clear hw g1 g2 e1 e2
                obtain ⟨am, ham⟩ : ∃ am, lst N f1 (fun _ => false) l m0 = am := ⟨_, rfl⟩
                rw [ham] at HAM ⊢
                have HR6 := Lib.hid (HR5.out.below hb6)
                have HST6 := Lib.hid (HST.out.below hb6)
                clear hb6 ham
                go_wp2_with fail
                refine (push_any N HV.out K g f1 HB.out.bd l am (by have := HAM.out.1; omega) HAM.out.2.2.2 HLI.out HPAIR.out (by omega) a c _ (HS.out _ HR6.out.kp) HR6.out.f HST6.out (fun y hy => by have := HNEW.out y hy; have := HRLT.out; omega)).mono ?_
                rintro e w7 ⟨rfl, hk7, hf7⟩
                obtain ⟨ne1, ne2, ne3⟩ := HNE.out
                have hx7 := VRow.kp HR6.out.x hk7 (by simpa using ne1)
                have HR7 : Hid (Kp [K.gf, K.gp, ge] w w7 ∧ IRow w7 K.gf N.m (pushes f1 l am) ∧ IRow w7 K.gp N.V (fun v => p1 v + min (d v) (d to_)) ∧ BRow w7 K.gc N.m (fun _ => false)) :=
                  Lib.hid ⟨HR6.out.kp.trans (hk7.mono (by simp)), hf7, VRow.kp HR6.out.p hk7 (by have := (HS.out _ HR6.out.kp).dist.1; simp; omega), VRow.kp HR6.out.z hk7 (by have := (HS.out _ HR6.out.kp).dist.2.1; simp; omega)⟩
                have HX8 : Hid (IRow ((w7.setCell ⟨ge, fm, none⟩ (.int .i64 (xf - am))).setCell ⟨ge, to_, none⟩ (.int .i64 (xt + am))) ge N.V (upd (upd x1 fm (xf - am)) to_ (xt + am))) :=
                  Lib.hid (IRow.set (IRow.set hx7 fm (xf - am) (upd_same _ _ _) (fun j hj => upd_other _ _ hj)) to_ (xt + am) (upd_same _ _ _) (fun j hj => upd_other _ _ hj))
                have c1 := hx7.cell fm hfm
                have c2 := hx7.cell to_ htV
                have c3 := hx7.frozen fm
                have c4 := hx7.frozen to_
                have c5 := hx7.lt
                rw [HXF.out] at c1
                rw [HXT.out] at c2
                have hamb := HAM.out
                obtain ⟨am1, am2, am3, _⟩ := hamb
                have hft : fm ≠ to_ := fun e => by have h1 := HXF.out; have h2 := HXT.out; rw [e] at h1; omega
                have hft2 := hft.symm
                have HST : Hid (Bal N (pushes f1 l am) (fun v => p1 v + min (d v) (d to_)) (upd (upd x1 fm (xf - am)) to_ (xt + am)) ∧ tot N.V (upd (upd x1 fm (xf - am)) to_ (xt + am)) < tot N.V x1) := Lib.hid (by
                  have := HB.out.step HV.out hfm HX1.out HX2.out HN.out htV HTX.out HTD.out HMIN.out hlen HPAIR.out HWK.out HL.out am1 (by rw [HXF.out]; exact am2) (by rw [HXT.out]; exact am3) HAM.out.2.2.2
                  rwa [HXF.out, HXT.out] at this)
                clear hx7 hk7 hf7
                go_wp2
                go_roundg (tot N.V (upd (upd x1 fm (xf - am)) to_ (xt + am))).toNat
                case rel => exact ⟨_, _, _, rfl, Lib.hid HST.out.1, Lib.hid ⟨(HR7.out.1.setCell _ _ (.inl (by simp))).setCell _ _ (.inl (by simp)), VRow.off (VRow.off HR7.out.2.1 _ ne1.symm) _ ne1.symm, VRow.off (VRow.off HR7.out.2.2.1 _ ne2.symm) _ ne2.symm, HX8.out, VRow.off (VRow.off HR7.out.2.2.2 _ ne3.symm) _ ne3.symm⟩⟩
                case measure =>
                  rw [hgk'.out]
                  have h1 := HST.out.2
                  have h2 := tot_nonneg N.V (upd (upd x1 fm (xf - am)) to_ (xt + am))
                  omega
end Go.Proofs.Ythoehobofdeifaa
