/-
  WALK of circulation.search's nearest.
-/
import Derived.Test.YthoehobofdeifaaCirD
import Derived.Test.YthoehobofdeifaaCirV
namespace Go.Proofs.Ythoehobofdeifaa
open Go.ChangeShapes Go.WideShapes Go.ChangeAt Go.RowKit
set_option linter.unusedVariables false

/-- the three rows of the search for the nearest -/
structure NB (N : Nw) (w0 : World) (gd gb gD : Nat) (d : Nat → Int) (bk : Nat → Sp) (D : Nat → Bool) (w : World) : Prop where
  d : IRow w gd N.V d
  b : SRow w gb N.V bk
  D : BRow w gD N.V D
  nd : w0.heap.size ≤ gd
  nb : w0.heap.size ≤ gb
  nD : w0.heap.size ≤ gD
  below : Below w0.heap.size w0 w
section
variable {N : Nw} {w0 w : World} {gd gb gD : Nat} {d : Nat → Int} {bk : Nat → Sp} {D : Nat → Bool}
theorem NB.more (h : NB N w0 gd gb gD d bk D w) {w' : World} (hb : Below w.heap.size w w') : NB N w0 gd gb gD d bk D w' :=
  ⟨VRow.below h.d hb h.d.lt, VRow.below h.b hb h.b.lt, VRow.below h.D hb h.D.lt, h.nd, h.nb, h.nD, h.below.trans (hb.mono h.below.size)⟩
theorem NB.ne (h : NB N w0 gd gb gD d bk D w) : gd ≠ gb ∧ gd ≠ gD ∧ gb ≠ gD := ⟨VRow.ne h.d h.b (by decide), VRow.ne h.d h.D (by decide), VRow.ne h.b h.D (by decide)⟩
theorem VRow.off {w : World} {b : Nat} {t : TypeId} {n : Nat} {F : Nat → Value} (h : VRow w b t n F) {g o : Nat} (v : Value) (hne : b ≠ g) : VRow (w.setCell ⟨g, o, none⟩ v) b t n F := h.keep (heap_setCell_other w _ b v hne)
theorem NB.dist (h : NB N w0 gd gb gD d bk D w) (v : Nat) (x : Int) : NB N w0 gd gb gD (upd d v x) bk D (w.setCell ⟨gd, v, none⟩ (.int .i64 x)) := by
  obtain ⟨n1, n2, n3⟩ := h.ne
  exact ⟨IRow.set h.d v x (upd_same _ _ _) (fun j hj => upd_other _ _ hj), VRow.off h.b _ n1.symm, VRow.off h.D _ n2.symm, h.nd, h.nb, h.nD, h.below.setCell h.nd _⟩
theorem NB.done (h : NB N w0 gd gb gD d bk D w) (v : Nat) : NB N w0 gd gb gD d bk (mark D v) (w.setCell ⟨gD, v, none⟩ (.bool true)) := by
  obtain ⟨n1, n2, n3⟩ := h.ne
  refine ⟨VRow.off h.d _ n2, VRow.off h.b _ n3, VRow.set h.D v _ _ (by unfold mark; simp) (fun j _ hj => by unfold mark; rw [if_neg hj]), h.nd, h.nb, h.nD, h.below.setCell h.nD _⟩
theorem SRow.put {w : World} {b n : Nat} {s : Nat → Sp} (h : SRow w b n s) (v : Nat) (x : Sp) : SRow ((w.setCell ⟨b, v * 2, none⟩ (.int .i64 (x.i : Int))).setCell ⟨b, v * 2 + 1, none⟩ (.bool (!x.fw))) b n (upd s v x) := by
  have h1 : VRow (w.setCell ⟨b, v * 2, none⟩ (.int .i64 (x.i : Int))) b 75 (n * 2) (fun j => if j = v * 2 then .int .i64 (x.i : Int) else stf s j) := VRow.set h (v * 2) _ _ (if_pos rfl) (fun j _ hj => if_neg hj)
  refine VRow.set h1 (v * 2 + 1) _ _ (by rw [stf_1, upd_same]) (fun j _ hj => ?_)
  by_cases e : j = v * 2
  · rw [if_pos e, e, stf_0, upd_same]
  · rw [if_neg e]
    unfold stf
    rw [upd_other _ _ (by omega : j / 2 ≠ v)]
theorem NB.by_ (h : NB N w0 gd gb gD d bk D w) (v : Nat) (x : Sp) : NB N w0 gd gb gD d (upd bk v x) D ((w.setCell ⟨gb, v * 2, none⟩ (.int .i64 (x.i : Int))).setCell ⟨gb, v * 2 + 1, none⟩ (.bool (!x.fw))) := by
  obtain ⟨n1, n2, n3⟩ := h.ne
  exact ⟨VRow.off (VRow.off h.d _ n1) _ n1, SRow.put h.b v x, VRow.off (VRow.off h.D _ n3.symm) _ n3.symm, h.nd, h.nb, h.nD, (h.below.setCell h.nb _).setCell h.nb _⟩
theorem NB.congr (h : NB N w0 gd gb gD d bk D w) {d' : Nat → Int} (he : ∀ v, v < N.V → d v = d' v) : NB N w0 gd gb gD d' bk D w :=
  ⟨VRow.congr h.d _ (fun j hj => by rw [he j hj]), h.b, h.D, h.nd, h.nb, h.nD, h.below⟩
end
/-- the nearest of the first i that are not done; -1 if there is none -/
def Mn (d : Nat → Int) (D : Nat → Bool) (i : Nat) (c : Int) : Prop := (c = -1 ∧ ∀ x, x < i → D x = false → far ≤ d x) ∨ (∃ u : Nat, c = (u : Int) ∧ u < i ∧ D u = false ∧ d u < far ∧ ∀ x, x < i → D x = false → d u ≤ d x)
theorem Mn.zero (d : Nat → Int) (D : Nat → Bool) : Mn d D 0 (-1) := .inl ⟨rfl, fun x hx => absurd hx (by omega)⟩
theorem Mn.skip {d : Nat → Int} {D : Nat → Bool} {i : Nat} {c : Int} (h : Mn d D i c) (hs : D i = true ∨ far ≤ d i ∨ ∃ u : Nat, c = (u : Int) ∧ d u ≤ d i) : Mn d D (i + 1) c := by
  rcases h with ⟨rfl, h⟩ | ⟨u, rfl, hu, h1, h2, h3⟩
  · refine .inl ⟨rfl, fun x hx hD => ?_⟩
    by_cases e : x = i
    · subst e
      rcases hs with hs | hs | ⟨u, hu, _⟩
      · rw [hD] at hs; cases hs
      · exact hs
      · omega
    · exact h x (by omega) hD
  · refine .inr ⟨u, rfl, by omega, h1, h2, fun x hx hD => ?_⟩
    by_cases e : x = i
    · subst e
      rcases hs with hs | hs | ⟨u', hu', hs⟩
      · rw [hD] at hs; cases hs
      · omega
      · obtain rfl : u = u' := by omega
        exact hs
    · exact h3 x (by omega) hD
theorem Mn.take {d : Nat → Int} {D : Nat → Bool} {i : Nat} {c : Int} (h : Mn d D i c) (hD : D i = false) (hd : d i < far) (hs : c = -1 ∨ ∃ u : Nat, c = (u : Int) ∧ d i < d u) : Mn d D (i + 1) (i : Int) := by
  refine .inr ⟨i, rfl, by omega, hD, hd, fun x hx hDx => ?_⟩
  by_cases e : x = i
  · subst e; exact Int.le_refl _
  · rcases h with ⟨rfl, h⟩ | ⟨u, rfl, hu, h1, h2, h3⟩
    · have := h x (by omega) hDx; omega
    · have := h3 x (by omega) hDx
      rcases hs with hs | ⟨u', hu', hs⟩
      · omega
      · obtain rfl : u = u' := by omega
        omega
theorem sp_lo {N : Nw} (hv : N.valid) {p : Nat → Int} (hp : ∀ v, v < N.V → 0 ≤ p v ∧ p v ≤ 1099511627776) {s : Sp} (hi : s.i < N.m) : -1099511628776 ≤ N.sp p s ∧ N.sp p s ≤ 1099511628776 := by
  have h1 := hp _ (beg_lt hv.ok hi)
  have h2 := hp _ (fin_lt hv.ok hi)
  have h3 := hv.c s.i hi
  unfold Nw.sp Nw.sc
  split <;> omega
theorem room_open (s : Sp) (N : Nw) (hv : N.valid) (K : Lay) (g : Nat) (f : Nat → Int) (hbd : N.bd f) (hi : s.i < N.m) (w : World) (h : Srch w g N K) (hf : IRow w K.gf N.m f) (hz : BRow w K.gc N.m (fun _ => false)) :
    Calls Try.prog 60 #[.pointer (some ⟨g, 0, none⟩), .agg #[.int .i64 (s.i : Int), .bool (!s.fw)]] w fun e w' => e = .returned (.int .i64 (N.rm f s)) ∧ Below w.heap.size w w' := by
  have := room_any s N hv K g f (fun _ => false) hbd hi w h hf hz
  have e : N.rz f (fun _ => false) s = N.rm f s := by simp [Nw.rz]
  rwa [e] at this
theorem rm_le {N : Nw} (hv : N.valid) {f : Nat → Int} (hbd : N.bd f) (s : Sp) (hi : s.i < N.m) : 0 ≤ N.rm f s ∧ N.rm f s ≤ 1099511627776 := by
  have := rz_bd hv hbd (fun _ => false) s hi
  have e : N.rz f (fun _ => false) s = N.rm f s := by simp [Nw.rz]
  rwa [e] at this
/-- what nearest leaves -/
def NearPost (N : Nw) (p f : Nat → Int) (fm : Nat) (w : World) (e : Ending) (w' : World) : Prop := ∃ (gd gb gD : Nat) (d : Nat → Int) (bk : Nat → Sp) (D : Nat → Bool),
  e = .returned (.tuple #[.slice (some ⟨gd, 0, none⟩) N.V N.V, .slice (some ⟨gb, 0, none⟩) N.V N.V]) ∧ NB N w gd gb gD d bk D w' ∧ Near N p f fm d bk
theorem MP_far {k V : Nat} (h : k ≤ V) (hV : V ≤ 520) {x : Int} (hx : x ≤ (k : Int) * MP ∨ x = far) : x ≤ far := by
  have := MPV (k := k) (by omega)
  rcases hx with e | e <;> omega
set_option maxRecDepth 100000 in
set_option maxHeartbeats 4000000 in
theorem nearest_any (N : Nw) (hv : N.valid) (K : Lay) (g : Nat) (f p : Nat → Int) (hbd : N.bd f) (hfit : N.fits p f) (hp : ∀ v, v < N.V → 0 ≤ p v ∧ p v ≤ 1099511627776) (fm : Nat) (hfm : fm < N.V)
    (w : World) (h : Srch w g N K) (hf : IRow w K.gf N.m f) (hz : BRow w K.gc N.m (fun _ => false)) (hr : IRow w K.gp N.V p) :
    Calls Try.prog 50 #[.pointer (some ⟨g, 0, none⟩), .int .i64 (fm : Int)] w (NearPost N p f fm w) := by
  have c0 := h.cells.1
  have hg := h.lt
  have hV2 := hv.V2
  have HS := Lib.hid h
  have mk1 := make_ints N.V (by omega)
  have mk2 := make_steps N.V (by omega)
  have mk3 := make_bools N.V (by omega)
  have HF := Lib.hid hf
  have HZ := Lib.hid hz
  have HP := Lib.hid hr
  have HV := Lib.hid hv
  have HB := Lib.hid hbd
  have HFIT := Lib.hid hfit
  have HPB := Lib.hid hp
  clear h hf hz hr hv hbd hfit hp
  go_enter Try.func50, Try.ntmps50
  go_wp2
  go_cut [6, 7, 8] from 15 to 32 (fun v6 v7 v8 wx => ∃ gd gb gD : Nat, v6 = .slice (some ⟨gd, 0, none⟩) N.V N.V ∧ v7 = .slice (some ⟨gb, 0, none⟩) N.V N.V ∧ v8 = .slice (some ⟨gD, 0, none⟩) N.V N.V ∧
    IRow wx gd N.V (fun _ => 0) ∧ SRow wx gb N.V (fun _ => ⟨0, true⟩) ∧ BRow wx gD N.V (fun _ => false) ∧ w.heap.size ≤ gd ∧ w.heap.size ≤ gb ∧ w.heap.size ≤ gD ∧ Below w.heap.size w wx)
  case first =>
    go_region
    all_goals
      go_wp2
      go_meet
      refine ⟨_, _, _, rfl, rfl, rfl, ?_, ?_, ?_, ?_, ?_, ?_, ?_⟩
      any_goals (simp; done)
      any_goals first | exact VRow.new _ _ _ _ (by simp) | exact (VRow.new _ _ _ _ (by simp)).alloc _ | exact ((VRow.new _ _ _ _ (by simp)).alloc _).alloc _
      any_goals omega
      any_goals exact ((((Below.refl _ _).alloc (Nat.le_refl _) _).alloc (by simp) _).alloc (by simp; omega) _).drew
  case rest =>
    obtain ⟨gd, gb, gD, rfl, rfl, rfl, r1, r2, r3, n1, n2, n3, hb⟩ := hcut
    have hNB : NB N w gd gb gD (fun _ => 0) (fun _ => ⟨0, true⟩) (fun _ => false) wc := ⟨r1, r2, r3, n1, n2, n3, hb⟩
    clear r1 r2 r3 hb mk1 mk2 mk3
    go_wp2
    go_loopw [35] (fun v35 wr => ∃ k : Nat, k ≤ N.V ∧ v35 = .int .i64 k ∧ NB N w gd gb gD (fun v => if v < k then far else 0) (fun _ => ⟨0, true⟩) (fun _ => false) wr) (fun v _ => N.V - (intOf v).toNat)
    case atStart => exact ⟨0, by omega, rfl, hNB.congr (fun v _ => (if_neg (by omega)).symm)⟩
    case round =>
      obtain ⟨k, hk, rfl, hN⟩ := hrel
      by_cases hlt : k < N.V
      · have q1 := hN.d.cell k hlt
        have q2 := hN.d.frozen k
        have q3 := hN.d.lt
        go_wp2
        go_roundw
        case rel => exact ⟨k + 1, by omega, by go_num, (hN.dist k far).congr (fun v _ => by
          by_cases e : v = k
          · subst e; rw [upd_same, if_pos (by omega)]
          · rw [upd_other _ _ e]
            by_cases e2 : v < k
            · rw [if_pos e2, if_pos (by omega)]
            · rw [if_neg e2, if_neg (by omega)])⟩
        case measure => simp [intOf]; omega
      · obtain rfl : k = N.V := by omega
        have hN1 := hN.congr (d' := fun _ => far) (fun v hv => if_pos hv)
        have q1 := hN1.d.cell fm hfm
        have q2 := hN1.d.frozen fm
        have q3 := hN1.d.lt
        have HN1 := Lib.hid hN1
        clear hN hN1 hNB
        go_wp2
        have hN2 : NB N w gd gb gD (fun v => if v = fm then 0 else far) (fun _ => ⟨0, true⟩) (fun _ => false) (wr.setCell ⟨gd, fm, none⟩ (.int .i64 0)) := (HN1.out.dist fm 0).congr (fun v _ => rfl)
        generalize (wr.setCell ⟨gd, fm, none⟩ (.int .i64 0)) = w1 at *
        clear q1 q2 q3 HN1 wr
        go_loopg [10] N.V (fun n v10 wr => ∃ (d : Nat → Int) (bk : Nat → Sp) (D : Nat → Bool) (rk : Nat → Nat) (k : Nat), n = N.V - k ∧ Hid (Dk N p f fm d bk D rk k) ∧ NB N w gd gb gD d bk D wr)
        case atStart => exact ⟨_, _, _, _, 0, by omega, Lib.hid (Dk.start N p f fm hfm _), hN2⟩
        case round =>
          obtain ⟨d, bk, D, rk, k, hgk, HD, hN⟩ := hrel
          have hgk' := Lib.hid hgk
          clear hN2 hgk
          obtain ⟨wo, rfl⟩ : ∃ wo : World, wo = wr := ⟨_, rfl⟩
          clear w1
          go_wp2
          go_loopw [10, 47] (fun v10 v47 wr => ∃ (i : Nat) (c : Int), i ≤ N.V ∧ v47 = .int .i64 i ∧ v10 = .int .i64 c ∧ Hid (Mn d D i c) ∧ NB N w gd gb gD d bk D wr) (fun _ v _ => N.V - (intOf v).toNat)
          case atStart => exact ⟨0, -1, by omega, rfl, rfl, Lib.hid (Mn.zero d D), hN⟩
          case round =>
            obtain ⟨i, c, hi, rfl, rfl, HM, hN3⟩ := hrel
            by_cases hlt : i < N.V
            · have q1 := hN3.d.cell i hlt
              have q2 := hN3.D.cell i hlt
              have q3 := hN3.d.lt
              have q4 := hN3.D.lt
              have hdb := (HD.out.bd i).1
              have hdf := MP_far (k := k) (V := N.V) (by have := HD.out.cnt; have := nD_le D N.V; omega) hV2 (HD.out.bd i).2
              unfold far at hdf
              have HN3 := Lib.hid hN3
              have HDi : Hid (∀ b, D i = b → D i = b) := Lib.hid (fun _ h => h)
              by_cases hDi : D i = true
              · have HMs := Lib.hid (HM.out.skip (.inl hDi))
                rw [hDi] at q2
                clear hDi hN3
                go_wp2_with fail
                go_quiet (fail)
                go_wp2
                exact ⟨⟨i + 1, c, by omega, by go_num, rfl, HMs, HN3.out.more (below_drewN (Below.refl _ _) _)⟩, by simp [intOf]; omega⟩
              · have hDf : D i = false := by simpa using hDi
                have HDf := Lib.hid hDf
                rw [hDf] at q2
                clear hDi hDf hN3
                by_cases hfar : d i < 1152921504606846976
                · rcases HM.out with ⟨hc, _⟩ | ⟨u, hc, hui, _, _, _⟩
                  · have HMs := Lib.hid (HM.out.take HDf.out (by unfold far; exact hfar) (.inl hc))
                    subst hc
                    go_wp2_with fail
                    go_quiet (fail)
                    go_wp2
                    exact ⟨⟨i + 1, i, by omega, by go_num, rfl, HMs, HN3.out.more (below_drewN (Below.refl _ _) _)⟩, by simp [intOf]; omega⟩
                  · have huV : u < N.V := by omega
                    have q5 := HN3.out.d.cell u huV
                    have du0 : decide ((u : Int) < 0) = false := by simp
                    by_cases hlt2 : d i < d u
                    · have HMs := Lib.hid (HM.out.take HDf.out (by unfold far; exact hfar) (.inr ⟨u, hc, hlt2⟩))
                      subst hc
                      go_wp2_with fail
                      go_quiet (fail)
                      go_wp2
                      exact ⟨⟨i + 1, i, by omega, by go_num, rfl, HMs, HN3.out.more (below_drewN (Below.refl _ _) _)⟩, by simp [intOf]; omega⟩
                    · have HMs := Lib.hid (HM.out.skip (.inr (.inr ⟨u, hc, by omega⟩)))
                      have d3 : decide (d i < d u) = false := by simpa using hlt2
                      subst hc
                      go_wp2_with fail
                      go_quiet (fail)
                      go_wp2
                      exact ⟨⟨i + 1, u, by omega, by go_num, rfl, HMs, HN3.out.more (below_drewN (Below.refl _ _) _)⟩, by simp [intOf]; omega⟩
                · have HMs := Lib.hid (HM.out.skip (.inr (.inl (by unfold far; omega))))
                  have d3 : decide (d i < 1152921504606846976) = false := by simpa using hfar
                  go_wp2_with fail
                  go_quiet (fail)
                  go_wp2
                  exact ⟨⟨i + 1, c, by omega, by go_num, rfl, HMs, HN3.out.more (below_drewN (Below.refl _ _) _)⟩, by simp [intOf]; omega⟩
            · obtain rfl : i = N.V := by omega
              clear hN
              rcases HM.out with ⟨hc, hall⟩ | ⟨u, hc, huV, hDu, hdu, hmin⟩
              · have hnear : Near N p f fm d bk := HD.out.near HV.out HFIT.out (fun v hv hDv => by
                  have h1 := hall v hv hDv
                  have h2 := MP_far (k := k) (V := N.V) (by have := HD.out.cnt; have := nD_le D N.V; omega) hV2 (HD.out.bd v).2
                  omega)
                have HNR := Lib.hid hnear
                subst hc
                clear hall hnear
                go_wp2
                go_ret2
                exact ⟨gd, gb, gD, d, bk, D, rfl, hN3, HNR.out⟩
              · have HDu := Lib.hid hDu
                have HMIN2 : Hid (∀ v, D v = false → d u ≤ d v) := Lib.hid (fun v hv => by
                  by_cases e : v < N.V
                  · exact hmin v e hv
                  · have := HD.out.out v (by omega)
                    omega)
                have q1 := hN3.D.cell u huV
                have q2 := hN3.D.frozen u
                have q3 := hN3.D.lt
                have HN3 := Lib.hid hN3
                have hd0 := (HD.out.bd u).1
                unfold far at hdu
                subst hc
                have hS := HS.out.below hN3.below
                obtain ⟨sa, sc, hat0, hst, _⟩ := HS.out.ats u huV
                have hq0 : K.gt < w.heap.size := block_lt_of_cell hat0
                have hat := (hN3.below.cell (p := ⟨K.gt, u, none⟩) hq0).trans hat0
                have c3 := hS.cells.2.2.2.1
                have HSL := Lib.hid (HS.out.S_ok u huV)
                have hSn := HS.out.S_len u huV
                have hm2 := HV.out.m2
                have hg3 := hS.lt
                have hgt : K.gt < wr.heap.size := block_lt_of_cell hat
                have HST := Lib.hid hst
                have hne : gD ≠ g ∧ gD ≠ K.gt := ⟨by have := hN3.nD; omega, by have := hN3.nD; omega⟩
                obtain ⟨e1, e2⟩ := hne
                clear hN3 hmin hDu hS hst hat0
                obtain ⟨L, hL⟩ : ∃ L, K.S u = L := ⟨_, rfl⟩
                rw [hL] at hat hSn HST HSL
                have HLS := Lib.hid hL
                clear hL
                go_wp2
                have hN4 := HN3.out.done u
                generalize (wr.setCell ⟨gD, u, none⟩ (.bool true)) = w4 at *
                clear q1 q2 q3 c3 hat hgt hg3 HN3
                clear wr
                have HSQ : Hid (∀ s : Sp, s.i < N.m → N.beg s = u → s ∈ L) := Lib.hid (fun s hi hb => (HSL.out s).2 ⟨hi, hb⟩)
                go_loopw [94] (fun v94 wr => ∃ (j : Nat) (d1 : Nat → Int) (bk1 : Nat → Sp), j ≤ L.length ∧ v94 = .int .i64 j ∧ Hid (Dn N p f d bk u (L.take j) d1 bk1) ∧ NB N w gd gb gD d1 bk1 (mark D u) wr) (fun v _ => L.length - (intOf v).toNat)
                case atStart => exact ⟨0, d, bk, by omega, rfl, Lib.hid (Dn.start N p f d bk u), hN4⟩
                case round =>
                  obtain ⟨j, d1, bk1, hj, rfl, HDn, hN5⟩ := hrel
                  by_cases hlt : j < L.length
                  · obtain ⟨s, hs, hsm⟩ := get_lt hlt
                    obtain ⟨hsi, hsb⟩ := (HSL.out s).1 hsm
                    have HTK := Lib.hid (take_snoc_get L j s hs)
                    have hS5 := HS.out.below hN5.below
                    obtain ⟨b, off, rfl, hbl, k0, k1⟩ := HST.out.below hN5.below j s hs
                    have hself := HDn.out.self HFIT.out
                    have hspb := sp_lo HV.out HPB.out hsi
                    have hfin := fin_lt HV.out.ok hsi
                    have q1 := hN5.d.cell u huV
                    have q2 := hN5.d.cell (N.fin s) hfin
                    have q3 := hN5.d.lt
                    rw [hself] at q1
                    have hd1b : d1 (N.fin s) ≤ 1152921504606846976 := by
                      have h1 := HDn.out.le (N.fin s)
                      have h2 := MP_far (k := k) (V := N.V) (by have := HD.out.cnt; have := nD_le D N.V; omega) hV2 (HD.out.bd (N.fin s)).2
                      unfold far at h2
                      omega
                    have HN5 := Lib.hid hN5
                    have hspos : 0 < N.rm f s → 0 ≤ N.sp p s := fits_steps.1 HFIT.out s hsi
                    have hrm := rm_le HV.out HB.out s hsi
                    have HSPOS := Lib.hid hspos
                    clear hs hsm hS5 hself hN5 hspos
                    obtain ⟨sp, hsp⟩ : ∃ x, N.sp p s = x := ⟨_, rfl⟩
                    obtain ⟨rm, hrme⟩ : ∃ x, N.rm f s = x := ⟨_, rfl⟩
                    obtain ⟨de, hde⟩ : ∃ x, d1 (N.fin s) = x := ⟨_, rfl⟩
                    obtain ⟨du, hdue⟩ : ∃ x, d u = x := ⟨_, rfl⟩
                    rw [hsp] at hspb
                    rw [hrme] at hrm
                    rw [hde] at q2 hd1b
                    rw [hdue] at q1 hd0 hdu
                    have HSP := Lib.hid hsp
                    have HRM := Lib.hid hrme
                    have HDE := Lib.hid hde
                    have HDU := Lib.hid hdue
                    clear hsp hrme hde hdue
                    have hba : Below w.heap.size w (wr.alloc (.cells #[.int .i64 (s.i : Int), .bool (!s.fw)] 75)) := HN5.out.below.alloc HN5.out.below.size _
                    obtain ⟨hs1, hs2⟩ := hspb
                    obtain ⟨hr1, hr2⟩ := hrm
                    go_upto_region 21 with fail
                    have v0 : (wr.alloc (.cells #[.int .i64 (s.i : Int), .bool (!s.fw)] 75)).cell? ⟨wr.heap.size, 0, none⟩ = some (.int .i64 (s.i : Int)) := by simp [go_sem]
                    have v1 : (wr.alloc (.cells #[.int .i64 (s.i : Int), .bool (!s.fw)] 75)).cell? ⟨wr.heap.size, 1, none⟩ = some (.bool (!s.fw)) := by simp [go_sem]
                    have hN6 := HN5.out.more ((Below.refl _ _).alloc (Nat.le_refl _) (.cells #[.int .i64 (s.i : Int), .bool (!s.fw)] 75))
                    have HN6 := Lib.hid hN6
                    have p1 := (((Below.refl wr.heap.size wr).alloc (Nat.le_refl _) (.cells #[.int .i64 (s.i : Int), .bool (!s.fw)] 75)).cell (p := ⟨gd, u, none⟩) q3).trans q1
                    have p2 := (((Below.refl wr.heap.size wr).alloc (Nat.le_refl _) (.cells #[.int .i64 (s.i : Int), .bool (!s.fw)] 75)).cell (p := ⟨gd, N.fin s, none⟩) q3).trans q2
                    have hgv : wr.heap.size < (wr.alloc (.cells #[.int .i64 (s.i : Int), .bool (!s.fw)] 75)).heap.size := by simp
                    generalize (wr.alloc (.cells #[.int .i64 (s.i : Int), .bool (!s.fw)] 75)) = W at *
                    have hgw := HN5.out.below.size
                    have z3 : gd ≠ wr.heap.size := by omega
                    have z4 : gb ≠ wr.heap.size := by have := HN5.out.b.lt; omega
                    have Z3 := Lib.hid z3
                    have Z4 := Lib.hid z4
                    clear z3 z4
                    generalize wr.heap.size = gv at *
                    clear hN6 q1 q2 q3 k0 k1 HN5 hbl
                    go_wp2_with fail
                    refine wp_region_below (by kernel_rfl) (by kernel_rfl) ?_
                    have g1 := fun x : Since W => x.cell v0
                    have g2 := fun x : Since W => x.cell v1
                    have g3 := fun x : Since W => x.cell p1
                    have hd3 : IntKind.i64.wrap (du + N.sp p s) = du + N.sp p s := by rw [HSP.out, IntKind.wrap_i64]; omega
                    repeat (go_big_quiet_step ((go_at_call 38; exact calls_since _ (price_any s N HV.out K g p HPB.out hsi _ (HS.out.below (HN6.out.below.trans ((Since.property _).mono HN6.out.below.size))) (VRow.below HP.out (HN6.out.below.trans ((Since.property _).mono HN6.out.below.size)) HP.out.lt)))))
                    clear hd3
                    refine wpQuiet_nil ?_
                    intro W1 hb1
                    have hN7 := HN6.out.more hb1
                    replace v0 := (hb1.cell (p := ⟨gv, 0, none⟩) hgv).trans v0
                    replace v1 := (hb1.cell (p := ⟨gv, 1, none⟩) hgv).trans v1
                    replace p2 := (hb1.cell (p := ⟨gd, N.fin s, none⟩) (block_lt_of_cell p2)).trans p2
                    replace hgv : gv < W1.heap.size := by have := hb1.size; omega
                    rw [HSP.out]
                    have HN7 := Lib.hid hN7
                    clear g1 g2 g3 p1 hb1 HN6 hN7 hba
                    clear W
                    by_cases hrp : 0 < rm
                    · have hsp0 : 0 ≤ sp := by have := HSPOS.out; rw [HSP.out, HRM.out] at this; exact this hrp
                      go_wp2_with fail
                      refine (room_open s N HV.out K g f HB.out hsi _ (HS.out.below HN7.out.below) (VRow.below HF.out HN7.out.below HF.out.lt) (VRow.below HZ.out HN7.out.below HZ.out.lt)).mono ?_
                      rintro e w8 ⟨rfl, hb8⟩
                      rw [HRM.out]
                      have hN8 := HN7.out.more hb8
                      replace v0 := (hb8.cell (p := ⟨gv, 0, none⟩) hgv).trans v0
                      replace v1 := (hb8.cell (p := ⟨gv, 1, none⟩) hgv).trans v1
                      replace p2 := (hb8.cell (p := ⟨gd, N.fin s, none⟩) (block_lt_of_cell p2)).trans p2
                      replace hgv : gv < w8.heap.size := by have := hb8.size; omega
                      have HN8 := Lib.hid hN8
                      clear hb8 hN8 HN7
                      clear W1
                      go_wp2_with fail
                      refine (end_any s N K g hsi _ (HS.out.below HN8.out.below)).mono ?_
                      rintro e w9 ⟨rfl, hb9⟩
                      have hN9 := HN8.out.more hb9
                      replace v0 := (hb9.cell (p := ⟨gv, 0, none⟩) hgv).trans v0
                      replace v1 := (hb9.cell (p := ⟨gv, 1, none⟩) hgv).trans v1
                      replace p2 := (hb9.cell (p := ⟨gd, N.fin s, none⟩) (block_lt_of_cell p2)).trans p2
                      replace hgv : gv < w9.heap.size := by have := hb9.size; omega
                      have q3 := hN9.d.lt
                      have HN9 := Lib.hid hN9
                      clear hb9 hN9 HN8
                      clear w8
                      by_cases hlt2 : du + sp < de
                      · 
                        go_upto_region 23 with fail
                        have z3 := Z3.out
                        have z4 := Z4.out
                        have z5 := HN9.out.ne.1
                        have z6 := z3.symm
                        have z7 := z4.symm
                        have z8 := z5.symm
                        have b0 := HN9.out.b.lt
                        have HSA : Hid (∀ W : World, Below w9.heap.size w9 W → Srch W g N K) := Lib.hid (fun W hb => HS.out.below (HN9.out.below.trans (hb.mono HN9.out.below.size)))
                        have HT : Hid (Dn N p f d bk u (L.take (j + 1)) (upd d1 (N.fin s) (du + sp)) (upd bk1 (N.fin s) s)) := Lib.hid (by
                          rw [HTK.out, ← HDU.out, ← HSP.out]
                          exact HDn.out.take hsi hsb (by rw [HRM.out]; exact hrp) (by rw [HDU.out, HSP.out, HDE.out]; exact hlt2))
                        have HNB : Hid (∀ W : World, Below w9.heap.size w9 W → NB N w gd gb gD d1 bk1 (mark D u) W) := Lib.hid (fun W hb => HN9.out.more hb)
                        have hf2 : N.fin s * 2 + 1 < N.V * 2 := by omega
                        go_region_with (first
                          | (go_at_call 55
                             refine (end_any s N K g hsi _ (HSA.out _ (Below.refl _ _).drew)).mono ?_
                             rintro e w10 ⟨rfl, hb10⟩
                             have v0' := (hb10.cell (p := ⟨gv, 0, none⟩) hgv).trans v0
                             have v1' := (hb10.cell (p := ⟨gv, 1, none⟩) hgv).trans v1
                             have hb10s : gv < w10.heap.size := Nat.lt_of_lt_of_le hgv hb10.size
                             have HB10 : Hid (Below w9.heap.size w9 w10) := Lib.hid ((Below.refl _ _).drew.trans hb10)
                             clear hb10)
                          | (go_at_call 55
                             refine (end_any s N K g hsi _ (HSA.out _ HB10.out)).mono ?_
                             rintro e w11 ⟨rfl, hb11⟩
                             have v0'' := (hb11.cell (p := ⟨gv, 0, none⟩) hb10s).trans v0'
                             have v1'' := (hb11.cell (p := ⟨gv, 1, none⟩) hb10s).trans v1'
                             have HB11 : Hid (Below w9.heap.size w9 w11) := Lib.hid (HB10.out.trans (hb11.mono HB10.out.size))
                             have HN11 := Lib.hid (HNB.out w11 HB11.out)
                             have a1 := HN11.out.d.cell (N.fin s) hfin
                             have a2 := HN11.out.d.frozen (N.fin s)
                             have a3 := HN11.out.b.cell (N.fin s * 2) (by omega)
                             have a4 := HN11.out.b.cell (N.fin s * 2 + 1) hf2
                             have a5 := HN11.out.b.frozen (N.fin s * 2)
                             have a6 := HN11.out.b.frozen (N.fin s * 2 + 1)
                             have a7 := HN11.out.d.lt
                             have a8 := HN11.out.b.lt
                             clear hb11))
                        all_goals
                          go_wp2
                          go_roundw
                          case rel => exact ⟨j + 1, _, _, by omega, by go_num, HT, (HN11.out.dist (N.fin s) (du + sp)).by_ (N.fin s) s⟩
                          case measure => simp [intOf]; omega
                      · have d4 : decide (du + sp < de) = false := by simpa using hlt2
                        go_wp2
                        go_roundw
                        case rel => exact ⟨j + 1, d1, bk1, by omega, by go_num, Lib.hid (by rw [HTK.out]; exact HDn.out.keep (.inr (by rw [HDE.out, HDU.out, HSP.out]; omega))), HN9.out⟩
                        case measure => simp [intOf]; omega
                    · have d4 : decide (0 < rm) = false := by simpa using hrp
                      go_wp2_with fail
                      refine (room_open s N HV.out K g f HB.out hsi _ (HS.out.below HN7.out.below) (VRow.below HF.out HN7.out.below HF.out.lt) (VRow.below HZ.out HN7.out.below HZ.out.lt)).mono ?_
                      rintro e w8 ⟨rfl, hb8⟩
                      rw [HRM.out]
                      have hN8 := HN7.out.more hb8
                      replace v0 := (hb8.cell (p := ⟨gv, 0, none⟩) hgv).trans v0
                      replace v1 := (hb8.cell (p := ⟨gv, 1, none⟩) hgv).trans v1
                      replace p2 := (hb8.cell (p := ⟨gd, N.fin s, none⟩) (block_lt_of_cell p2)).trans p2
                      replace hgv : gv < w8.heap.size := by have := hb8.size; omega
                      have HN8 := Lib.hid hN8
                      clear hb8 hN8 HN7
                      clear W1
                      go_wp2
                      go_roundw
                      case rel => exact ⟨j + 1, d1, bk1, by omega, by go_num, Lib.hid (by rw [HTK.out]; exact HDn.out.keep (.inl (by rw [HRM.out]; omega))), HN8.out⟩
                      case measure => simp [intOf]; omega
                  · obtain rfl : j = L.length := by omega
                    have hDn := HDn.out
                    rw [List.take_length] at hDn
                    have hst := HD.out.step HV.out HFIT.out HPB.out HDu.out (by unfold far; exact hdu) HMIN2.out HSQ.out hDn
                    have HST2 := Lib.hid hst.1
                    have hkV := hst.2
                    clear hst hDn HDn
                    go_wp2
                    go_roundg (N.V - (k + 1))
                    case rel => exact ⟨d1, bk1, _, _, k + 1, rfl, HST2, hN5⟩
                    case measure => rw [hgk'.out]; omega
end Go.Proofs.Ythoehobofdeifaa
