/-
  WALK of the closure of circulation.Potentials: one step improves a distance. (Filled in from a template of this repo.)
  WALK of circulation.residual with the closure of Potentials. (Filled in from a template of this repo; printed by mk_res.py.)
  WALK of circulation.Potentials. (Filled in from a template of this repo.)
-/
import Derived.Test.YthoehobofdeifaaRPo
namespace Go.Proofs.Ythoehobofdeifaa
open Go.ChangeShapes Go.WideShapes Go.ChangeAt Go.RowKit
set_option linter.unusedVariables false
set_option linter.unusedSimpArgs false

/-! ### PoC -/

section
variable {P : Program} {ops : Array Oper} {Q : Exit → Act → World → Prop} {md : Region.Mode} {S : World → Prop}
/-- the kit's move, the slot written out -/
theorem wpAnyH_takeD {i : Nat} {oi : Oper} {d : Option Tmp} {v : Value} {fuel : Nat} {listed : Array Bool} {a : Act} {w : World} (hi : ops[i]? = some oi) (hd : oi.dst = d)
    (hs : Region.noSelect ops = true) (hf : Region.free md ops listed i = true) (hr : (Region.ready md ops listed).contains i = true)
    (hQ : ∀ c a w, Q (.panic c) (a.put d v) w → Q (.panic c) a w) (hy : YieldsIf P ops S oi v a) (hS : S w)
    (h : wpAnyH P md ops Q S fuel (listed.setIfInBounds i true) (a.put d v) w) : wpAnyH P md ops Q S (fuel + 1) listed a w := by
  subst hd; exact wpAnyH_take hi hs hf hr hQ hy hS h
end
/-- the cells of Potentials' rounds: block gp holds the slice of the distances, gc whether anything was improved -/
structure PC (V gp gc gd : Nat) (d : Nat → Int) (b : Bool) (w : World) : Prop where
  p : w.cell? ⟨gp, 0, none⟩ = some (.slice (some ⟨gd, 0, none⟩) V V)
  d : IRow w gd V d
  c : BRow w gc 1 (fun _ => b)
  ne : gp ≠ gd ∧ gp ≠ gc ∧ gd ≠ gc
section
variable {V gp gc gd : Nat} {d d' : Nat → Int} {b b' : Bool} {w w' : World}
theorem PC.kp (h : PC V gp gc gd d b w) {X : List Nat} (hk : Kp X w w') (hp : gp ∉ X) (hd : gd ∉ X) (hc : gc ∉ X) : PC V gp gc gd d b w' :=
  ⟨hk.cell h.p hp, VRow.kp h.d hk hd, VRow.kp h.c hk hc, h.ne⟩
theorem PC.under (h : PC V gp gc gd d b w) (hb : Below w.heap.size w w') : PC V gp gc gd d b w' := h.kp (Kp.of_below (X := []) hb) (by simp) (by simp) (by simp)
theorem PC.put (h : PC V gp gc gd d b w) (i : Nat) (x : Int) : PC V gp gc gd (upd d i x) true ((w.setCell ⟨gd, i, none⟩ (.int .i64 x)).setCell ⟨gc, 0, none⟩ (.bool true)) := by
  have k1 : Kp [gd] w (w.setCell ⟨gd, i, none⟩ (.int .i64 x)) := (Kp.refl _ _).setCell _ _ (.inl (by simp))
  have r1 : IRow (w.setCell ⟨gd, i, none⟩ (.int .i64 x)) gd V (upd d i x) := IRow.set h.d i x (upd_same _ _ _) (fun j hj => upd_other _ _ hj)
  have c1 := VRow.kp h.c k1 (by have := h.ne; simp; omega)
  have p1 := k1.cell h.p (by have := h.ne; simp; omega)
  have k2 : Kp [gc] (w.setCell ⟨gd, i, none⟩ (.int .i64 x)) ((w.setCell ⟨gd, i, none⟩ (.int .i64 x)).setCell ⟨gc, 0, none⟩ (.bool true)) := (Kp.refl _ _).setCell _ _ (.inl (by simp))
  refine ⟨k2.cell p1 (by have := h.ne; simp; omega), VRow.kp r1 k2 (by have := h.ne; simp; omega), ?_, h.ne⟩
  exact VRow.set (VRow.kp c1 (Kp.refl [] _) (by simp)) 0 (.bool true) _ rfl (fun j hj hne => by omega)
end
set_option maxRecDepth 100000 in
set_option maxHeartbeats 2000000 in
theorem relaxer_any (N : Nw) (hok : N.ok) (hV : N.V ≤ 520) (f : Nat → Int) (gp gc gd : Nat) (D : Ds) (hD : ∀ v, v < N.V → -9000000000 ≤ D.d v ∧ D.d v ≤ 0) (s : Sp) (hs : s.i < N.m) (hr : 0 < N.rm f s)
    (x y : Nat) (c : Int) (hx : x = N.beg s) (hy : y = N.fin s) (hc : c = N.sc s) (hc1 : -1000 ≤ c ∧ c ≤ 1000) (w : World) (h : PC N.V gp gc gd D.d D.b w) :
    Calls Try.prog 43 #[.int .i64 (x : Int), .int .i64 (y : Int), .int .i64 c, .pointer (some ⟨gp, 0, none⟩), .pointer (some ⟨gc, 0, none⟩)] w fun e w' =>
      e = .returned (.bool true) ∧ PC N.V gp gc gd (D.imp N f s).d (D.imp N f s).b w' ∧ Kp [gd, gc] w w' := by
  have hbx : x < N.V := by rw [hx]; exact beg_lt hok hs
  have hby : y < N.V := by rw [hy]; exact fin_lt hok hs
  have p0 := h.p
  have c0 := h.d.cell x hbx
  have c1 := h.d.cell y hby
  have f1 := h.d.frozen y
  have f2 := h.c.frozen 0
  have f3 := h.c.cell 0 (by omega)
  have l1 := h.d.lt
  have l2 := h.c.lt
  have l3 := block_lt_of_cell p0
  obtain ⟨n1, n2, n3⟩ := h.ne
  obtain ⟨b1, b2⟩ := hD x hbx
  have H := Lib.hid h
  by_cases hcan : D.d x + c < D.d y
  · have HE : Hid (D.imp N f s = D.put N s) := Lib.hid (Ds.imp_yes ⟨hr, by rw [← hx]; unfold rfar; omega, by rw [← hx, ← hy, ← hc]; exact hcan⟩)
    have HP : Hid (D.put N s = ⟨upd D.d y (D.d x + c), upd D.o y s.code, true⟩) := Lib.hid (by unfold Ds.put; rw [← hx, ← hy, ← hc])
    have HK : Hid (PC N.V gp gc gd (upd D.d y (D.d x + c)) true ((w.setCell ⟨gd, y, none⟩ (.int .i64 (D.d x + c))).setCell ⟨gc, 0, none⟩ (.bool true))) := Lib.hid (h.put y _)
    obtain ⟨dx, hdx⟩ : ∃ dx, D.d x = dx := ⟨_, rfl⟩
    obtain ⟨dy, hdy⟩ : ∃ dy, D.d y = dy := ⟨_, rfl⟩
    obtain ⟨bb, hbb⟩ : ∃ bb, D.b = bb := ⟨_, rfl⟩
    rw [hdx] at c0 hcan HK HP b1 b2
    rw [hdy] at c1 hcan
    rw [hbb] at f3
    have dd : decide (dx + c < dy) = true := by rw [decide_eq_true_iff]; exact hcan
    have hw : IntKind.i64.wrap (dx + c) = dx + c := by rw [IntKind.wrap_i64]; omega
    clear h hcan hD hdx hdy hbb hx hy hc hr hs hok b1 b2
    go_enter Try.func43, Try.ntmps43
    go_wp2_with fail
    go_ret
    exact ⟨rfl, by rw [HE.out, HP.out]; exact HK.out, (((Kp.refl _ _).setCell _ _ (.inl (by simp))).setCell _ _ (.inl (by simp)))⟩
  · have HE : Hid (D.imp N f s = D) := Lib.hid (Ds.imp_no (fun hh => by have := hh.2.2; rw [← hx, ← hy, ← hc] at this; exact hcan this))
    have dd : decide (D.d x + c < D.d y) = false := by rw [decide_eq_false_iff_not]; exact hcan
    have hw : IntKind.i64.wrap (D.d x + c) = D.d x + c := by rw [IntKind.wrap_i64]; omega
    obtain ⟨dx, hdx⟩ : ∃ dx, D.d x = dx := ⟨_, rfl⟩
    obtain ⟨dy, hdy⟩ : ∃ dy, D.d y = dy := ⟨_, rfl⟩
    rw [hdx] at c0 dd hw
    rw [hdy] at c1 dd
    clear h hcan hD hdx hdy hx hy hc hr hs hok b1 b2
    go_enter Try.func43, Try.ntmps43
    go_wp2_with fail
    go_ret
    exact ⟨rfl, by rw [HE.out]; exact H.out, Kp.refl _ _⟩

/-! ### PoR -/

set_option maxRecDepth 100000 in
set_option maxHeartbeats 8000000 in
theorem residual_po (N : Nw) (hv : N.valid) (a : Option Addr) (ca : Nat) (la : Option Addr) (lc : Nat) (f : Nat → Int) (gp gc gd : Nat) (D : Ds) (hD : ∀ k, k ≤ N.m → ∀ v, v < N.V → -8000000000 ≤ (rx N f D k).d v ∧ (rx N f D k).d v ≤ 0)
    (w : World) (hA : Arcs w a N) (hAf : 0 < N.m → ∀ x, a = some x → x.block ∉ [gd, gc]) (hX : Rd w la N.m f) (hXf : 0 < N.m → ∀ x, la = some x → x.block ∉ [gd, gc]) (h : PC N.V gp gc gd D.d D.b w) :
    Calls Try.prog 42 #[N.val a ca, .slice la N.m lc, .func (.func 43) #[] #[.pointer (some ⟨gp, 0, none⟩), .pointer (some ⟨gc, 0, none⟩)]] w fun e w' =>
      e = .returned (.bool true) ∧ PC N.V gp gc gd (rx N f D N.m).d (rx N f D N.m).b w' ∧ Kp [gd, gc] w w' := by
  have hb0 : Below w.heap.size w (w.alloc (.cells #[.int .i64 (N.V : Int), .slice a N.m ca] 25)) := (Below.refl _ _).alloc (Nat.le_refl _) _
  have n1 : (w.alloc (.cells #[.int .i64 (N.V : Int), .slice a N.m ca] 25)).cell? ⟨w.heap.size, 1, none⟩ = some (.slice a N.m ca) := cell_mk _ _ _ rfl rfl
  have hm2 := hv.m2
  have HW : Hid (∀ W, Kp [gd, gc] w W → Arcs W a N ∧ Rd W la N.m f) := Lib.hid (fun W hW => ⟨hA.kp hW hAf, fun j hj => Rd.kp (X := [gd, gc]) hX hW (hXf (by omega)) j hj⟩)
  have HAF := Lib.hid hAf
  have HXF := Lib.hid hXf
  have HV := Lib.hid hv
  have HD := Lib.hid hD
  have HP := Lib.hid (h.under hb0)
  have HK := Lib.hid (Kp.of_below (X := [gd, gc]) hb0)
  have hgd := h.d.lt
  have hgc := h.c.lt
  have HGG : Hid (w.heap.size ∉ [gd, gc]) := Lib.hid (by simp; omega)
  clear h hb0 hv hAf hXf hD hA hX hgd hgc
  go_enter Try.func42, Try.ntmps42
  go_upto_region 1 with fail
  obtain ⟨w1, hw1⟩ : ∃ w1, w1 = (w.alloc (.cells #[.int .i64 (N.V : Int), .slice a N.m ca] 25)) := ⟨_, rfl⟩
  rw [← hw1] at HP HK n1 ⊢
  obtain ⟨gn, hgn⟩ : ∃ gn, w.heap.size = gn := ⟨_, rfl⟩
  rw [hgn] at n1 HGG ⊢
  have nl := block_lt_of_cell n1
  clear hw1 hgn
  go_upto_region 2 with fail
  go_loopw [12] (fun v12 wr => ∃ k : Nat, k ≤ N.m ∧ v12 = .int .i64 k ∧ Hid (PC N.V gp gc gd (rx N f D k).d (rx N f D k).b wr ∧ Kp [gd, gc] w wr)) (fun v _ => N.m - (intOf v).toNat)
  case atStart => exact ⟨0, by omega, rfl, Lib.hid ⟨HP.out, HK.out⟩⟩
  case round =>
    obtain ⟨k, hk, rfl, HR⟩ := hrel
    by_cases hlt : k < N.m
    · obtain ⟨hA, hX⟩ := HW.out _ HR.out.2
      obtain ⟨ba, oa, ea, hbl, q0, q1, q2, q3, q4⟩ := hA k hlt
      obtain ⟨bx, ox, ex, hbx, qx⟩ := hX k hlt
      have HBX : Hid (bx ∉ [gd, gc]) := Lib.hid (HXF.out (by omega) _ ex)
      have HDK := Lib.hid (HD.out k (by omega))
      have HST : Hid (∀ x y : Nat, x = N.fr k → y = N.to k → ∀ c : Int, c = N.c k → ∀ E : Ds, (∀ v, v < N.V → -9000000000 ≤ E.d v ∧ E.d v ≤ 0) → ∀ W, PC N.V gp gc gd E.d E.b W →
          (f k < N.up k → Calls Try.prog 43 #[.int .i64 (x : Int), .int .i64 (y : Int), .int .i64 c, .pointer (some ⟨gp, 0, none⟩), .pointer (some ⟨gc, 0, none⟩)] W fun e w' => e = .returned (.bool true) ∧ PC N.V gp gc gd (E.imp N f ⟨k, true⟩).d (E.imp N f ⟨k, true⟩).b w' ∧ Kp [gd, gc] W w') ∧
          (N.lo k < f k → Calls Try.prog 43 #[.int .i64 (y : Int), .int .i64 (x : Int), .int .i64 (-c), .pointer (some ⟨gp, 0, none⟩), .pointer (some ⟨gc, 0, none⟩)] W fun e w' => e = .returned (.bool true) ∧ PC N.V gp gc gd (E.imp N f ⟨k, false⟩).d (E.imp N f ⟨k, false⟩).b w' ∧ Kp [gd, gc] W w')) := Lib.hid (fun x y hx hy c hc E hE W hW => by
        have hcb := HV.out.c k hlt
        exact ⟨fun hu => relaxer_any N HV.out.ok HV.out.V2 f gp gc gd E hE ⟨k, true⟩ hlt (show 0 < N.up k - f k by omega) x y c hx hy hc (by omega) W hW,
          fun hl => relaxer_any N HV.out.ok HV.out.V2 f gp gc gd E hE ⟨k, false⟩ hlt (show 0 < f k - N.lo k by omega) y x (-c) hy hx (by rw [hc]; rfl) (by omega) W hW⟩)
      have HCB : Hid (-1000 ≤ N.c k ∧ N.c k ≤ 1000) := Lib.hid (HV.out.c k hlt)
      have HNX : Hid (∀ (c1 c2 : Bool), (c1 = true ↔ f k < N.up k) → (c2 = true ↔ N.lo k < f k) → ∀ E1, E1 = (if c1 then (rx N f D k).imp N f ⟨k, true⟩ else rx N f D k) → (∀ v, v < N.V → -9000000000 ≤ E1.d v ∧ E1.d v ≤ 0) ∧ rx N f D (k + 1) = (if c2 then E1.imp N f ⟨k, false⟩ else E1)) := Lib.hid (fun c1 c2 h1 h2 E1 hE1 => by
        have e1 : E1 = (rx N f D k).imp N f ⟨k, true⟩ := by
          cases c1
          · rw [hE1]
            have : ¬ (rx N f D k).can N f ⟨k, true⟩ := fun hc => by
              have h3 : 0 < N.up k - f k := hc.1
              have := h1.2 (by omega)
              cases this
            rw [Ds.imp_no this]; rfl
          · rw [hE1]; rfl
        refine ⟨?_, ?_⟩
        · rw [e1]
          intro v hvV
          have h3 := imp_bd HV.out (f := f) (D := rx N f D k) (s := ⟨k, true⟩) hlt (L := 8000000000) (fun u hu => ⟨(HDK.out u hu).1, by have := (HDK.out u hu).2; unfold rfar; omega⟩) v hvV
          refine ⟨by omega, ?_⟩
          have h4 := HDK.out v hvV
          by_cases hc : (rx N f D k).can N f ⟨k, true⟩
          · rw [Ds.imp_yes hc]
            have := put_le hc v
            omega
          · rw [Ds.imp_no hc]; omega
        · show ((rx N f D k).imp N f ⟨k, true⟩).imp N f ⟨k, false⟩ = _
          rw [← e1]
          cases c2
          · have : ¬ E1.can N f ⟨k, false⟩ := fun hc => by
              have h3 : 0 < f k - N.lo k := hc.1
              have := h2.2 (by omega)
              cases this
            rw [Ds.imp_no this]; rfl
          · rfl)
      obtain ⟨fr, hfr⟩ : ∃ x, N.fr k = x := ⟨_, rfl⟩
      obtain ⟨to_, hto⟩ : ∃ x, N.to k = x := ⟨_, rfl⟩
      obtain ⟨lo, hlo⟩ : ∃ x, N.lo k = x := ⟨_, rfl⟩
      obtain ⟨up, hup⟩ : ∃ x, N.up k = x := ⟨_, rfl⟩
      obtain ⟨co, hco⟩ : ∃ x, N.c k = x := ⟨_, rfl⟩
      obtain ⟨fk, hfk⟩ : ∃ x, f k = x := ⟨_, rfl⟩
      rw [hfr] at q0
      rw [hto] at q1
      rw [hlo] at q2
      rw [hup] at q3
      rw [hco] at q4 HCB
      rw [hfk] at qx
      rw [hfk, hup, hlo] at HNX HST
      obtain ⟨E0, hE0⟩ : ∃ E, rx N f D k = E := ⟨_, rfl⟩
      rw [hE0] at HR HNX HDK
      have HS2 := Lib.hid (fun E hE W hW => HST.out fr to_ hfr.symm hto.symm co hco.symm E hE W hW)
      have HE0 : Hid (∀ v, v < N.V → -9000000000 ≤ E0.d v ∧ E0.d v ≤ 0) := Lib.hid (fun v hvV => by have := HDK.out v hvV; omega)
      clear hfr hto hlo hup hco hfk HST hA hX hE0 HDK
      subst ea ex
      clear HAF HXF
      go_upto_region 4 with fail
      obtain ⟨wA, hwA⟩ : ∃ wA, wA = (wr.alloc (.cells #[.int .i64 (fr : Int), .int .i64 (to_ : Int), .int .i64 lo, .int .i64 up, .int .i64 co] 46)) := ⟨_, rfl⟩
      rw [← hwA]
      have hbA : Below wr.heap.size wr wA := by rw [hwA]; exact (Below.refl _ _).alloc (Nat.le_refl _) _
      have e0 : wA.cell? ⟨wr.heap.size, 0, none⟩ = some (.int .i64 (fr : Int)) := by rw [hwA]; exact cell_mk _ _ _ rfl rfl
      have e1 : wA.cell? ⟨wr.heap.size, 1, none⟩ = some (.int .i64 (to_ : Int)) := by rw [hwA]; exact cell_mk _ _ _ rfl rfl
      have e2 : wA.cell? ⟨wr.heap.size, 2, none⟩ = some (.int .i64 lo) := by rw [hwA]; exact cell_mk _ _ _ rfl rfl
      have e3 : wA.cell? ⟨wr.heap.size, 3, none⟩ = some (.int .i64 up) := by rw [hwA]; exact cell_mk _ _ _ rfl rfl
      have e4 : wA.cell? ⟨wr.heap.size, 4, none⟩ = some (.int .i64 co) := by rw [hwA]; exact cell_mk _ _ _ rfl rfl
      replace qx := (hbA.cell (p := ⟨bx, ox + k, none⟩) hbx).trans qx
      have HR1 : Hid (PC N.V gp gc gd E0.d E0.b wA ∧ Kp [gd, gc] w wA) := Lib.hid ⟨HR.out.1.under hbA, HR.out.2.trans (Kp.of_below hbA)⟩
      have HGZ : Hid (wr.heap.size ∉ [gd, gc]) := Lib.hid (by have h1 := HR.out.1.d.lt; have h2 := HR.out.1.c.lt; simp; omega)
      obtain ⟨gz, hgz⟩ : ∃ gz, wr.heap.size = gz := ⟨_, rfl⟩
      rw [hgz] at e0 e1 e2 e3 e4 HGZ ⊢
      clear hwA hgz hbA q0 q1 q2 q3 q4 HR
      have hwc : IntKind.i64.wrap (-co) = -co := by have := HCB.out; rw [IntKind.wrap_i64]; omega
      clear hbl hbx
      clear wr
      have HR1d : Hid (PC N.V gp gc gd E0.d E0.b wA.drew ∧ Kp [gd, gc] w wA.drew) := Lib.hid ⟨HR1.out.1.kp ((Kp.refl [] _).drew) (by simp) (by simp) (by simp), HR1.out.2.drew⟩
      have e0d := ((Kp.refl [] wA).drew).cell e0 (by simp)
      have e1d := ((Kp.refl [] wA).drew).cell e1 (by simp)
      have e2d := ((Kp.refl [] wA).drew).cell e2 (by simp)
      have e3d := ((Kp.refl [] wA).drew).cell e3 (by simp)
      have e4d := ((Kp.refl [] wA).drew).cell e4 (by simp)
      have qxd := ((Kp.refl [] wA).drew).cell qx (by simp)
      by_cases hA : fk < up
      · have dA : decide (fk < up) = true := by simpa using hA
        by_cases hB : lo < fk
        · have dB : decide (lo < fk) = true := by simpa using hB
          obtain ⟨hE1, hNE⟩ := HNX.out true true (by simp [hA]) (by simp [hB]) _ rfl
          simp only [if_true, if_false, Bool.false_eq_true] at hE1 hNE
          have HE1 := Lib.hid hE1
          have HNE := Lib.hid hNE
          clear hE1 hNE HNX
          refine wp_region_held_drew (S := (fun w' => w'.cell? ⟨bx, ox + k, none⟩ = some (.int .i64 fk) ∧ w'.cell? ⟨gz, 0, none⟩ = some (.int .i64 (fr : Int)) ∧ w'.cell? ⟨gz, 1, none⟩ = some (.int .i64 (to_ : Int)) ∧ w'.cell? ⟨gz, 2, none⟩ = some (.int .i64 lo) ∧ w'.cell? ⟨gz, 3, none⟩ = some (.int .i64 up) ∧ w'.cell? ⟨gz, 4, none⟩ = some (.int .i64 co))) (by kernel_rfl) ⟨qx, e0, e1, e2, e3, e4⟩ (fun hHeld => ?_)
          refine wpAnyH_takeD (i := 0) (d := some 17) (v := ?_) rfl (by kernel_rfl) (by kernel_rfl) (by kernel_rfl) (by kernel_rfl) (fun _ _ _ h => h) (Or.inl ⟨by kernel_rfl, ?_⟩) (by assumption) ?_
          rotate_left
          · (intro w hSw; (try dsimp only at hSw); go_simp; try with_reducible rfl)
          simp only [Act.put, List.setIfInBounds_toArray, List.set_cons_zero, List.set_cons_succ]
          refine wpAnyH_takeD (i := 1) (d := some 18) (v := ?_) rfl (by kernel_rfl) (by kernel_rfl) (by kernel_rfl) (by kernel_rfl) (fun _ _ _ h => h) (Or.inl ⟨by kernel_rfl, ?_⟩) (by assumption) ?_
          rotate_left
          · (intro w hSw; (try dsimp only at hSw); go_simp; try with_reducible rfl)
          simp only [Act.put, List.setIfInBounds_toArray, List.set_cons_zero, List.set_cons_succ]
          refine wpAnyH_takeD (i := 2) (d := some 19) (v := ?_) rfl (by kernel_rfl) (by kernel_rfl) (by kernel_rfl) (by kernel_rfl) (fun _ _ _ h => h) (Or.inl ⟨by kernel_rfl, ?_⟩) (by assumption) ?_
          rotate_left
          · (intro w hSw; (try dsimp only at hSw); go_simp; try with_reducible rfl)
          simp only [Act.put, List.setIfInBounds_toArray, List.set_cons_zero, List.set_cons_succ]
          refine wpAnyH_takeD (i := 3) (d := some 20) (v := ?_) rfl (by kernel_rfl) (by kernel_rfl) (by kernel_rfl) (by kernel_rfl) (fun _ _ _ h => h) (Or.inl ⟨by kernel_rfl, ?_⟩) (by assumption) ?_
          rotate_left
          · (intro w hSw; (try dsimp only at hSw); go_simp; try with_reducible rfl)
          simp only [Act.put, List.setIfInBounds_toArray, List.set_cons_zero, List.set_cons_succ]
          refine wpAnyH_takeD (i := 4) (d := some 21) (v := ?_) rfl (by kernel_rfl) (by kernel_rfl) (by kernel_rfl) (by kernel_rfl) (fun _ _ _ h => h) (Or.inl ⟨by kernel_rfl, ?_⟩) (by assumption) ?_
          rotate_left
          · (intro w hSw; (try dsimp only at hSw); go_simp; try with_reducible rfl)
          simp only [Act.put, List.setIfInBounds_toArray, List.set_cons_zero, List.set_cons_succ]
          refine wpAnyH_takeD (i := 5) (d := some 22) (v := ?_) rfl (by kernel_rfl) (by kernel_rfl) (by kernel_rfl) (by kernel_rfl) (fun _ _ _ h => h) (Or.inl ⟨by kernel_rfl, ?_⟩) (by assumption) ?_
          rotate_left
          · (intro w hSw; (try dsimp only at hSw); go_simp; try with_reducible rfl)
          simp only [Act.put, List.setIfInBounds_toArray, List.set_cons_zero, List.set_cons_succ]
          refine wpAnyH_takeD (i := 6) (d := some 23) (v := ?_) rfl (by kernel_rfl) (by kernel_rfl) (by kernel_rfl) (by kernel_rfl) (fun _ _ _ h => h) (Or.inl ⟨by kernel_rfl, ?_⟩) (by assumption) ?_
          rotate_left
          · (intro w hSw; (try dsimp only at hSw); go_simp; try with_reducible rfl)
          simp only [Act.put, List.setIfInBounds_toArray, List.set_cons_zero, List.set_cons_succ]
          refine wpAnyH_takeD (i := 7) (d := some 24) (v := ?_) rfl (by kernel_rfl) (by kernel_rfl) (by kernel_rfl) (by kernel_rfl) (fun _ _ _ h => h) (Or.inl ⟨by kernel_rfl, ?_⟩) (by assumption) ?_
          rotate_left
          · (intro w hSw; (try dsimp only at hSw); go_simp; try with_reducible rfl)
          simp only [Act.put, List.setIfInBounds_toArray, List.set_cons_zero, List.set_cons_succ]
          refine wpAnyH_takeD (i := 8) (d := some 25) (v := ?_) rfl (by kernel_rfl) (by kernel_rfl) (by kernel_rfl) (by kernel_rfl) (fun _ _ _ h => h) (Or.inl ⟨by kernel_rfl, ?_⟩) (by assumption) ?_
          rotate_left
          · (intro w hSw; (try dsimp only at hSw); go_simp; try with_reducible rfl)
          simp only [Act.put, List.setIfInBounds_toArray, List.set_cons_zero, List.set_cons_succ]
          refine wpAnyH_takeD (i := 9) (d := some 26) (v := ?_) rfl (by kernel_rfl) (by kernel_rfl) (by kernel_rfl) (by kernel_rfl) (fun _ _ _ h => h) (Or.inl ⟨by kernel_rfl, ?_⟩) (by assumption) ?_
          rotate_left
          · (intro w hSw; (try dsimp only at hSw); go_simp; try with_reducible rfl)
          simp only [Act.put, List.setIfInBounds_toArray, List.set_cons_zero, List.set_cons_succ]
          refine wpAnyH_takeD (i := 10) (d := some 27) (v := ?_) rfl (by kernel_rfl) (by kernel_rfl) (by kernel_rfl) (by kernel_rfl) (fun _ _ _ h => h) (Or.inl ⟨by kernel_rfl, ?_⟩) (by assumption) ?_
          rotate_left
          · (intro w hSw; (try dsimp only at hSw); go_simp; try with_reducible rfl)
          simp only [Act.put, List.setIfInBounds_toArray, List.set_cons_zero, List.set_cons_succ]
          refine wpAnyH_takeD (i := 11) (d := some 28) (v := ?_) rfl (by kernel_rfl) (by kernel_rfl) (by kernel_rfl) (by kernel_rfl) (fun _ _ _ h => h) (Or.inl ⟨by kernel_rfl, ?_⟩) (by assumption) ?_
          rotate_left
          · (intro w hSw; (try dsimp only at hSw); go_simp; try with_reducible rfl)
          simp only [Act.put, List.setIfInBounds_toArray, List.set_cons_zero, List.set_cons_succ]
          refine wpAnyH_takeD (i := 12) (d := some 29) (v := ?_) rfl (by kernel_rfl) (by kernel_rfl) (by kernel_rfl) (by kernel_rfl) (fun _ _ _ h => h) (Or.inl ⟨by kernel_rfl, ?_⟩) (by assumption) ?_
          rotate_left
          · (intro w hSw; (try dsimp only at hSw); go_simp; try with_reducible rfl)
          simp only [Act.put, List.setIfInBounds_toArray, List.set_cons_zero, List.set_cons_succ]
          refine wpAnyH_takeD (i := 13) (d := some 30) (v := ?_) rfl (by kernel_rfl) (by kernel_rfl) (by kernel_rfl) (by kernel_rfl) (fun _ _ _ h => h) (Or.inl ⟨by kernel_rfl, ?_⟩) (by assumption) ?_
          rotate_left
          · (intro w hSw; (try dsimp only at hSw); go_simp; try with_reducible rfl)
          simp only [Act.put, List.setIfInBounds_toArray, List.set_cons_zero, List.set_cons_succ]
          refine wpAnyH_takeD (i := 14) (d := some 31) (v := ?_) rfl (by kernel_rfl) (by kernel_rfl) (by kernel_rfl) (by kernel_rfl) (fun _ _ _ h => h) (Or.inl ⟨by kernel_rfl, ?_⟩) (by assumption) ?_
          rotate_left
          · (intro w hSw; (try dsimp only at hSw); go_simp; try with_reducible rfl)
          simp only [Act.put, List.setIfInBounds_toArray, List.set_cons_zero, List.set_cons_succ]
          refine wpAnyH_ready (rs := [15]) (by kernel_rfl) (by simp) ?_
          refine AllReadyH.cons rfl (fun K hK => ?_) AllReadyH.nil
          go_simp
          refine ((HS2.out E0 HE0.out _ HR1d.out.1).1 hA).mono ?_
          rintro e w2 ⟨rfl, hp2, hk2⟩
          have c0 := hk2.cell e0d HGZ.out
          have c1 := hk2.cell e1d HGZ.out
          have c2 := hk2.cell e2d HGZ.out
          have c3 := hk2.cell e3d HGZ.out
          have c4 := hk2.cell e4d HGZ.out
          have cx := hk2.cell qxd HBX.out
          refine hK.out _ _ ⟨cx, c0, c1, c2, c3, c4⟩ (fun hHeld => ?_)
          clear hK K
          have HR2 : Hid (PC N.V gp gc gd (E0.imp N f ⟨k, true⟩).d (E0.imp N f ⟨k, true⟩).b w2 ∧ Kp [gd, gc] w w2) := Lib.hid ⟨hp2, HR1.out.2.drew.trans hk2⟩
          clear hp2 hk2
          (try simp only [Act.put, List.setIfInBounds_toArray, List.set_cons_zero, List.set_cons_succ])
          refine wpAnyH_takeD (i := 16) (d := some 33) (v := ?_) rfl (by kernel_rfl) (by kernel_rfl) (by kernel_rfl) (by kernel_rfl) (fun _ _ _ h => h) (Or.inl ⟨by kernel_rfl, ?_⟩) (by assumption) ?_
          rotate_left
          · (intro w hSw; (try dsimp only at hSw); go_simp; try with_reducible rfl)
          simp only [Act.put, List.setIfInBounds_toArray, List.set_cons_zero, List.set_cons_succ]
          refine wpAnyH_takeD (i := 17) (d := some 34) (v := ?_) rfl (by kernel_rfl) (by kernel_rfl) (by kernel_rfl) (by kernel_rfl) (fun _ _ _ h => h) (Or.inl ⟨by kernel_rfl, ?_⟩) (by assumption) ?_
          rotate_left
          · (intro w hSw; (try dsimp only at hSw); go_simp; try with_reducible rfl)
          simp only [Act.put, List.setIfInBounds_toArray, List.set_cons_zero, List.set_cons_succ]
          refine wpAnyH_takeD (i := 18) (d := some 35) (v := ?_) rfl (by kernel_rfl) (by kernel_rfl) (by kernel_rfl) (by kernel_rfl) (fun _ _ _ h => h) (Or.inl ⟨by kernel_rfl, ?_⟩) (by assumption) ?_
          rotate_left
          · (intro w hSw; (try dsimp only at hSw); go_simp; try with_reducible rfl)
          simp only [Act.put, List.setIfInBounds_toArray, List.set_cons_zero, List.set_cons_succ]
          refine wpAnyH_takeD (i := 19) (d := some 36) (v := ?_) rfl (by kernel_rfl) (by kernel_rfl) (by kernel_rfl) (by kernel_rfl) (fun _ _ _ h => h) (Or.inl ⟨by kernel_rfl, ?_⟩) (by assumption) ?_
          rotate_left
          · (intro w hSw; (try dsimp only at hSw); go_simp; try with_reducible rfl)
          simp only [Act.put, List.setIfInBounds_toArray, List.set_cons_zero, List.set_cons_succ]
          refine wpAnyH_takeD (i := 20) (d := some 37) (v := ?_) rfl (by kernel_rfl) (by kernel_rfl) (by kernel_rfl) (by kernel_rfl) (fun _ _ _ h => h) (Or.inl ⟨by kernel_rfl, ?_⟩) (by assumption) ?_
          rotate_left
          · (intro w hSw; (try dsimp only at hSw); go_simp; try with_reducible rfl)
          simp only [Act.put, List.setIfInBounds_toArray, List.set_cons_zero, List.set_cons_succ]
          refine wpAnyH_takeD (i := 21) (d := some 38) (v := ?_) rfl (by kernel_rfl) (by kernel_rfl) (by kernel_rfl) (by kernel_rfl) (fun _ _ _ h => h) (Or.inl ⟨by kernel_rfl, ?_⟩) (by assumption) ?_
          rotate_left
          · (intro w hSw; (try dsimp only at hSw); go_simp; try with_reducible rfl)
          simp only [Act.put, List.setIfInBounds_toArray, List.set_cons_zero, List.set_cons_succ]
          refine wpAnyH_takeD (i := 22) (d := some 39) (v := ?_) rfl (by kernel_rfl) (by kernel_rfl) (by kernel_rfl) (by kernel_rfl) (fun _ _ _ h => h) (Or.inl ⟨by kernel_rfl, ?_⟩) (by assumption) ?_
          rotate_left
          · (intro w hSw; (try dsimp only at hSw); go_simp; try with_reducible rfl)
          simp only [Act.put, List.setIfInBounds_toArray, List.set_cons_zero, List.set_cons_succ]
          refine wpAnyH_takeD (i := 23) (d := some 40) (v := ?_) rfl (by kernel_rfl) (by kernel_rfl) (by kernel_rfl) (by kernel_rfl) (fun _ _ _ h => h) (Or.inl ⟨by kernel_rfl, ?_⟩) (by assumption) ?_
          rotate_left
          · (intro w hSw; (try dsimp only at hSw); go_simp; try with_reducible rfl)
          simp only [Act.put, List.setIfInBounds_toArray, List.set_cons_zero, List.set_cons_succ]
          refine wpAnyH_takeD (i := 24) (d := some 41) (v := ?_) rfl (by kernel_rfl) (by kernel_rfl) (by kernel_rfl) (by kernel_rfl) (fun _ _ _ h => h) (Or.inl ⟨by kernel_rfl, ?_⟩) (by assumption) ?_
          rotate_left
          · (intro w hSw; (try dsimp only at hSw); go_simp; try with_reducible rfl)
          simp only [Act.put, List.setIfInBounds_toArray, List.set_cons_zero, List.set_cons_succ]
          refine wpAnyH_takeD (i := 25) (d := some 42) (v := ?_) rfl (by kernel_rfl) (by kernel_rfl) (by kernel_rfl) (by kernel_rfl) (fun _ _ _ h => h) (Or.inl ⟨by kernel_rfl, ?_⟩) (by assumption) ?_
          rotate_left
          · (intro w hSw; (try dsimp only at hSw); go_simp; try with_reducible rfl)
          simp only [Act.put, List.setIfInBounds_toArray, List.set_cons_zero, List.set_cons_succ]
          refine wpAnyH_takeD (i := 26) (d := some 43) (v := ?_) rfl (by kernel_rfl) (by kernel_rfl) (by kernel_rfl) (by kernel_rfl) (fun _ _ _ h => h) (Or.inl ⟨by kernel_rfl, ?_⟩) (by assumption) ?_
          rotate_left
          · (intro w hSw; (try dsimp only at hSw); go_simp; try with_reducible rfl)
          simp only [Act.put, List.setIfInBounds_toArray, List.set_cons_zero, List.set_cons_succ]
          refine wpAnyH_takeD (i := 27) (d := some 44) (v := ?_) rfl (by kernel_rfl) (by kernel_rfl) (by kernel_rfl) (by kernel_rfl) (fun _ _ _ h => h) (Or.inl ⟨by kernel_rfl, ?_⟩) (by assumption) ?_
          rotate_left
          · (intro w hSw; (try dsimp only at hSw); go_simp; try with_reducible rfl)
          simp only [Act.put, List.setIfInBounds_toArray, List.set_cons_zero, List.set_cons_succ]
          refine wpAnyH_takeD (i := 28) (d := some 45) (v := ?_) rfl (by kernel_rfl) (by kernel_rfl) (by kernel_rfl) (by kernel_rfl) (fun _ _ _ h => h) (Or.inl ⟨by kernel_rfl, ?_⟩) (by assumption) ?_
          rotate_left
          · (intro w hSw; (try dsimp only at hSw); go_simp; try with_reducible rfl)
          simp only [Act.put, List.setIfInBounds_toArray, List.set_cons_zero, List.set_cons_succ]
          refine wpAnyH_takeD (i := 29) (d := some 46) (v := ?_) rfl (by kernel_rfl) (by kernel_rfl) (by kernel_rfl) (by kernel_rfl) (fun _ _ _ h => h) (Or.inl ⟨by kernel_rfl, ?_⟩) (by assumption) ?_
          rotate_left
          · (intro w hSw; (try dsimp only at hSw); go_simp; try with_reducible rfl)
          simp only [Act.put, List.setIfInBounds_toArray, List.set_cons_zero, List.set_cons_succ]
          refine wpAnyH_takeD (i := 30) (d := some 47) (v := ?_) rfl (by kernel_rfl) (by kernel_rfl) (by kernel_rfl) (by kernel_rfl) (fun _ _ _ h => h) (Or.inl ⟨by kernel_rfl, ?_⟩) (by assumption) ?_
          rotate_left
          · (intro w hSw; (try dsimp only at hSw); go_simp; try with_reducible rfl)
          simp only [Act.put, List.setIfInBounds_toArray, List.set_cons_zero, List.set_cons_succ]
          refine wpAnyH_takeD (i := 31) (d := some 48) (v := ?_) rfl (by kernel_rfl) (by kernel_rfl) (by kernel_rfl) (by kernel_rfl) (fun _ _ _ h => h) (Or.inl ⟨by kernel_rfl, ?_⟩) (by assumption) ?_
          rotate_left
          · (intro w hSw; (try dsimp only at hSw); go_simp; try with_reducible rfl)
          simp only [Act.put, List.setIfInBounds_toArray, List.set_cons_zero, List.set_cons_succ]
          refine wpAnyH_takeD (i := 32) (d := some 49) (v := ?_) rfl (by kernel_rfl) (by kernel_rfl) (by kernel_rfl) (by kernel_rfl) (fun _ _ _ h => h) (Or.inl ⟨by kernel_rfl, ?_⟩) (by assumption) ?_
          rotate_left
          · (intro w hSw; (try dsimp only at hSw); go_simp; try with_reducible rfl)
          simp only [Act.put, List.setIfInBounds_toArray, List.set_cons_zero, List.set_cons_succ]
          refine wpAnyH_takeD (i := 33) (d := some 50) (v := ?_) rfl (by kernel_rfl) (by kernel_rfl) (by kernel_rfl) (by kernel_rfl) (fun _ _ _ h => h) (Or.inl ⟨by kernel_rfl, ?_⟩) (by assumption) ?_
          rotate_left
          · (intro w hSw; (try dsimp only at hSw); go_simp; try with_reducible rfl)
          simp only [Act.put, List.setIfInBounds_toArray, List.set_cons_zero, List.set_cons_succ]
          refine wpAnyH_takeD (i := 34) (d := some 51) (v := ?_) rfl (by kernel_rfl) (by kernel_rfl) (by kernel_rfl) (by kernel_rfl) (fun _ _ _ h => h) (Or.inl ⟨by kernel_rfl, ?_⟩) (by assumption) ?_
          rotate_left
          · (intro w hSw; (try dsimp only at hSw); go_simp; try with_reducible rfl)
          simp only [Act.put, List.setIfInBounds_toArray, List.set_cons_zero, List.set_cons_succ]
          refine wpAnyH_ready (rs := [35]) (by kernel_rfl) (by simp) ?_
          refine AllReadyH.cons rfl (fun K hK => ?_) AllReadyH.nil
          go_simp
          refine ((HS2.out _ HE1.out _ HR2.out.1).2 hB).mono ?_
          rintro e w3 ⟨rfl, hp3, hk3⟩
          refine hK.out _ _ ⟨hk3.cell cx HBX.out, hk3.cell c0 HGZ.out, hk3.cell c1 HGZ.out, hk3.cell c2 HGZ.out, hk3.cell c3 HGZ.out, hk3.cell c4 HGZ.out⟩ (fun hHeld => ?_)
          clear hK K
          have HR3 : Hid (PC N.V gp gc gd (rx N f D (k + 1)).d (rx N f D (k + 1)).b w3 ∧ Kp [gd, gc] w w3) := Lib.hid ⟨by rw [HNE.out]; exact hp3, HR2.out.2.trans hk3⟩
          clear hp3 hk3
          (try simp only [Act.put, List.setIfInBounds_toArray, List.set_cons_zero, List.set_cons_succ])
          refine wpAnyH_takeD (i := 36) (d := some 53) (v := ?_) rfl (by kernel_rfl) (by kernel_rfl) (by kernel_rfl) (by kernel_rfl) (fun _ _ _ h => h) (Or.inl ⟨by kernel_rfl, ?_⟩) (by assumption) ?_
          rotate_left
          · (intro w hSw; (try dsimp only at hSw); go_simp; try with_reducible rfl)
          simp only [Act.put, List.setIfInBounds_toArray, List.set_cons_zero, List.set_cons_succ]
          refine wpAnyH_takeD (i := 37) (d := some 54) (v := ?_) rfl (by kernel_rfl) (by kernel_rfl) (by kernel_rfl) (by kernel_rfl) (fun _ _ _ h => h) (Or.inl ⟨by kernel_rfl, ?_⟩) (by assumption) ?_
          rotate_left
          · (intro w hSw; (try dsimp only at hSw); go_simp; try with_reducible rfl)
          simp only [Act.put, List.setIfInBounds_toArray, List.set_cons_zero, List.set_cons_succ]
          refine wpAnyH_takeD (i := 38) (d := some 55) (v := ?_) rfl (by kernel_rfl) (by kernel_rfl) (by kernel_rfl) (by kernel_rfl) (fun _ _ _ h => h) (Or.inl ⟨by kernel_rfl, ?_⟩) (by assumption) ?_
          rotate_left
          · (intro w hSw; (try dsimp only at hSw); go_simp; try with_reducible rfl)
          simp only [Act.put, List.setIfInBounds_toArray, List.set_cons_zero, List.set_cons_succ]
          refine wpAnyH_done (by kernel_rfl) ?_ _
          clear HNE qx e0 e1 e2 e3 e4
          go_wp2_with fail
          go_roundw
          case rel => exact ⟨k + 1, by omega, by go_num, HR3⟩
          case measure => simp [intOf]; omega
        · have dB : decide (lo < fk) = false := by simpa using hB
          obtain ⟨hE1, hNE⟩ := HNX.out true false (by simp [hA]) (by simp [hB]) _ rfl
          simp only [if_true, if_false, Bool.false_eq_true] at hE1 hNE
          have HE1 := Lib.hid hE1
          have HNE := Lib.hid hNE
          clear hE1 hNE HNX
          refine wp_region_held_drew (S := (fun w' => w'.cell? ⟨bx, ox + k, none⟩ = some (.int .i64 fk) ∧ w'.cell? ⟨gz, 0, none⟩ = some (.int .i64 (fr : Int)) ∧ w'.cell? ⟨gz, 1, none⟩ = some (.int .i64 (to_ : Int)) ∧ w'.cell? ⟨gz, 2, none⟩ = some (.int .i64 lo) ∧ w'.cell? ⟨gz, 3, none⟩ = some (.int .i64 up) ∧ w'.cell? ⟨gz, 4, none⟩ = some (.int .i64 co))) (by kernel_rfl) ⟨qx, e0, e1, e2, e3, e4⟩ (fun hHeld => ?_)
          refine wpAnyH_takeD (i := 0) (d := some 17) (v := ?_) rfl (by kernel_rfl) (by kernel_rfl) (by kernel_rfl) (by kernel_rfl) (fun _ _ _ h => h) (Or.inl ⟨by kernel_rfl, ?_⟩) (by assumption) ?_
          rotate_left
          · (intro w hSw; (try dsimp only at hSw); go_simp; try with_reducible rfl)
          simp only [Act.put, List.setIfInBounds_toArray, List.set_cons_zero, List.set_cons_succ]
          refine wpAnyH_takeD (i := 1) (d := some 18) (v := ?_) rfl (by kernel_rfl) (by kernel_rfl) (by kernel_rfl) (by kernel_rfl) (fun _ _ _ h => h) (Or.inl ⟨by kernel_rfl, ?_⟩) (by assumption) ?_
          rotate_left
          · (intro w hSw; (try dsimp only at hSw); go_simp; try with_reducible rfl)
          simp only [Act.put, List.setIfInBounds_toArray, List.set_cons_zero, List.set_cons_succ]
          refine wpAnyH_takeD (i := 2) (d := some 19) (v := ?_) rfl (by kernel_rfl) (by kernel_rfl) (by kernel_rfl) (by kernel_rfl) (fun _ _ _ h => h) (Or.inl ⟨by kernel_rfl, ?_⟩) (by assumption) ?_
          rotate_left
          · (intro w hSw; (try dsimp only at hSw); go_simp; try with_reducible rfl)
          simp only [Act.put, List.setIfInBounds_toArray, List.set_cons_zero, List.set_cons_succ]
          refine wpAnyH_takeD (i := 3) (d := some 20) (v := ?_) rfl (by kernel_rfl) (by kernel_rfl) (by kernel_rfl) (by kernel_rfl) (fun _ _ _ h => h) (Or.inl ⟨by kernel_rfl, ?_⟩) (by assumption) ?_
          rotate_left
          · (intro w hSw; (try dsimp only at hSw); go_simp; try with_reducible rfl)
          simp only [Act.put, List.setIfInBounds_toArray, List.set_cons_zero, List.set_cons_succ]
          refine wpAnyH_takeD (i := 4) (d := some 21) (v := ?_) rfl (by kernel_rfl) (by kernel_rfl) (by kernel_rfl) (by kernel_rfl) (fun _ _ _ h => h) (Or.inl ⟨by kernel_rfl, ?_⟩) (by assumption) ?_
          rotate_left
          · (intro w hSw; (try dsimp only at hSw); go_simp; try with_reducible rfl)
          simp only [Act.put, List.setIfInBounds_toArray, List.set_cons_zero, List.set_cons_succ]
          refine wpAnyH_takeD (i := 5) (d := some 22) (v := ?_) rfl (by kernel_rfl) (by kernel_rfl) (by kernel_rfl) (by kernel_rfl) (fun _ _ _ h => h) (Or.inl ⟨by kernel_rfl, ?_⟩) (by assumption) ?_
          rotate_left
          · (intro w hSw; (try dsimp only at hSw); go_simp; try with_reducible rfl)
          simp only [Act.put, List.setIfInBounds_toArray, List.set_cons_zero, List.set_cons_succ]
          refine wpAnyH_takeD (i := 6) (d := some 23) (v := ?_) rfl (by kernel_rfl) (by kernel_rfl) (by kernel_rfl) (by kernel_rfl) (fun _ _ _ h => h) (Or.inl ⟨by kernel_rfl, ?_⟩) (by assumption) ?_
          rotate_left
          · (intro w hSw; (try dsimp only at hSw); go_simp; try with_reducible rfl)
          simp only [Act.put, List.setIfInBounds_toArray, List.set_cons_zero, List.set_cons_succ]
          refine wpAnyH_takeD (i := 7) (d := some 24) (v := ?_) rfl (by kernel_rfl) (by kernel_rfl) (by kernel_rfl) (by kernel_rfl) (fun _ _ _ h => h) (Or.inl ⟨by kernel_rfl, ?_⟩) (by assumption) ?_
          rotate_left
          · (intro w hSw; (try dsimp only at hSw); go_simp; try with_reducible rfl)
          simp only [Act.put, List.setIfInBounds_toArray, List.set_cons_zero, List.set_cons_succ]
          refine wpAnyH_takeD (i := 8) (d := some 25) (v := ?_) rfl (by kernel_rfl) (by kernel_rfl) (by kernel_rfl) (by kernel_rfl) (fun _ _ _ h => h) (Or.inl ⟨by kernel_rfl, ?_⟩) (by assumption) ?_
          rotate_left
          · (intro w hSw; (try dsimp only at hSw); go_simp; try with_reducible rfl)
          simp only [Act.put, List.setIfInBounds_toArray, List.set_cons_zero, List.set_cons_succ]
          refine wpAnyH_takeD (i := 9) (d := some 26) (v := ?_) rfl (by kernel_rfl) (by kernel_rfl) (by kernel_rfl) (by kernel_rfl) (fun _ _ _ h => h) (Or.inl ⟨by kernel_rfl, ?_⟩) (by assumption) ?_
          rotate_left
          · (intro w hSw; (try dsimp only at hSw); go_simp; try with_reducible rfl)
          simp only [Act.put, List.setIfInBounds_toArray, List.set_cons_zero, List.set_cons_succ]
          refine wpAnyH_takeD (i := 10) (d := some 27) (v := ?_) rfl (by kernel_rfl) (by kernel_rfl) (by kernel_rfl) (by kernel_rfl) (fun _ _ _ h => h) (Or.inl ⟨by kernel_rfl, ?_⟩) (by assumption) ?_
          rotate_left
          · (intro w hSw; (try dsimp only at hSw); go_simp; try with_reducible rfl)
          simp only [Act.put, List.setIfInBounds_toArray, List.set_cons_zero, List.set_cons_succ]
          refine wpAnyH_takeD (i := 11) (d := some 28) (v := ?_) rfl (by kernel_rfl) (by kernel_rfl) (by kernel_rfl) (by kernel_rfl) (fun _ _ _ h => h) (Or.inl ⟨by kernel_rfl, ?_⟩) (by assumption) ?_
          rotate_left
          · (intro w hSw; (try dsimp only at hSw); go_simp; try with_reducible rfl)
          simp only [Act.put, List.setIfInBounds_toArray, List.set_cons_zero, List.set_cons_succ]
          refine wpAnyH_takeD (i := 12) (d := some 29) (v := ?_) rfl (by kernel_rfl) (by kernel_rfl) (by kernel_rfl) (by kernel_rfl) (fun _ _ _ h => h) (Or.inl ⟨by kernel_rfl, ?_⟩) (by assumption) ?_
          rotate_left
          · (intro w hSw; (try dsimp only at hSw); go_simp; try with_reducible rfl)
          simp only [Act.put, List.setIfInBounds_toArray, List.set_cons_zero, List.set_cons_succ]
          refine wpAnyH_takeD (i := 13) (d := some 30) (v := ?_) rfl (by kernel_rfl) (by kernel_rfl) (by kernel_rfl) (by kernel_rfl) (fun _ _ _ h => h) (Or.inl ⟨by kernel_rfl, ?_⟩) (by assumption) ?_
          rotate_left
          · (intro w hSw; (try dsimp only at hSw); go_simp; try with_reducible rfl)
          simp only [Act.put, List.setIfInBounds_toArray, List.set_cons_zero, List.set_cons_succ]
          refine wpAnyH_takeD (i := 14) (d := some 31) (v := ?_) rfl (by kernel_rfl) (by kernel_rfl) (by kernel_rfl) (by kernel_rfl) (fun _ _ _ h => h) (Or.inl ⟨by kernel_rfl, ?_⟩) (by assumption) ?_
          rotate_left
          · (intro w hSw; (try dsimp only at hSw); go_simp; try with_reducible rfl)
          simp only [Act.put, List.setIfInBounds_toArray, List.set_cons_zero, List.set_cons_succ]
          refine wpAnyH_ready (rs := [15]) (by kernel_rfl) (by simp) ?_
          refine AllReadyH.cons rfl (fun K hK => ?_) AllReadyH.nil
          go_simp
          refine ((HS2.out E0 HE0.out _ HR1d.out.1).1 hA).mono ?_
          rintro e w2 ⟨rfl, hp2, hk2⟩
          have c0 := hk2.cell e0d HGZ.out
          have c1 := hk2.cell e1d HGZ.out
          have c2 := hk2.cell e2d HGZ.out
          have c3 := hk2.cell e3d HGZ.out
          have c4 := hk2.cell e4d HGZ.out
          have cx := hk2.cell qxd HBX.out
          refine hK.out _ _ ⟨cx, c0, c1, c2, c3, c4⟩ (fun hHeld => ?_)
          clear hK K
          have HR2 : Hid (PC N.V gp gc gd (E0.imp N f ⟨k, true⟩).d (E0.imp N f ⟨k, true⟩).b w2 ∧ Kp [gd, gc] w w2) := Lib.hid ⟨hp2, HR1.out.2.drew.trans hk2⟩
          clear hp2 hk2
          (try simp only [Act.put, List.setIfInBounds_toArray, List.set_cons_zero, List.set_cons_succ])
          refine wpAnyH_takeD (i := 16) (d := some 33) (v := ?_) rfl (by kernel_rfl) (by kernel_rfl) (by kernel_rfl) (by kernel_rfl) (fun _ _ _ h => h) (Or.inl ⟨by kernel_rfl, ?_⟩) (by assumption) ?_
          rotate_left
          · (intro w hSw; (try dsimp only at hSw); go_simp; try with_reducible rfl)
          simp only [Act.put, List.setIfInBounds_toArray, List.set_cons_zero, List.set_cons_succ]
          refine wpAnyH_takeD (i := 17) (d := some 34) (v := ?_) rfl (by kernel_rfl) (by kernel_rfl) (by kernel_rfl) (by kernel_rfl) (fun _ _ _ h => h) (Or.inl ⟨by kernel_rfl, ?_⟩) (by assumption) ?_
          rotate_left
          · (intro w hSw; (try dsimp only at hSw); go_simp; try with_reducible rfl)
          simp only [Act.put, List.setIfInBounds_toArray, List.set_cons_zero, List.set_cons_succ]
          refine wpAnyH_takeD (i := 18) (d := some 35) (v := ?_) rfl (by kernel_rfl) (by kernel_rfl) (by kernel_rfl) (by kernel_rfl) (fun _ _ _ h => h) (Or.inl ⟨by kernel_rfl, ?_⟩) (by assumption) ?_
          rotate_left
          · (intro w hSw; (try dsimp only at hSw); go_simp; try with_reducible rfl)
          simp only [Act.put, List.setIfInBounds_toArray, List.set_cons_zero, List.set_cons_succ]
          refine wpAnyH_takeD (i := 19) (d := some 36) (v := ?_) rfl (by kernel_rfl) (by kernel_rfl) (by kernel_rfl) (by kernel_rfl) (fun _ _ _ h => h) (Or.inl ⟨by kernel_rfl, ?_⟩) (by assumption) ?_
          rotate_left
          · (intro w hSw; (try dsimp only at hSw); go_simp; try with_reducible rfl)
          simp only [Act.put, List.setIfInBounds_toArray, List.set_cons_zero, List.set_cons_succ]
          refine wpAnyH_takeD (i := 20) (d := some 37) (v := ?_) rfl (by kernel_rfl) (by kernel_rfl) (by kernel_rfl) (by kernel_rfl) (fun _ _ _ h => h) (Or.inl ⟨by kernel_rfl, ?_⟩) (by assumption) ?_
          rotate_left
          · (intro w hSw; (try dsimp only at hSw); go_simp; try with_reducible rfl)
          simp only [Act.put, List.setIfInBounds_toArray, List.set_cons_zero, List.set_cons_succ]
          refine wpAnyH_takeD (i := 21) (d := some 38) (v := ?_) rfl (by kernel_rfl) (by kernel_rfl) (by kernel_rfl) (by kernel_rfl) (fun _ _ _ h => h) (Or.inl ⟨by kernel_rfl, ?_⟩) (by assumption) ?_
          rotate_left
          · (intro w hSw; (try dsimp only at hSw); go_simp; try with_reducible rfl)
          simp only [Act.put, List.setIfInBounds_toArray, List.set_cons_zero, List.set_cons_succ]
          refine wpAnyH_takeD (i := 22) (d := some 39) (v := ?_) rfl (by kernel_rfl) (by kernel_rfl) (by kernel_rfl) (by kernel_rfl) (fun _ _ _ h => h) (Or.inl ⟨by kernel_rfl, ?_⟩) (by assumption) ?_
          rotate_left
          · (intro w hSw; (try dsimp only at hSw); go_simp; try with_reducible rfl)
          simp only [Act.put, List.setIfInBounds_toArray, List.set_cons_zero, List.set_cons_succ]
          refine wpAnyH_takeD (i := 23) (d := some 40) (v := ?_) rfl (by kernel_rfl) (by kernel_rfl) (by kernel_rfl) (by kernel_rfl) (fun _ _ _ h => h) (Or.inl ⟨by kernel_rfl, ?_⟩) (by assumption) ?_
          rotate_left
          · (intro w hSw; (try dsimp only at hSw); go_simp; try with_reducible rfl)
          simp only [Act.put, List.setIfInBounds_toArray, List.set_cons_zero, List.set_cons_succ]
          refine wpAnyH_takeD (i := 24) (d := some 41) (v := ?_) rfl (by kernel_rfl) (by kernel_rfl) (by kernel_rfl) (by kernel_rfl) (fun _ _ _ h => h) (Or.inl ⟨by kernel_rfl, ?_⟩) (by assumption) ?_
          rotate_left
          · (intro w hSw; (try dsimp only at hSw); go_simp; try with_reducible rfl)
          simp only [Act.put, List.setIfInBounds_toArray, List.set_cons_zero, List.set_cons_succ]
          refine wpAnyH_takeD (i := 25) (d := some 42) (v := ?_) rfl (by kernel_rfl) (by kernel_rfl) (by kernel_rfl) (by kernel_rfl) (fun _ _ _ h => h) (Or.inl ⟨by kernel_rfl, ?_⟩) (by assumption) ?_
          rotate_left
          · (intro w hSw; (try dsimp only at hSw); go_simp; try with_reducible rfl)
          simp only [Act.put, List.setIfInBounds_toArray, List.set_cons_zero, List.set_cons_succ]
          refine wpAnyH_takeD (i := 26) (d := some 43) (v := ?_) rfl (by kernel_rfl) (by kernel_rfl) (by kernel_rfl) (by kernel_rfl) (fun _ _ _ h => h) (Or.inl ⟨by kernel_rfl, ?_⟩) (by assumption) ?_
          rotate_left
          · (intro w hSw; (try dsimp only at hSw); go_simp; try with_reducible rfl)
          simp only [Act.put, List.setIfInBounds_toArray, List.set_cons_zero, List.set_cons_succ]
          refine wpAnyH_takeD (i := 27) (d := some 44) (v := undef) rfl (by kernel_rfl) (by kernel_rfl) (by kernel_rfl) (by kernel_rfl) (fun _ _ _ h => h) (Or.inr ⟨by kernel_rfl, rfl⟩) (by assumption) ?_
          simp only [Act.put, List.setIfInBounds_toArray, List.set_cons_zero, List.set_cons_succ]
          refine wpAnyH_takeD (i := 28) (d := some 45) (v := undef) rfl (by kernel_rfl) (by kernel_rfl) (by kernel_rfl) (by kernel_rfl) (fun _ _ _ h => h) (Or.inr ⟨by kernel_rfl, rfl⟩) (by assumption) ?_
          simp only [Act.put, List.setIfInBounds_toArray, List.set_cons_zero, List.set_cons_succ]
          refine wpAnyH_takeD (i := 29) (d := some 46) (v := undef) rfl (by kernel_rfl) (by kernel_rfl) (by kernel_rfl) (by kernel_rfl) (fun _ _ _ h => h) (Or.inr ⟨by kernel_rfl, rfl⟩) (by assumption) ?_
          simp only [Act.put, List.setIfInBounds_toArray, List.set_cons_zero, List.set_cons_succ]
          refine wpAnyH_takeD (i := 30) (d := some 47) (v := undef) rfl (by kernel_rfl) (by kernel_rfl) (by kernel_rfl) (by kernel_rfl) (fun _ _ _ h => h) (Or.inr ⟨by kernel_rfl, rfl⟩) (by assumption) ?_
          simp only [Act.put, List.setIfInBounds_toArray, List.set_cons_zero, List.set_cons_succ]
          refine wpAnyH_takeD (i := 31) (d := some 48) (v := undef) rfl (by kernel_rfl) (by kernel_rfl) (by kernel_rfl) (by kernel_rfl) (fun _ _ _ h => h) (Or.inr ⟨by kernel_rfl, rfl⟩) (by assumption) ?_
          simp only [Act.put, List.setIfInBounds_toArray, List.set_cons_zero, List.set_cons_succ]
          refine wpAnyH_takeD (i := 32) (d := some 49) (v := undef) rfl (by kernel_rfl) (by kernel_rfl) (by kernel_rfl) (by kernel_rfl) (fun _ _ _ h => h) (Or.inr ⟨by kernel_rfl, rfl⟩) (by assumption) ?_
          simp only [Act.put, List.setIfInBounds_toArray, List.set_cons_zero, List.set_cons_succ]
          refine wpAnyH_takeD (i := 33) (d := some 50) (v := undef) rfl (by kernel_rfl) (by kernel_rfl) (by kernel_rfl) (by kernel_rfl) (fun _ _ _ h => h) (Or.inr ⟨by kernel_rfl, rfl⟩) (by assumption) ?_
          simp only [Act.put, List.setIfInBounds_toArray, List.set_cons_zero, List.set_cons_succ]
          refine wpAnyH_takeD (i := 34) (d := some 51) (v := undef) rfl (by kernel_rfl) (by kernel_rfl) (by kernel_rfl) (by kernel_rfl) (fun _ _ _ h => h) (Or.inr ⟨by kernel_rfl, rfl⟩) (by assumption) ?_
          simp only [Act.put, List.setIfInBounds_toArray, List.set_cons_zero, List.set_cons_succ]
          refine wpAnyH_takeD (i := 35) (d := some 52) (v := undef) rfl (by kernel_rfl) (by kernel_rfl) (by kernel_rfl) (by kernel_rfl) (fun _ _ _ h => h) (Or.inr ⟨by kernel_rfl, rfl⟩) (by assumption) ?_
          simp only [Act.put, List.setIfInBounds_toArray, List.set_cons_zero, List.set_cons_succ]
          refine wpAnyH_takeD (i := 36) (d := some 53) (v := undef) rfl (by kernel_rfl) (by kernel_rfl) (by kernel_rfl) (by kernel_rfl) (fun _ _ _ h => h) (Or.inr ⟨by kernel_rfl, rfl⟩) (by assumption) ?_
          simp only [Act.put, List.setIfInBounds_toArray, List.set_cons_zero, List.set_cons_succ]
          refine wpAnyH_takeD (i := 37) (d := some 54) (v := ?_) rfl (by kernel_rfl) (by kernel_rfl) (by kernel_rfl) (by kernel_rfl) (fun _ _ _ h => h) (Or.inl ⟨by kernel_rfl, ?_⟩) (by assumption) ?_
          rotate_left
          · (intro w hSw; (try dsimp only at hSw); go_simp; try with_reducible rfl)
          simp only [Act.put, List.setIfInBounds_toArray, List.set_cons_zero, List.set_cons_succ]
          refine wpAnyH_takeD (i := 38) (d := some 55) (v := ?_) rfl (by kernel_rfl) (by kernel_rfl) (by kernel_rfl) (by kernel_rfl) (fun _ _ _ h => h) (Or.inl ⟨by kernel_rfl, ?_⟩) (by assumption) ?_
          rotate_left
          · (intro w hSw; (try dsimp only at hSw); go_simp; try with_reducible rfl)
          simp only [Act.put, List.setIfInBounds_toArray, List.set_cons_zero, List.set_cons_succ]
          refine wpAnyH_done (by kernel_rfl) ?_ _
          have HR3 : Hid (PC N.V gp gc gd (rx N f D (k + 1)).d (rx N f D (k + 1)).b w2 ∧ Kp [gd, gc] w w2) := Lib.hid ⟨by rw [HNE.out]; exact HR2.out.1, HR2.out.2⟩
          clear HNE qx e0 e1 e2 e3 e4
          go_wp2_with fail
          go_roundw
          case rel => exact ⟨k + 1, by omega, by go_num, HR3⟩
          case measure => simp [intOf]; omega
      · have dA : decide (fk < up) = false := by simpa using hA
        by_cases hB : lo < fk
        · have dB : decide (lo < fk) = true := by simpa using hB
          obtain ⟨hE1, hNE⟩ := HNX.out false true (by simp [hA]) (by simp [hB]) _ rfl
          simp only [if_true, if_false, Bool.false_eq_true] at hE1 hNE
          have HE1 := Lib.hid hE1
          have HNE := Lib.hid hNE
          clear hE1 hNE HNX
          refine wp_region_held_drew (S := (fun w' => w'.cell? ⟨bx, ox + k, none⟩ = some (.int .i64 fk) ∧ w'.cell? ⟨gz, 0, none⟩ = some (.int .i64 (fr : Int)) ∧ w'.cell? ⟨gz, 1, none⟩ = some (.int .i64 (to_ : Int)) ∧ w'.cell? ⟨gz, 2, none⟩ = some (.int .i64 lo) ∧ w'.cell? ⟨gz, 3, none⟩ = some (.int .i64 up) ∧ w'.cell? ⟨gz, 4, none⟩ = some (.int .i64 co))) (by kernel_rfl) ⟨qx, e0, e1, e2, e3, e4⟩ (fun hHeld => ?_)
          refine wpAnyH_takeD (i := 0) (d := some 17) (v := ?_) rfl (by kernel_rfl) (by kernel_rfl) (by kernel_rfl) (by kernel_rfl) (fun _ _ _ h => h) (Or.inl ⟨by kernel_rfl, ?_⟩) (by assumption) ?_
          rotate_left
          · (intro w hSw; (try dsimp only at hSw); go_simp; try with_reducible rfl)
          simp only [Act.put, List.setIfInBounds_toArray, List.set_cons_zero, List.set_cons_succ]
          refine wpAnyH_takeD (i := 1) (d := some 18) (v := ?_) rfl (by kernel_rfl) (by kernel_rfl) (by kernel_rfl) (by kernel_rfl) (fun _ _ _ h => h) (Or.inl ⟨by kernel_rfl, ?_⟩) (by assumption) ?_
          rotate_left
          · (intro w hSw; (try dsimp only at hSw); go_simp; try with_reducible rfl)
          simp only [Act.put, List.setIfInBounds_toArray, List.set_cons_zero, List.set_cons_succ]
          refine wpAnyH_takeD (i := 2) (d := some 19) (v := ?_) rfl (by kernel_rfl) (by kernel_rfl) (by kernel_rfl) (by kernel_rfl) (fun _ _ _ h => h) (Or.inl ⟨by kernel_rfl, ?_⟩) (by assumption) ?_
          rotate_left
          · (intro w hSw; (try dsimp only at hSw); go_simp; try with_reducible rfl)
          simp only [Act.put, List.setIfInBounds_toArray, List.set_cons_zero, List.set_cons_succ]
          refine wpAnyH_takeD (i := 3) (d := some 20) (v := ?_) rfl (by kernel_rfl) (by kernel_rfl) (by kernel_rfl) (by kernel_rfl) (fun _ _ _ h => h) (Or.inl ⟨by kernel_rfl, ?_⟩) (by assumption) ?_
          rotate_left
          · (intro w hSw; (try dsimp only at hSw); go_simp; try with_reducible rfl)
          simp only [Act.put, List.setIfInBounds_toArray, List.set_cons_zero, List.set_cons_succ]
          refine wpAnyH_takeD (i := 4) (d := some 21) (v := ?_) rfl (by kernel_rfl) (by kernel_rfl) (by kernel_rfl) (by kernel_rfl) (fun _ _ _ h => h) (Or.inl ⟨by kernel_rfl, ?_⟩) (by assumption) ?_
          rotate_left
          · (intro w hSw; (try dsimp only at hSw); go_simp; try with_reducible rfl)
          simp only [Act.put, List.setIfInBounds_toArray, List.set_cons_zero, List.set_cons_succ]
          refine wpAnyH_takeD (i := 5) (d := some 22) (v := ?_) rfl (by kernel_rfl) (by kernel_rfl) (by kernel_rfl) (by kernel_rfl) (fun _ _ _ h => h) (Or.inl ⟨by kernel_rfl, ?_⟩) (by assumption) ?_
          rotate_left
          · (intro w hSw; (try dsimp only at hSw); go_simp; try with_reducible rfl)
          simp only [Act.put, List.setIfInBounds_toArray, List.set_cons_zero, List.set_cons_succ]
          refine wpAnyH_takeD (i := 6) (d := some 23) (v := ?_) rfl (by kernel_rfl) (by kernel_rfl) (by kernel_rfl) (by kernel_rfl) (fun _ _ _ h => h) (Or.inl ⟨by kernel_rfl, ?_⟩) (by assumption) ?_
          rotate_left
          · (intro w hSw; (try dsimp only at hSw); go_simp; try with_reducible rfl)
          simp only [Act.put, List.setIfInBounds_toArray, List.set_cons_zero, List.set_cons_succ]
          refine wpAnyH_takeD (i := 7) (d := some 24) (v := ?_) rfl (by kernel_rfl) (by kernel_rfl) (by kernel_rfl) (by kernel_rfl) (fun _ _ _ h => h) (Or.inl ⟨by kernel_rfl, ?_⟩) (by assumption) ?_
          rotate_left
          · (intro w hSw; (try dsimp only at hSw); go_simp; try with_reducible rfl)
          simp only [Act.put, List.setIfInBounds_toArray, List.set_cons_zero, List.set_cons_succ]
          refine wpAnyH_takeD (i := 8) (d := some 25) (v := undef) rfl (by kernel_rfl) (by kernel_rfl) (by kernel_rfl) (by kernel_rfl) (fun _ _ _ h => h) (Or.inr ⟨by kernel_rfl, rfl⟩) (by assumption) ?_
          simp only [Act.put, List.setIfInBounds_toArray, List.set_cons_zero, List.set_cons_succ]
          refine wpAnyH_takeD (i := 9) (d := some 26) (v := undef) rfl (by kernel_rfl) (by kernel_rfl) (by kernel_rfl) (by kernel_rfl) (fun _ _ _ h => h) (Or.inr ⟨by kernel_rfl, rfl⟩) (by assumption) ?_
          simp only [Act.put, List.setIfInBounds_toArray, List.set_cons_zero, List.set_cons_succ]
          refine wpAnyH_takeD (i := 10) (d := some 27) (v := undef) rfl (by kernel_rfl) (by kernel_rfl) (by kernel_rfl) (by kernel_rfl) (fun _ _ _ h => h) (Or.inr ⟨by kernel_rfl, rfl⟩) (by assumption) ?_
          simp only [Act.put, List.setIfInBounds_toArray, List.set_cons_zero, List.set_cons_succ]
          refine wpAnyH_takeD (i := 11) (d := some 28) (v := undef) rfl (by kernel_rfl) (by kernel_rfl) (by kernel_rfl) (by kernel_rfl) (fun _ _ _ h => h) (Or.inr ⟨by kernel_rfl, rfl⟩) (by assumption) ?_
          simp only [Act.put, List.setIfInBounds_toArray, List.set_cons_zero, List.set_cons_succ]
          refine wpAnyH_takeD (i := 12) (d := some 29) (v := undef) rfl (by kernel_rfl) (by kernel_rfl) (by kernel_rfl) (by kernel_rfl) (fun _ _ _ h => h) (Or.inr ⟨by kernel_rfl, rfl⟩) (by assumption) ?_
          simp only [Act.put, List.setIfInBounds_toArray, List.set_cons_zero, List.set_cons_succ]
          refine wpAnyH_takeD (i := 13) (d := some 30) (v := undef) rfl (by kernel_rfl) (by kernel_rfl) (by kernel_rfl) (by kernel_rfl) (fun _ _ _ h => h) (Or.inr ⟨by kernel_rfl, rfl⟩) (by assumption) ?_
          simp only [Act.put, List.setIfInBounds_toArray, List.set_cons_zero, List.set_cons_succ]
          refine wpAnyH_takeD (i := 14) (d := some 31) (v := undef) rfl (by kernel_rfl) (by kernel_rfl) (by kernel_rfl) (by kernel_rfl) (fun _ _ _ h => h) (Or.inr ⟨by kernel_rfl, rfl⟩) (by assumption) ?_
          simp only [Act.put, List.setIfInBounds_toArray, List.set_cons_zero, List.set_cons_succ]
          refine wpAnyH_takeD (i := 15) (d := some 32) (v := undef) rfl (by kernel_rfl) (by kernel_rfl) (by kernel_rfl) (by kernel_rfl) (fun _ _ _ h => h) (Or.inr ⟨by kernel_rfl, rfl⟩) (by assumption) ?_
          simp only [Act.put, List.setIfInBounds_toArray, List.set_cons_zero, List.set_cons_succ]
          refine wpAnyH_takeD (i := 16) (d := some 33) (v := undef) rfl (by kernel_rfl) (by kernel_rfl) (by kernel_rfl) (by kernel_rfl) (fun _ _ _ h => h) (Or.inr ⟨by kernel_rfl, rfl⟩) (by assumption) ?_
          simp only [Act.put, List.setIfInBounds_toArray, List.set_cons_zero, List.set_cons_succ]
          refine wpAnyH_takeD (i := 17) (d := some 34) (v := ?_) rfl (by kernel_rfl) (by kernel_rfl) (by kernel_rfl) (by kernel_rfl) (fun _ _ _ h => h) (Or.inl ⟨by kernel_rfl, ?_⟩) (by assumption) ?_
          rotate_left
          · (intro w hSw; (try dsimp only at hSw); go_simp; try with_reducible rfl)
          simp only [Act.put, List.setIfInBounds_toArray, List.set_cons_zero, List.set_cons_succ]
          refine wpAnyH_takeD (i := 18) (d := some 35) (v := ?_) rfl (by kernel_rfl) (by kernel_rfl) (by kernel_rfl) (by kernel_rfl) (fun _ _ _ h => h) (Or.inl ⟨by kernel_rfl, ?_⟩) (by assumption) ?_
          rotate_left
          · (intro w hSw; (try dsimp only at hSw); go_simp; try with_reducible rfl)
          simp only [Act.put, List.setIfInBounds_toArray, List.set_cons_zero, List.set_cons_succ]
          refine wpAnyH_takeD (i := 19) (d := some 36) (v := ?_) rfl (by kernel_rfl) (by kernel_rfl) (by kernel_rfl) (by kernel_rfl) (fun _ _ _ h => h) (Or.inl ⟨by kernel_rfl, ?_⟩) (by assumption) ?_
          rotate_left
          · (intro w hSw; (try dsimp only at hSw); go_simp; try with_reducible rfl)
          simp only [Act.put, List.setIfInBounds_toArray, List.set_cons_zero, List.set_cons_succ]
          refine wpAnyH_takeD (i := 20) (d := some 37) (v := ?_) rfl (by kernel_rfl) (by kernel_rfl) (by kernel_rfl) (by kernel_rfl) (fun _ _ _ h => h) (Or.inl ⟨by kernel_rfl, ?_⟩) (by assumption) ?_
          rotate_left
          · (intro w hSw; (try dsimp only at hSw); go_simp; try with_reducible rfl)
          simp only [Act.put, List.setIfInBounds_toArray, List.set_cons_zero, List.set_cons_succ]
          refine wpAnyH_takeD (i := 21) (d := some 38) (v := ?_) rfl (by kernel_rfl) (by kernel_rfl) (by kernel_rfl) (by kernel_rfl) (fun _ _ _ h => h) (Or.inl ⟨by kernel_rfl, ?_⟩) (by assumption) ?_
          rotate_left
          · (intro w hSw; (try dsimp only at hSw); go_simp; try with_reducible rfl)
          simp only [Act.put, List.setIfInBounds_toArray, List.set_cons_zero, List.set_cons_succ]
          refine wpAnyH_takeD (i := 22) (d := some 39) (v := ?_) rfl (by kernel_rfl) (by kernel_rfl) (by kernel_rfl) (by kernel_rfl) (fun _ _ _ h => h) (Or.inl ⟨by kernel_rfl, ?_⟩) (by assumption) ?_
          rotate_left
          · (intro w hSw; (try dsimp only at hSw); go_simp; try with_reducible rfl)
          simp only [Act.put, List.setIfInBounds_toArray, List.set_cons_zero, List.set_cons_succ]
          refine wpAnyH_takeD (i := 23) (d := some 40) (v := ?_) rfl (by kernel_rfl) (by kernel_rfl) (by kernel_rfl) (by kernel_rfl) (fun _ _ _ h => h) (Or.inl ⟨by kernel_rfl, ?_⟩) (by assumption) ?_
          rotate_left
          · (intro w hSw; (try dsimp only at hSw); go_simp; try with_reducible rfl)
          simp only [Act.put, List.setIfInBounds_toArray, List.set_cons_zero, List.set_cons_succ]
          refine wpAnyH_takeD (i := 24) (d := some 41) (v := ?_) rfl (by kernel_rfl) (by kernel_rfl) (by kernel_rfl) (by kernel_rfl) (fun _ _ _ h => h) (Or.inl ⟨by kernel_rfl, ?_⟩) (by assumption) ?_
          rotate_left
          · (intro w hSw; (try dsimp only at hSw); go_simp; try with_reducible rfl)
          simp only [Act.put, List.setIfInBounds_toArray, List.set_cons_zero, List.set_cons_succ]
          refine wpAnyH_takeD (i := 25) (d := some 42) (v := ?_) rfl (by kernel_rfl) (by kernel_rfl) (by kernel_rfl) (by kernel_rfl) (fun _ _ _ h => h) (Or.inl ⟨by kernel_rfl, ?_⟩) (by assumption) ?_
          rotate_left
          · (intro w hSw; (try dsimp only at hSw); go_simp; try with_reducible rfl)
          simp only [Act.put, List.setIfInBounds_toArray, List.set_cons_zero, List.set_cons_succ]
          refine wpAnyH_takeD (i := 26) (d := some 43) (v := ?_) rfl (by kernel_rfl) (by kernel_rfl) (by kernel_rfl) (by kernel_rfl) (fun _ _ _ h => h) (Or.inl ⟨by kernel_rfl, ?_⟩) (by assumption) ?_
          rotate_left
          · (intro w hSw; (try dsimp only at hSw); go_simp; try with_reducible rfl)
          simp only [Act.put, List.setIfInBounds_toArray, List.set_cons_zero, List.set_cons_succ]
          refine wpAnyH_takeD (i := 27) (d := some 44) (v := ?_) rfl (by kernel_rfl) (by kernel_rfl) (by kernel_rfl) (by kernel_rfl) (fun _ _ _ h => h) (Or.inl ⟨by kernel_rfl, ?_⟩) (by assumption) ?_
          rotate_left
          · (intro w hSw; (try dsimp only at hSw); go_simp; try with_reducible rfl)
          simp only [Act.put, List.setIfInBounds_toArray, List.set_cons_zero, List.set_cons_succ]
          refine wpAnyH_takeD (i := 28) (d := some 45) (v := ?_) rfl (by kernel_rfl) (by kernel_rfl) (by kernel_rfl) (by kernel_rfl) (fun _ _ _ h => h) (Or.inl ⟨by kernel_rfl, ?_⟩) (by assumption) ?_
          rotate_left
          · (intro w hSw; (try dsimp only at hSw); go_simp; try with_reducible rfl)
          simp only [Act.put, List.setIfInBounds_toArray, List.set_cons_zero, List.set_cons_succ]
          refine wpAnyH_takeD (i := 29) (d := some 46) (v := ?_) rfl (by kernel_rfl) (by kernel_rfl) (by kernel_rfl) (by kernel_rfl) (fun _ _ _ h => h) (Or.inl ⟨by kernel_rfl, ?_⟩) (by assumption) ?_
          rotate_left
          · (intro w hSw; (try dsimp only at hSw); go_simp; try with_reducible rfl)
          simp only [Act.put, List.setIfInBounds_toArray, List.set_cons_zero, List.set_cons_succ]
          refine wpAnyH_takeD (i := 30) (d := some 47) (v := ?_) rfl (by kernel_rfl) (by kernel_rfl) (by kernel_rfl) (by kernel_rfl) (fun _ _ _ h => h) (Or.inl ⟨by kernel_rfl, ?_⟩) (by assumption) ?_
          rotate_left
          · (intro w hSw; (try dsimp only at hSw); go_simp; try with_reducible rfl)
          simp only [Act.put, List.setIfInBounds_toArray, List.set_cons_zero, List.set_cons_succ]
          refine wpAnyH_takeD (i := 31) (d := some 48) (v := ?_) rfl (by kernel_rfl) (by kernel_rfl) (by kernel_rfl) (by kernel_rfl) (fun _ _ _ h => h) (Or.inl ⟨by kernel_rfl, ?_⟩) (by assumption) ?_
          rotate_left
          · (intro w hSw; (try dsimp only at hSw); go_simp; try with_reducible rfl)
          simp only [Act.put, List.setIfInBounds_toArray, List.set_cons_zero, List.set_cons_succ]
          refine wpAnyH_takeD (i := 32) (d := some 49) (v := ?_) rfl (by kernel_rfl) (by kernel_rfl) (by kernel_rfl) (by kernel_rfl) (fun _ _ _ h => h) (Or.inl ⟨by kernel_rfl, ?_⟩) (by assumption) ?_
          rotate_left
          · (intro w hSw; (try dsimp only at hSw); go_simp; try with_reducible rfl)
          simp only [Act.put, List.setIfInBounds_toArray, List.set_cons_zero, List.set_cons_succ]
          refine wpAnyH_takeD (i := 33) (d := some 50) (v := ?_) rfl (by kernel_rfl) (by kernel_rfl) (by kernel_rfl) (by kernel_rfl) (fun _ _ _ h => h) (Or.inl ⟨by kernel_rfl, ?_⟩) (by assumption) ?_
          rotate_left
          · (intro w hSw; (try dsimp only at hSw); go_simp; try with_reducible rfl)
          simp only [Act.put, List.setIfInBounds_toArray, List.set_cons_zero, List.set_cons_succ]
          refine wpAnyH_takeD (i := 34) (d := some 51) (v := ?_) rfl (by kernel_rfl) (by kernel_rfl) (by kernel_rfl) (by kernel_rfl) (fun _ _ _ h => h) (Or.inl ⟨by kernel_rfl, ?_⟩) (by assumption) ?_
          rotate_left
          · (intro w hSw; (try dsimp only at hSw); go_simp; try with_reducible rfl)
          simp only [Act.put, List.setIfInBounds_toArray, List.set_cons_zero, List.set_cons_succ]
          refine wpAnyH_ready (rs := [35]) (by kernel_rfl) (by simp) ?_
          refine AllReadyH.cons rfl (fun K hK => ?_) AllReadyH.nil
          go_simp
          refine ((HS2.out E0 HE0.out _ HR1d.out.1).2 hB).mono ?_
          rintro e w3 ⟨rfl, hp3, hk3⟩
          refine hK.out _ _ ⟨hk3.cell qxd HBX.out, hk3.cell e0d HGZ.out, hk3.cell e1d HGZ.out, hk3.cell e2d HGZ.out, hk3.cell e3d HGZ.out, hk3.cell e4d HGZ.out⟩ (fun hHeld => ?_)
          clear hK K
          have HR3 : Hid (PC N.V gp gc gd (rx N f D (k + 1)).d (rx N f D (k + 1)).b w3 ∧ Kp [gd, gc] w w3) := Lib.hid ⟨by rw [HNE.out]; exact hp3, HR1.out.2.drew.trans hk3⟩
          clear hp3 hk3
          (try simp only [Act.put, List.setIfInBounds_toArray, List.set_cons_zero, List.set_cons_succ])
          refine wpAnyH_takeD (i := 36) (d := some 53) (v := ?_) rfl (by kernel_rfl) (by kernel_rfl) (by kernel_rfl) (by kernel_rfl) (fun _ _ _ h => h) (Or.inl ⟨by kernel_rfl, ?_⟩) (by assumption) ?_
          rotate_left
          · (intro w hSw; (try dsimp only at hSw); go_simp; try with_reducible rfl)
          simp only [Act.put, List.setIfInBounds_toArray, List.set_cons_zero, List.set_cons_succ]
          refine wpAnyH_takeD (i := 37) (d := some 54) (v := ?_) rfl (by kernel_rfl) (by kernel_rfl) (by kernel_rfl) (by kernel_rfl) (fun _ _ _ h => h) (Or.inl ⟨by kernel_rfl, ?_⟩) (by assumption) ?_
          rotate_left
          · (intro w hSw; (try dsimp only at hSw); go_simp; try with_reducible rfl)
          simp only [Act.put, List.setIfInBounds_toArray, List.set_cons_zero, List.set_cons_succ]
          refine wpAnyH_takeD (i := 38) (d := some 55) (v := ?_) rfl (by kernel_rfl) (by kernel_rfl) (by kernel_rfl) (by kernel_rfl) (fun _ _ _ h => h) (Or.inl ⟨by kernel_rfl, ?_⟩) (by assumption) ?_
          rotate_left
          · (intro w hSw; (try dsimp only at hSw); go_simp; try with_reducible rfl)
          simp only [Act.put, List.setIfInBounds_toArray, List.set_cons_zero, List.set_cons_succ]
          refine wpAnyH_done (by kernel_rfl) ?_ _
          clear HNE qx e0 e1 e2 e3 e4
          go_wp2_with fail
          go_roundw
          case rel => exact ⟨k + 1, by omega, by go_num, HR3⟩
          case measure => simp [intOf]; omega
        · have dB : decide (lo < fk) = false := by simpa using hB
          obtain ⟨hE1, hNE⟩ := HNX.out false false (by simp [hA]) (by simp [hB]) _ rfl
          simp only [if_true, if_false, Bool.false_eq_true] at hE1 hNE
          have HE1 := Lib.hid hE1
          have HNE := Lib.hid hNE
          clear hE1 hNE HNX
          refine wp_region_held_drew (S := (fun w' => w'.cell? ⟨bx, ox + k, none⟩ = some (.int .i64 fk) ∧ w'.cell? ⟨gz, 0, none⟩ = some (.int .i64 (fr : Int)) ∧ w'.cell? ⟨gz, 1, none⟩ = some (.int .i64 (to_ : Int)) ∧ w'.cell? ⟨gz, 2, none⟩ = some (.int .i64 lo) ∧ w'.cell? ⟨gz, 3, none⟩ = some (.int .i64 up) ∧ w'.cell? ⟨gz, 4, none⟩ = some (.int .i64 co))) (by kernel_rfl) ⟨qx, e0, e1, e2, e3, e4⟩ (fun hHeld => ?_)
          refine wpAnyH_takeD (i := 0) (d := some 17) (v := ?_) rfl (by kernel_rfl) (by kernel_rfl) (by kernel_rfl) (by kernel_rfl) (fun _ _ _ h => h) (Or.inl ⟨by kernel_rfl, ?_⟩) (by assumption) ?_
          rotate_left
          · (intro w hSw; (try dsimp only at hSw); go_simp; try with_reducible rfl)
          simp only [Act.put, List.setIfInBounds_toArray, List.set_cons_zero, List.set_cons_succ]
          refine wpAnyH_takeD (i := 1) (d := some 18) (v := ?_) rfl (by kernel_rfl) (by kernel_rfl) (by kernel_rfl) (by kernel_rfl) (fun _ _ _ h => h) (Or.inl ⟨by kernel_rfl, ?_⟩) (by assumption) ?_
          rotate_left
          · (intro w hSw; (try dsimp only at hSw); go_simp; try with_reducible rfl)
          simp only [Act.put, List.setIfInBounds_toArray, List.set_cons_zero, List.set_cons_succ]
          refine wpAnyH_takeD (i := 2) (d := some 19) (v := ?_) rfl (by kernel_rfl) (by kernel_rfl) (by kernel_rfl) (by kernel_rfl) (fun _ _ _ h => h) (Or.inl ⟨by kernel_rfl, ?_⟩) (by assumption) ?_
          rotate_left
          · (intro w hSw; (try dsimp only at hSw); go_simp; try with_reducible rfl)
          simp only [Act.put, List.setIfInBounds_toArray, List.set_cons_zero, List.set_cons_succ]
          refine wpAnyH_takeD (i := 3) (d := some 20) (v := ?_) rfl (by kernel_rfl) (by kernel_rfl) (by kernel_rfl) (by kernel_rfl) (fun _ _ _ h => h) (Or.inl ⟨by kernel_rfl, ?_⟩) (by assumption) ?_
          rotate_left
          · (intro w hSw; (try dsimp only at hSw); go_simp; try with_reducible rfl)
          simp only [Act.put, List.setIfInBounds_toArray, List.set_cons_zero, List.set_cons_succ]
          refine wpAnyH_takeD (i := 4) (d := some 21) (v := ?_) rfl (by kernel_rfl) (by kernel_rfl) (by kernel_rfl) (by kernel_rfl) (fun _ _ _ h => h) (Or.inl ⟨by kernel_rfl, ?_⟩) (by assumption) ?_
          rotate_left
          · (intro w hSw; (try dsimp only at hSw); go_simp; try with_reducible rfl)
          simp only [Act.put, List.setIfInBounds_toArray, List.set_cons_zero, List.set_cons_succ]
          refine wpAnyH_takeD (i := 5) (d := some 22) (v := ?_) rfl (by kernel_rfl) (by kernel_rfl) (by kernel_rfl) (by kernel_rfl) (fun _ _ _ h => h) (Or.inl ⟨by kernel_rfl, ?_⟩) (by assumption) ?_
          rotate_left
          · (intro w hSw; (try dsimp only at hSw); go_simp; try with_reducible rfl)
          simp only [Act.put, List.setIfInBounds_toArray, List.set_cons_zero, List.set_cons_succ]
          refine wpAnyH_takeD (i := 6) (d := some 23) (v := ?_) rfl (by kernel_rfl) (by kernel_rfl) (by kernel_rfl) (by kernel_rfl) (fun _ _ _ h => h) (Or.inl ⟨by kernel_rfl, ?_⟩) (by assumption) ?_
          rotate_left
          · (intro w hSw; (try dsimp only at hSw); go_simp; try with_reducible rfl)
          simp only [Act.put, List.setIfInBounds_toArray, List.set_cons_zero, List.set_cons_succ]
          refine wpAnyH_takeD (i := 7) (d := some 24) (v := ?_) rfl (by kernel_rfl) (by kernel_rfl) (by kernel_rfl) (by kernel_rfl) (fun _ _ _ h => h) (Or.inl ⟨by kernel_rfl, ?_⟩) (by assumption) ?_
          rotate_left
          · (intro w hSw; (try dsimp only at hSw); go_simp; try with_reducible rfl)
          simp only [Act.put, List.setIfInBounds_toArray, List.set_cons_zero, List.set_cons_succ]
          refine wpAnyH_takeD (i := 8) (d := some 25) (v := undef) rfl (by kernel_rfl) (by kernel_rfl) (by kernel_rfl) (by kernel_rfl) (fun _ _ _ h => h) (Or.inr ⟨by kernel_rfl, rfl⟩) (by assumption) ?_
          simp only [Act.put, List.setIfInBounds_toArray, List.set_cons_zero, List.set_cons_succ]
          refine wpAnyH_takeD (i := 9) (d := some 26) (v := undef) rfl (by kernel_rfl) (by kernel_rfl) (by kernel_rfl) (by kernel_rfl) (fun _ _ _ h => h) (Or.inr ⟨by kernel_rfl, rfl⟩) (by assumption) ?_
          simp only [Act.put, List.setIfInBounds_toArray, List.set_cons_zero, List.set_cons_succ]
          refine wpAnyH_takeD (i := 10) (d := some 27) (v := undef) rfl (by kernel_rfl) (by kernel_rfl) (by kernel_rfl) (by kernel_rfl) (fun _ _ _ h => h) (Or.inr ⟨by kernel_rfl, rfl⟩) (by assumption) ?_
          simp only [Act.put, List.setIfInBounds_toArray, List.set_cons_zero, List.set_cons_succ]
          refine wpAnyH_takeD (i := 11) (d := some 28) (v := undef) rfl (by kernel_rfl) (by kernel_rfl) (by kernel_rfl) (by kernel_rfl) (fun _ _ _ h => h) (Or.inr ⟨by kernel_rfl, rfl⟩) (by assumption) ?_
          simp only [Act.put, List.setIfInBounds_toArray, List.set_cons_zero, List.set_cons_succ]
          refine wpAnyH_takeD (i := 12) (d := some 29) (v := undef) rfl (by kernel_rfl) (by kernel_rfl) (by kernel_rfl) (by kernel_rfl) (fun _ _ _ h => h) (Or.inr ⟨by kernel_rfl, rfl⟩) (by assumption) ?_
          simp only [Act.put, List.setIfInBounds_toArray, List.set_cons_zero, List.set_cons_succ]
          refine wpAnyH_takeD (i := 13) (d := some 30) (v := undef) rfl (by kernel_rfl) (by kernel_rfl) (by kernel_rfl) (by kernel_rfl) (fun _ _ _ h => h) (Or.inr ⟨by kernel_rfl, rfl⟩) (by assumption) ?_
          simp only [Act.put, List.setIfInBounds_toArray, List.set_cons_zero, List.set_cons_succ]
          refine wpAnyH_takeD (i := 14) (d := some 31) (v := undef) rfl (by kernel_rfl) (by kernel_rfl) (by kernel_rfl) (by kernel_rfl) (fun _ _ _ h => h) (Or.inr ⟨by kernel_rfl, rfl⟩) (by assumption) ?_
          simp only [Act.put, List.setIfInBounds_toArray, List.set_cons_zero, List.set_cons_succ]
          refine wpAnyH_takeD (i := 15) (d := some 32) (v := undef) rfl (by kernel_rfl) (by kernel_rfl) (by kernel_rfl) (by kernel_rfl) (fun _ _ _ h => h) (Or.inr ⟨by kernel_rfl, rfl⟩) (by assumption) ?_
          simp only [Act.put, List.setIfInBounds_toArray, List.set_cons_zero, List.set_cons_succ]
          refine wpAnyH_takeD (i := 16) (d := some 33) (v := undef) rfl (by kernel_rfl) (by kernel_rfl) (by kernel_rfl) (by kernel_rfl) (fun _ _ _ h => h) (Or.inr ⟨by kernel_rfl, rfl⟩) (by assumption) ?_
          simp only [Act.put, List.setIfInBounds_toArray, List.set_cons_zero, List.set_cons_succ]
          refine wpAnyH_takeD (i := 17) (d := some 34) (v := ?_) rfl (by kernel_rfl) (by kernel_rfl) (by kernel_rfl) (by kernel_rfl) (fun _ _ _ h => h) (Or.inl ⟨by kernel_rfl, ?_⟩) (by assumption) ?_
          rotate_left
          · (intro w hSw; (try dsimp only at hSw); go_simp; try with_reducible rfl)
          simp only [Act.put, List.setIfInBounds_toArray, List.set_cons_zero, List.set_cons_succ]
          refine wpAnyH_takeD (i := 18) (d := some 35) (v := ?_) rfl (by kernel_rfl) (by kernel_rfl) (by kernel_rfl) (by kernel_rfl) (fun _ _ _ h => h) (Or.inl ⟨by kernel_rfl, ?_⟩) (by assumption) ?_
          rotate_left
          · (intro w hSw; (try dsimp only at hSw); go_simp; try with_reducible rfl)
          simp only [Act.put, List.setIfInBounds_toArray, List.set_cons_zero, List.set_cons_succ]
          refine wpAnyH_takeD (i := 19) (d := some 36) (v := ?_) rfl (by kernel_rfl) (by kernel_rfl) (by kernel_rfl) (by kernel_rfl) (fun _ _ _ h => h) (Or.inl ⟨by kernel_rfl, ?_⟩) (by assumption) ?_
          rotate_left
          · (intro w hSw; (try dsimp only at hSw); go_simp; try with_reducible rfl)
          simp only [Act.put, List.setIfInBounds_toArray, List.set_cons_zero, List.set_cons_succ]
          refine wpAnyH_takeD (i := 20) (d := some 37) (v := ?_) rfl (by kernel_rfl) (by kernel_rfl) (by kernel_rfl) (by kernel_rfl) (fun _ _ _ h => h) (Or.inl ⟨by kernel_rfl, ?_⟩) (by assumption) ?_
          rotate_left
          · (intro w hSw; (try dsimp only at hSw); go_simp; try with_reducible rfl)
          simp only [Act.put, List.setIfInBounds_toArray, List.set_cons_zero, List.set_cons_succ]
          refine wpAnyH_takeD (i := 21) (d := some 38) (v := ?_) rfl (by kernel_rfl) (by kernel_rfl) (by kernel_rfl) (by kernel_rfl) (fun _ _ _ h => h) (Or.inl ⟨by kernel_rfl, ?_⟩) (by assumption) ?_
          rotate_left
          · (intro w hSw; (try dsimp only at hSw); go_simp; try with_reducible rfl)
          simp only [Act.put, List.setIfInBounds_toArray, List.set_cons_zero, List.set_cons_succ]
          refine wpAnyH_takeD (i := 22) (d := some 39) (v := ?_) rfl (by kernel_rfl) (by kernel_rfl) (by kernel_rfl) (by kernel_rfl) (fun _ _ _ h => h) (Or.inl ⟨by kernel_rfl, ?_⟩) (by assumption) ?_
          rotate_left
          · (intro w hSw; (try dsimp only at hSw); go_simp; try with_reducible rfl)
          simp only [Act.put, List.setIfInBounds_toArray, List.set_cons_zero, List.set_cons_succ]
          refine wpAnyH_takeD (i := 23) (d := some 40) (v := ?_) rfl (by kernel_rfl) (by kernel_rfl) (by kernel_rfl) (by kernel_rfl) (fun _ _ _ h => h) (Or.inl ⟨by kernel_rfl, ?_⟩) (by assumption) ?_
          rotate_left
          · (intro w hSw; (try dsimp only at hSw); go_simp; try with_reducible rfl)
          simp only [Act.put, List.setIfInBounds_toArray, List.set_cons_zero, List.set_cons_succ]
          refine wpAnyH_takeD (i := 24) (d := some 41) (v := ?_) rfl (by kernel_rfl) (by kernel_rfl) (by kernel_rfl) (by kernel_rfl) (fun _ _ _ h => h) (Or.inl ⟨by kernel_rfl, ?_⟩) (by assumption) ?_
          rotate_left
          · (intro w hSw; (try dsimp only at hSw); go_simp; try with_reducible rfl)
          simp only [Act.put, List.setIfInBounds_toArray, List.set_cons_zero, List.set_cons_succ]
          refine wpAnyH_takeD (i := 25) (d := some 42) (v := ?_) rfl (by kernel_rfl) (by kernel_rfl) (by kernel_rfl) (by kernel_rfl) (fun _ _ _ h => h) (Or.inl ⟨by kernel_rfl, ?_⟩) (by assumption) ?_
          rotate_left
          · (intro w hSw; (try dsimp only at hSw); go_simp; try with_reducible rfl)
          simp only [Act.put, List.setIfInBounds_toArray, List.set_cons_zero, List.set_cons_succ]
          refine wpAnyH_takeD (i := 26) (d := some 43) (v := ?_) rfl (by kernel_rfl) (by kernel_rfl) (by kernel_rfl) (by kernel_rfl) (fun _ _ _ h => h) (Or.inl ⟨by kernel_rfl, ?_⟩) (by assumption) ?_
          rotate_left
          · (intro w hSw; (try dsimp only at hSw); go_simp; try with_reducible rfl)
          simp only [Act.put, List.setIfInBounds_toArray, List.set_cons_zero, List.set_cons_succ]
          refine wpAnyH_takeD (i := 27) (d := some 44) (v := undef) rfl (by kernel_rfl) (by kernel_rfl) (by kernel_rfl) (by kernel_rfl) (fun _ _ _ h => h) (Or.inr ⟨by kernel_rfl, rfl⟩) (by assumption) ?_
          simp only [Act.put, List.setIfInBounds_toArray, List.set_cons_zero, List.set_cons_succ]
          refine wpAnyH_takeD (i := 28) (d := some 45) (v := undef) rfl (by kernel_rfl) (by kernel_rfl) (by kernel_rfl) (by kernel_rfl) (fun _ _ _ h => h) (Or.inr ⟨by kernel_rfl, rfl⟩) (by assumption) ?_
          simp only [Act.put, List.setIfInBounds_toArray, List.set_cons_zero, List.set_cons_succ]
          refine wpAnyH_takeD (i := 29) (d := some 46) (v := undef) rfl (by kernel_rfl) (by kernel_rfl) (by kernel_rfl) (by kernel_rfl) (fun _ _ _ h => h) (Or.inr ⟨by kernel_rfl, rfl⟩) (by assumption) ?_
          simp only [Act.put, List.setIfInBounds_toArray, List.set_cons_zero, List.set_cons_succ]
          refine wpAnyH_takeD (i := 30) (d := some 47) (v := undef) rfl (by kernel_rfl) (by kernel_rfl) (by kernel_rfl) (by kernel_rfl) (fun _ _ _ h => h) (Or.inr ⟨by kernel_rfl, rfl⟩) (by assumption) ?_
          simp only [Act.put, List.setIfInBounds_toArray, List.set_cons_zero, List.set_cons_succ]
          refine wpAnyH_takeD (i := 31) (d := some 48) (v := undef) rfl (by kernel_rfl) (by kernel_rfl) (by kernel_rfl) (by kernel_rfl) (fun _ _ _ h => h) (Or.inr ⟨by kernel_rfl, rfl⟩) (by assumption) ?_
          simp only [Act.put, List.setIfInBounds_toArray, List.set_cons_zero, List.set_cons_succ]
          refine wpAnyH_takeD (i := 32) (d := some 49) (v := undef) rfl (by kernel_rfl) (by kernel_rfl) (by kernel_rfl) (by kernel_rfl) (fun _ _ _ h => h) (Or.inr ⟨by kernel_rfl, rfl⟩) (by assumption) ?_
          simp only [Act.put, List.setIfInBounds_toArray, List.set_cons_zero, List.set_cons_succ]
          refine wpAnyH_takeD (i := 33) (d := some 50) (v := undef) rfl (by kernel_rfl) (by kernel_rfl) (by kernel_rfl) (by kernel_rfl) (fun _ _ _ h => h) (Or.inr ⟨by kernel_rfl, rfl⟩) (by assumption) ?_
          simp only [Act.put, List.setIfInBounds_toArray, List.set_cons_zero, List.set_cons_succ]
          refine wpAnyH_takeD (i := 34) (d := some 51) (v := undef) rfl (by kernel_rfl) (by kernel_rfl) (by kernel_rfl) (by kernel_rfl) (fun _ _ _ h => h) (Or.inr ⟨by kernel_rfl, rfl⟩) (by assumption) ?_
          simp only [Act.put, List.setIfInBounds_toArray, List.set_cons_zero, List.set_cons_succ]
          refine wpAnyH_takeD (i := 35) (d := some 52) (v := undef) rfl (by kernel_rfl) (by kernel_rfl) (by kernel_rfl) (by kernel_rfl) (fun _ _ _ h => h) (Or.inr ⟨by kernel_rfl, rfl⟩) (by assumption) ?_
          simp only [Act.put, List.setIfInBounds_toArray, List.set_cons_zero, List.set_cons_succ]
          refine wpAnyH_takeD (i := 36) (d := some 53) (v := undef) rfl (by kernel_rfl) (by kernel_rfl) (by kernel_rfl) (by kernel_rfl) (fun _ _ _ h => h) (Or.inr ⟨by kernel_rfl, rfl⟩) (by assumption) ?_
          simp only [Act.put, List.setIfInBounds_toArray, List.set_cons_zero, List.set_cons_succ]
          refine wpAnyH_takeD (i := 37) (d := some 54) (v := ?_) rfl (by kernel_rfl) (by kernel_rfl) (by kernel_rfl) (by kernel_rfl) (fun _ _ _ h => h) (Or.inl ⟨by kernel_rfl, ?_⟩) (by assumption) ?_
          rotate_left
          · (intro w hSw; (try dsimp only at hSw); go_simp; try with_reducible rfl)
          simp only [Act.put, List.setIfInBounds_toArray, List.set_cons_zero, List.set_cons_succ]
          refine wpAnyH_takeD (i := 38) (d := some 55) (v := ?_) rfl (by kernel_rfl) (by kernel_rfl) (by kernel_rfl) (by kernel_rfl) (fun _ _ _ h => h) (Or.inl ⟨by kernel_rfl, ?_⟩) (by assumption) ?_
          rotate_left
          · (intro w hSw; (try dsimp only at hSw); go_simp; try with_reducible rfl)
          simp only [Act.put, List.setIfInBounds_toArray, List.set_cons_zero, List.set_cons_succ]
          refine wpAnyH_done (by kernel_rfl) ?_ _
          have HR3 : Hid (PC N.V gp gc gd (rx N f D (k + 1)).d (rx N f D (k + 1)).b wA.drew ∧ Kp [gd, gc] w wA.drew) := Lib.hid ⟨by rw [HNE.out]; exact HR1d.out.1, HR1d.out.2⟩
          clear HNE qx e0 e1 e2 e3 e4
          go_wp2_with fail
          go_roundw
          case rel => exact ⟨k + 1, by omega, by go_num, HR3⟩
          case measure => simp [intOf]; omega
    · obtain rfl : k = N.m := by omega
      go_wp2_with fail
      go_ret
      exact ⟨rfl, HR.out.1, HR.out.2⟩

/-! ### PoI -/

theorem arcs_lts {w : World} {a : Option Addr} {N : Nw} (h : Arcs w a N) : 0 < N.m → ∀ x, a = some x → x.block < w.heap.size := fun hm x hx => by
  obtain ⟨b, off, e, hb, _⟩ := h 0 hm
  rw [e] at hx; injection hx with hx; subst hx; exact hb
theorem rd_lts {w : World} {n : Nat} {a : Option Addr} {f : Nat → Int} (h : Rd w a n f) : 0 < n → ∀ x, a = some x → x.block < w.heap.size := fun hm x hx => by
  obtain ⟨b, off, e, hb, _⟩ := h 0 hm
  rw [e] at hx; injection hx with hx; subst hx; exact hb
/-- the worlds of Potentials -/
structure PI (N : Nw) (a : Option Addr) (ca gn gp gd : Nat) (w0 : World) (d : Nat → Int) (w : World) : Prop where
  below : Below w0.heap.size w0 w
  p : w.cell? ⟨gp, 0, none⟩ = some (.slice (some ⟨gd, 0, none⟩) N.V N.V)
  d : IRow w gd N.V d
  n0 : w.cell? ⟨gn, 0, none⟩ = some (.int .i64 (N.V : Int))
  n1 : w.cell? ⟨gn, 1, none⟩ = some (.slice a N.m ca)
  lo : w0.heap.size ≤ gn ∧ w0.heap.size ≤ gp ∧ w0.heap.size ≤ gd
  ne : gn ≠ gp ∧ gn ≠ gd ∧ gp ≠ gd
theorem PI.more {N : Nw} {a : Option Addr} {ca gn gp gd : Nat} {w0 w w' : World} {d : Nat → Int} (h : PI N a ca gn gp gd w0 d w) (hb : Below w.heap.size w w') : PI N a ca gn gp gd w0 d w' :=
  ⟨h.below.trans (hb.mono h.below.size), (hb.cell (p := ⟨gp, 0, none⟩) (block_lt_of_cell h.p)).trans h.p, VRow.below h.d hb h.d.lt, (hb.cell (p := ⟨gn, 0, none⟩) (block_lt_of_cell h.n0)).trans h.n0, (hb.cell (p := ⟨gn, 1, none⟩) (block_lt_of_cell h.n1)).trans h.n1, h.lo, h.ne⟩
theorem PI.start {N : Nw} {a : Option Addr} {ca gn gp gd gc : Nat} {w0 w w' : World} {d : Nat → Int} (h : PI N a ca gn gp gd w0 d w) (hw : w' = w.alloc (.cells #[.bool false] 4)) (hgc : gc = w.heap.size) : PC N.V gp gc gd d false w' := by
  subst hw hgc
  have hb : Below w.heap.size w (w.alloc (.cells #[.bool false] 4)) := (Below.refl _ _).alloc (Nat.le_refl _) _
  have h1 : gp < w.heap.size := block_lt_of_cell h.p
  have h2 := h.d.lt
  exact ⟨(hb.cell (p := ⟨gp, 0, none⟩) h1).trans h.p, VRow.below h.d hb h2, heap_alloc_new w _, h.ne.2.2, by omega, by omega⟩
theorem PI.next {N : Nw} {a : Option Addr} {ca gn gp gd gc : Nat} {w0 w w' : World} {d d' : Nat → Int} {b : Bool} (h : PI N a ca gn gp gd w0 d w) (hk : Kp [gd, gc] w w') (hc : w0.heap.size ≤ gc) (hn : gn ≠ gc) (hp : PC N.V gp gc gd d' b w') : PI N a ca gn gp gd w0 d' w' := by
  have hgn : gn ∉ [gd, gc] := by have := h.ne; simp; omega
  exact ⟨h.below.trans (hk.to_below h.below.size (by have := h.lo; simp; omega)), hp.p, hp.d, hk.cell h.n0 hgn, hk.cell h.n1 hgn, h.lo, h.ne⟩
theorem pr_bd {N : Nw} (hv : N.valid) {f : Nat → Int} {k : Nat} {d : Nat → Int} (h : Pr N f k d) (hk : k ≤ 520) : ∀ j, j ≤ N.m → ∀ v, v < N.V → -8000000000 ≤ (rx N f ⟨d, fun _ => 0, false⟩ j).d v ∧ (rx N f ⟨d, fun _ => 0, false⟩ j).d v ≤ 0 := fun j hj v hvV => by
  have h1 := (rx_bd hv (f := f) (D := ⟨d, fun _ => 0, false⟩) (L := 4800000 * (k : Int)) (fun u hu => ⟨h.lo u hu, by have := h.le u; show d u ≤ rfar; unfold rfar; omega⟩) j hj v hvV).1
  have h2 : (rx N f ⟨d, fun _ => 0, false⟩ j).d v ≤ d v := rx_le hj v
  have h3 := h.le v
  have := hv.m2
  omega
set_option maxRecDepth 100000 in
set_option maxHeartbeats 4000000 in
theorem Potentials_any (R : Rw) (a : Option Addr) (ca : Nat) (hm : R.m ≤ 9223372036854775806) (la : Option Addr) (n lc : Nat) (x : Nat → Int) (hn : n ≤ 9223372036854775806) (w : World) (h : RA w a R.m R.A) (hx : Rd w la n x) :
    Calls Try.prog 26 #[R.val a ca, .slice la n lc] w (PtPost R n x w) := by
  have hb0 : Below w.heap.size w (w.alloc (.cells #[.int .i64 R.V, .slice a R.m ca] 25)) := (Below.refl _ _).alloc (Nat.le_refl _) _
  have H := Lib.hid h
  have HX := Lib.hid hx
  have HB0 := Lib.hid hb0
  have hc0 : (w.alloc (.cells #[.int .i64 R.V, .slice a R.m ca] 25)).cell? ⟨w.heap.size, 0, none⟩ = some (.int .i64 R.V) := cell_mk _ _ _ rfl rfl
  have hc1 : (w.alloc (.cells #[.int .i64 R.V, .slice a R.m ca] 25)).cell? ⟨w.heap.size, 1, none⟩ = some (.slice a R.m ca) := cell_mk _ _ _ rfl rfl
  have HC : Hid (∀ W, Below (w.alloc (.cells #[.int .i64 R.V, .slice a R.m ca] 25)).heap.size (w.alloc (.cells #[.int .i64 R.V, .slice a R.m ca] 25)) W → W.cell? ⟨w.heap.size, 0, none⟩ = some (.int .i64 R.V) ∧ W.cell? ⟨w.heap.size, 1, none⟩ = some (.slice a R.m ca)) := Lib.hid (fun W hW => ⟨(hW.cell (p := ⟨w.heap.size, 0, none⟩) (by simp)).trans hc0, (hW.cell (p := ⟨w.heap.size, 1, none⟩) (by simp)).trans hc1⟩)
  clear h hx hb0 hc0 hc1
  by_cases hg : R.good
  · have HG := Lib.hid hg
    have hV := Rw.VI hg
    have HV := Lib.hid (Rw.valid hg)
    cases hf : R.feas n x
    · have HF := Lib.hid hf
      clear hg hf hV
      go_enter Try.func26, Try.ntmps26
      go_wp2_with fail
      refine (Valid_any R a ca hm _ (H.out.below HB0.out)).mono ?_
      rintro e w1 ⟨rfl, hb1⟩
      rw [Rw.okB_true HG.out]
      obtain ⟨c0, c1⟩ := HC.out _ hb1
      have HB1 := Lib.hid (HB0.out.trans (hb1.mono HB0.out.size))
      have cl := block_lt_of_cell c0
      clear hb1
      go_wp2_with fail
      refine (Feasible_any R a ca hm la n lc x hn _ (H.out.below HB1.out) (HX.out.below HB1.out)).mono ?_
      rintro e w2 ⟨rfl, hb2⟩
      rw [HF.out]
      have HB2 := Lib.hid (HB1.out.trans (hb2.mono HB1.out.size))
      clear hb2 c0 c1 cl
      go_wp2_with fail
      go_ret2
      exact ⟨HB2.out, .inr (.inl ⟨HG.out, HF.out, rfl⟩)⟩
    · obtain ⟨_, hnm, hci⟩ := (R.feas_iff n x).1 hf
      subst hnm
      have HF := Lib.hid hf
      have HA := Lib.hid (RA.arcs hg H.out)
      have HPOST : Hid (∀ (w' : World) (e : Ending), Below w.heap.size w w' → ((¬ (∃ p, R.nw.fits p x) ∧ e = .returned (.tuple #[.slice none 0 0, .int .i64 32])) ∨ ∃ (g : Nat) (d : Nat → Int), e = .returned (.tuple #[.slice (some ⟨g, 0, none⟩) R.nw.V R.nw.V, .int .i64 0]) ∧ IRow w' g R.nw.V d ∧ w.heap.size ≤ g ∧ Pd R.nw x d) → PtPost R R.m x w e w') := Lib.hid (fun w' e hb hh => ⟨hb, by
        rcases hh with ⟨h1, h2⟩ | h1
        · exact .inr (.inr (.inl ⟨HF.out, h1, h2⟩))
        · exact .inr (.inr (.inr ⟨HF.out, h1⟩))⟩)
      have HVI := Lib.hid hV
      clear hg hf hci hV
      have hmf : ∀ (fn : Fn) (first cap : Array Value) (w : World), (Instr.makeFunc fn first cap).run Try.prog w = .ok (.func fn first cap) w := fun _ _ _ _ => rfl
      go_enter Try.func26, Try.ntmps26
      go_wp2_with fail
      refine (Valid_any R a ca hm _ (H.out.below HB0.out)).mono ?_
      rintro e w1 ⟨rfl, hb1⟩
      rw [Rw.okB_true HG.out]
      obtain ⟨c0, c1⟩ := HC.out _ hb1
      have HB1 := Lib.hid (HB0.out.trans (hb1.mono HB0.out.size))
      have HB01 := Lib.hid hb1
      have cl := block_lt_of_cell c0
      clear hb1
      go_wp2_with fail
      refine (Feasible_any R a ca hm la R.m lc x hn _ (H.out.below HB1.out) (HX.out.below HB1.out)).mono ?_
      rintro e w2 ⟨rfl, hb2⟩
      rw [HF.out]
      have HB2 := Lib.hid (HB1.out.trans (hb2.mono HB1.out.size))
      have HB02 := Lib.hid (HB01.out.trans (hb2.mono HB01.out.size))
      clear hb2 c0 c1 cl
      obtain ⟨c0, c1⟩ := HC.out _ HB02.out
      have cl : w.heap.size < w2.heap.size := block_lt_of_cell c0
      obtain ⟨N, hN⟩ : ∃ N, R.nw = N := ⟨_, rfl⟩
      have hNm : N.m = R.m := by rw [← hN]; rfl
      rw [hN] at HA HV HPOST HVI
      rw [HVI.out] at c0
      rw [← hNm] at HX c1 ⊢
      have HNM := Lib.hid hNm
      clear hNm
      have hV2 := HV.out.V2
      have mk1 := make_ints N.V (by omega)
      go_upto_region 6 with fail
      have HNW : Hid (∀ W, W = ((w2.alloc (.cells (vrow N.V fun _ => .int .i64 0) 3)).alloc (.cells #[.slice (some ⟨w2.heap.size, 0, none⟩) N.V N.V] 26)) → PI N a ca w.heap.size (w2.heap.size + 1) w2.heap.size w (fun _ => 0) W) := Lib.hid (fun W hW => by
        have hb : Below w2.heap.size w2 W := by rw [hW]; exact ((Below.refl _ _).alloc (Nat.le_refl _) _).alloc (by simp) _
        have hs := HB2.out.size
        exact ⟨HB2.out.trans (hb.mono hs), by rw [hW]; exact cell_mk _ _ _ (by simp) rfl, by rw [hW]; exact VRow.alloc (VRow.new w2 _ _ _ rfl) _, (hb.cell (p := ⟨w.heap.size, 0, none⟩) cl).trans c0, (hb.cell (p := ⟨w.heap.size, 1, none⟩) cl).trans c1, by omega, by omega⟩)
      obtain ⟨w3, hw3⟩ : ∃ w3, w3 = ((w2.alloc (.cells (vrow N.V fun _ => .int .i64 0) 3)).alloc (.cells #[.slice (some ⟨w2.heap.size, 0, none⟩) N.V N.V] 26)) := ⟨_, rfl⟩
      rw [← hw3]
      have HP := Lib.hid (HNW.out w3 hw3)
      obtain ⟨gd, hgd⟩ : ∃ gd, w2.heap.size = gd := ⟨_, rfl⟩
      obtain ⟨gp, hgp⟩ : ∃ gp, w2.heap.size + 1 = gp := ⟨_, rfl⟩
      rw [hgp, hgd] at HP
      rw [hgp]
      try rw [hgd]
      have n0 := HP.out.n0
      have nl := block_lt_of_cell n0
      clear c0 c1 mk1 HB02 HB01 hw3 HNW hgd hgp
      clear cl
      clear HB2
      clear hN
      clear w2
      go_wp2_with fail
      clear n0 nl
      go_loopw [22] (fun v22 wr => ∃ (k : Nat) (d : Nat → Int), k ≤ N.V ∧ v22 = .int .i64 k ∧ Hid (Pr N x k d) ∧ Hid (k = N.V → ¬ ∃ p, N.fits p x) ∧ Hid (PI N a ca w.heap.size gp gd w d wr)) (fun v _ => N.V - (intOf v).toNat)
      case atStart => exact ⟨0, fun _ => 0, by omega, rfl, Lib.hid (Pr.start x), Lib.hid (fun h => absurd h (by have := HV.out.V1; omega)), HP⟩
      case round =>
        obtain ⟨k, d, hk, rfl, HR, HE, HW⟩ := hrel
        by_cases hlt : k < N.V
        · go_upto_region 9 with fail
          obtain ⟨w4, hw4⟩ : ∃ w4, w4 = wr.alloc (.cells #[.bool false] 4) := ⟨_, rfl⟩
          rw [← hw4]
          have hb4 : Below wr.heap.size wr w4 := by rw [hw4]; exact (Below.refl _ _).alloc (Nat.le_refl _) _
          have HPC := Lib.hid (HW.out.start hw4 rfl)
          have HW4 := Lib.hid (HW.out.more hb4)
          have hgc : w.heap.size ≤ wr.heap.size := HW.out.below.size
          have hgn : w.heap.size < wr.heap.size := block_lt_of_cell HW.out.n0
          obtain ⟨gc, hgc2⟩ : ∃ gc, wr.heap.size = gc := ⟨_, rfl⟩
          rw [hgc2] at HPC hgc hgn ⊢
          have HGC := Lib.hid hgc
          have HGN : Hid (w.heap.size ≠ gc) := Lib.hid (by omega)
          have n0 := HW4.out.n0
          have n1 := HW4.out.n1
          have nl := block_lt_of_cell n0
          have hA := HA.out.below HW4.out.below
          have hX := HX.out.below HW4.out.below
          have HA4 := Lib.hid hA
          have HX4 := Lib.hid hX
          have HAF : Hid (0 < N.m → ∀ y, a = some y → y.block ∉ [gd, gc]) := Lib.hid (fun h0 y hy => by have := arcs_lts HA.out h0 y hy; have := HW4.out.lo; simp; omega)
          have HXF : Hid (0 < N.m → ∀ y, la = some y → y.block ∉ [gd, gc]) := Lib.hid (fun h0 y hy => by have := rd_lts HX.out h0 y hy; have := HW4.out.lo; simp; omega)
          clear hw4 hb4 hgc2 hgc hgn hA hX
          clear HW
          go_wp2_with fail
          refine (residual_po N HV.out a ca la lc x gp gc gd ⟨d, fun _ => 0, false⟩ (pr_bd HV.out HR.out (by omega)) _ HA4.out HAF.out HX4.out HXF.out HPC.out).mono ?_
          rintro e w5 ⟨rfl, hp5, hk5⟩
          have HW5 := Lib.hid (HW4.out.next hk5 HGC.out HGN.out hp5)
          have HNX := Lib.hid (HR.out.step HV.out (o := fun _ => 0) (b := false))
          have HST := Lib.hid (HR.out.still HV.out (o := fun _ => 0))
          have HLA := Lib.hid (HR.out.last HV.out (o := fun _ => 0))
          have q0 := hp5.p
          have q1 := hp5.c.cell 0 (by omega)
          have ql := block_lt_of_cell q0
          have ql2 := block_lt_of_cell q1
          clear hp5 hk5 n0 n1 nl HW4 HPC HA4 HX4 HAF HXF
          obtain ⟨D, hD⟩ : ∃ D, rx N x ⟨d, fun _ => 0, false⟩ N.m = D := ⟨_, rfl⟩
          rw [hD] at HW5 HNX HST HLA q1
          clear hD
          have n0 := HW5.out.n0
          have nl := block_lt_of_cell n0
          obtain ⟨z, hz⟩ : ∃ z, D.b = z := ⟨_, rfl⟩
          rw [hz] at HST HLA q1
          clear hz
          cases z
          · go_wp2_with fail
            go_ret2
            exact HPOST.out _ _ HW5.out.below (.inr ⟨gd, D.d, rfl, HW5.out.d, HW5.out.lo.2.2, HST.out (by first | rfl | trivial)⟩)
          · go_wp2_with fail
            go_roundw
            case rel => exact ⟨k + 1, D.d, by omega, by go_num, HNX, Lib.hid (fun h => HLA.out (by omega) (by first | rfl | trivial)), HW5⟩
            case measure => simp [intOf]; omega
        · obtain rfl : k = N.V := by omega
          have HNO := Lib.hid (HE.out rfl)
          go_wp2_with fail
          go_ret2
          exact HPOST.out _ _ HW.out.below (.inl ⟨HNO.out, rfl⟩)
  · have HG := Lib.hid hg
    clear hg
    go_enter Try.func26, Try.ntmps26
    go_wp2_with fail
    refine (Valid_any R a ca hm _ (H.out.below HB0.out)).mono ?_
    rintro e w1 ⟨rfl, hb1⟩
    rw [Rw.okB_false HG.out]
    have HB1 := Lib.hid (HB0.out.trans (hb1.mono HB0.out.size))
    clear hb1
    go_wp2_with fail
    go_ret2
    exact ⟨HB1.out, .inl ⟨HG.out, rfl⟩⟩
end Go.Proofs.Ythoehobofdeifaa
