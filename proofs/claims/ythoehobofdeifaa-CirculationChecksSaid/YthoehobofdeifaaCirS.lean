/-
  WALK of circulation.Solve. (Filled in from a template of this repo.)
-/
import Derived.Test.YthoehobofdeifaaCirC
import Derived.Test.YthoehobofdeifaaCirE
import Derived.Test.YthoehobofdeifaaCirT
import Derived.Test.YthoehobofdeifaaCirAb
namespace Go.Proofs.Ythoehobofdeifaa
open Go.ChangeShapes Go.WideShapes Go.ChangeAt Go.RowKit
set_option linter.unusedVariables false

/-- the first k arcs bear the flow that balance begins with -/
def fk (N : Nw) (k : Nat) (j : Nat) : Int := if j < k then N.f0 j else 0
/-- what is too much, by the first k arcs -/
def xk (N : Nw) (k : Nat) (v : Nat) : Int := sm k fun i => (if N.to i = v then N.f0 i else 0) - (if N.fr i = v then N.f0 i else 0)
theorem xk_end (N : Nw) (v : Nat) : xk N N.m v = N.exc N.f0 v := rfl
theorem fk_set (N : Nw) (k : Nat) {v : Int} (hv : v = N.f0 k) : ∀ j, j ≠ k → fk N (k + 1) j = fk N k j := fun j hj => by
  unfold fk
  by_cases e : j < k
  · rw [if_pos e, if_pos (by omega)]
  · rw [if_neg e, if_neg (by omega)]
/-- .. and of arc k what leaves its beginning -/
def xh (N : Nw) (k : Nat) (v : Nat) : Int := xk N k v - (if N.fr k = v then N.f0 k else 0)
theorem xh_eq (N : Nw) (k v : Nat) : upd (xk N k) (N.fr k) (xk N k (N.fr k) - N.f0 k) v = xh N k v := by
  unfold xh
  by_cases e : v = N.fr k
  · subst e; rw [upd_same, if_pos rfl]
  · rw [upd_other _ _ e, if_neg (fun h => e h.symm)]; omega
theorem xk_eq (N : Nw) (k v : Nat) : upd (xh N k) (N.to k) (xh N k (N.to k) + N.f0 k) v = xk N (k + 1) v := by
  have e1 : xk N (k + 1) v = xk N k v + ((if N.to k = v then N.f0 k else 0) - (if N.fr k = v then N.f0 k else 0)) := rfl
  rw [e1]
  by_cases e : v = N.to k
  · subst e; rw [upd_same, if_pos rfl]; unfold xh; omega
  · rw [upd_other _ _ e, if_neg (fun h => e h.symm)]; unfold xh; omega
theorem f0_bd {N : Nw} (hv : N.valid) {i : Nat} (hi : i < N.m) : 0 ≤ N.f0 i ∧ N.f0 i ≤ 1099511627776 := by
  have := hv.lo i hi
  unfold Nw.f0
  split <;> omega
theorem xk_bd {N : Nw} (hv : N.valid) {k : Nat} (hk : k ≤ N.m) (v : Nat) : -2638827906662400 ≤ xk N k v ∧ xk N k v ≤ 2638827906662400 := by
  have h := sm_bound (n := k) (f := fun i => (if N.to i = v then N.f0 i else 0) - (if N.fr i = v then N.f0 i else 0)) (C := 1099511627776) (fun i hi => by
    have := f0_bd hv (show i < N.m by omega)
    show -1099511627776 ≤ (if N.to i = v then N.f0 i else 0) - (if N.fr i = v then N.f0 i else 0) ∧ (if N.to i = v then N.f0 i else 0) - (if N.fr i = v then N.f0 i else 0) ≤ 1099511627776
    split <;> split <;> omega)
  have hm : (k : Int) * 1099511627776 ≤ 2400 * 1099511627776 := Int.mul_le_mul_of_nonneg_right (by have := hv.m2; omega) (by omega)
  unfold xk
  omega
/-- what Solve leaves -/
def SolvePost (R : Rw) (w : World) (e : Ending) (w' : World) : Prop := Below w.heap.size w w' ∧
  ((¬ R.good ∧ e = .returned (.tuple #[.slice none 0 0, .int .i64 30])) ∨
   (R.good ∧ e = .returned (.tuple #[.slice none 0 0, .int .i64 31]) ∧ R.nw.noc) ∨
   (R.good ∧ ∃ (gf : Nat) (f : Nat → Int), e = .returned (.tuple #[.slice (some ⟨gf, 0, none⟩) R.m R.m, .int .i64 0]) ∧ IRow w' gf R.m f ∧ w.heap.size ≤ gf ∧ R.nw.cert f))
/-- the first k arcs are closed where their price is not nothing -/
def zs (N : Nw) (p : Nat → Int) (k : Nat) (j : Nat) : Bool := if j < k then (N.price p j != 0) else false
/-- the worlds of the first loop -/
structure S1 (N : Nw) (K : Lay) (ge : Nat) (wS : World) (f x : Nat → Int) (w : World) : Prop where
  kp : Kp [K.gf] wS w
  f : IRow w K.gf N.m f
  x : IRow w ge N.V x
  n : wS.heap.size ≤ ge
theorem S1.below {N : Nw} {K : Lay} {ge : Nat} {wS w w' : World} {f x : Nat → Int} (h : S1 N K ge wS f x w) (hb : Below w.heap.size w w') : S1 N K ge wS f x w' :=
  ⟨h.kp.trans ((Kp.of_below (X := []) hb).mono (by simp)), VRow.below h.f hb h.f.lt, VRow.below h.x hb h.x.lt, h.n⟩
theorem S1.putf {N : Nw} {K : Lay} {ge : Nat} {wS w : World} {f x : Nat → Int} (h : S1 N K ge wS f x w) (hf : K.gf < wS.heap.size) (i : Nat) (v : Int) : S1 N K ge wS (upd f i v) x (w.setCell ⟨K.gf, i, none⟩ (.int .i64 v)) :=
  ⟨h.kp.setCell _ _ (.inl (by simp)), IRow.set h.f i v (upd_same _ _ _) (fun j hj => upd_other _ _ hj), VRow.off h.x _ (by have := h.n; omega), h.n⟩
theorem S1.putx {N : Nw} {K : Lay} {ge : Nat} {wS w : World} {f x : Nat → Int} (h : S1 N K ge wS f x w) (hf : K.gf < wS.heap.size) (i : Nat) (v : Int) : S1 N K ge wS f (upd x i v) (w.setCell ⟨ge, i, none⟩ (.int .i64 v)) :=
  ⟨h.kp.setCell _ _ (.inr h.n), VRow.off h.f _ (by have := h.n; omega), IRow.set h.x i v (upd_same _ _ _) (fun j hj => upd_other _ _ hj), h.n⟩
theorem S1.congr {N : Nw} {K : Lay} {ge : Nat} {wS w : World} {f x f' x' : Nat → Int} (h : S1 N K ge wS f x w) (hf : ∀ j, j < N.m → f j = f' j) (hx : ∀ v, v < N.V → x v = x' v) : S1 N K ge wS f' x' w :=
  ⟨h.kp, VRow.congr h.f _ (fun j hj => by rw [hf j hj]), VRow.congr h.x _ (fun j hj => by rw [hx j hj]), h.n⟩
/-- what Solve leaves of a valid network -/
def CorePost (N : Nw) (w : World) (e : Ending) (w' : World) : Prop := Below w.heap.size w w' ∧
  ((e = .returned (.tuple #[.slice none 0 0, .int .i64 31]) ∧ N.noc) ∨
   (∃ (gf : Nat) (f : Nat → Int), e = .returned (.tuple #[.slice (some ⟨gf, 0, none⟩) N.m N.m, .int .i64 0]) ∧ IRow w' gf N.m f ∧ w.heap.size ≤ gf ∧ N.cert f))
set_option maxRecDepth 100000 in
set_option maxHeartbeats 8000000 in
theorem Solve_core (N : Nw) (hv : N.valid) (a : Option Addr) (ca : Nat) (w : World) (h : Arcs w a N)
    (hok : ∀ w', Below w.heap.size w w' → Calls Try.prog 15 #[N.val a ca] w' fun e w'' => e = .returned (.bool true) ∧ Below w'.heap.size w' w'') :
    Calls Try.prog 21 #[N.val a ca] w (CorePost N w) := by
  have hV2 := hv.V2
  have hm2 := hv.m2
  have mk1 := make_ints N.V (by omega)
  have HV := Lib.hid hv
  have HA := Lib.hid h
  have HOK := Lib.hid hok
  clear hv h hok
  have hb0 : Below w.heap.size w (w.alloc (.cells #[.int .i64 (N.V : Int), .slice a N.m ca] 25)) := (Below.refl _ _).alloc (Nat.le_refl _) _
  have HB0 := Lib.hid hb0
  have HC0 : Hid ((w.alloc (.cells #[.int .i64 (N.V : Int), .slice a N.m ca] 25)).cell? ⟨w.heap.size, 0, none⟩ = some (.int .i64 (N.V : Int)) ∧ (w.alloc (.cells #[.int .i64 (N.V : Int), .slice a N.m ca] 25)).cell? ⟨w.heap.size, 1, none⟩ = some (.slice a N.m ca)) := Lib.hid ⟨cell_mk _ _ _ rfl rfl, cell_mk _ _ _ rfl rfl⟩
  clear hb0
  go_enter Try.func21, Try.ntmps21
  go_wp2_with fail
  refine (HOK.out _ HB0.out).mono ?_
  rintro e w1 ⟨rfl, hb1⟩
  have HB1 := Lib.hid (HB0.out.trans (hb1.mono HB0.out.size))
  have hlt0 : w.heap.size < (w.alloc (.cells #[.int .i64 (N.V : Int), .slice a N.m ca] 25)).heap.size := by simp
  have c0 := (hb1.cell (p := ⟨w.heap.size, 0, none⟩) hlt0).trans HC0.out.1
  have c1 := (hb1.cell (p := ⟨w.heap.size, 1, none⟩) hlt0).trans HC0.out.2
  have hlt1 : w.heap.size < w1.heap.size := by have := hb1.size; omega
  clear hb1 hlt0 HB0 HC0
  go_wp2_with fail
  refine (start_any N HV.out a ca _ (HA.out.below HB1.out)).mono ?_
  rintro e w2 ⟨g, K, rfl, hS, hf, hp, hc, hn, hb2⟩
  have HB2 := Lib.hid (HB1.out.trans (hb2.mono HB1.out.size))
  replace c0 := (hb2.cell (p := ⟨w.heap.size, 0, none⟩) hlt1).trans c0
  replace c1 := (hb2.cell (p := ⟨w.heap.size, 1, none⟩) hlt1).trans c1
  have hfl : w1.heap.size ≤ K.gf ∧ w1.heap.size ≤ K.gp ∧ w1.heap.size ≤ K.gc := hn
  have hgf : K.gf < w2.heap.size := hf.lt
  have HS := Lib.hid hS
  have HF := Lib.hid hf
  have HP := Lib.hid hp
  have HC := Lib.hid hc
  have hg2 := hS.lt
  have hlt2 : w.heap.size < w2.heap.size := by have := hb2.size; omega
  clear hS hf hp hc hb2 hn
  go_wp2_with fail
  have h1 : S1 N K w2.heap.size w2 (fun _ => 0) (fun _ => 0) (w2.alloc (.cells (vrow N.V fun _ => .int .i64 0) 3)) := ⟨(Kp.refl _ _).alloc _, HF.out.alloc _, VRow.new _ _ _ _ rfl, Nat.le_refl _⟩
  have hs1 := (h1.congr (f' := fk N 0) (x' := xk N 0) (fun j _ => by unfold fk; rw [if_neg (by omega)]) (fun v _ => rfl))
  have H1 := Lib.hid hs1
  have HZ1 := Lib.hid ((HF.out.alloc (.cells (vrow N.V fun _ => .int .i64 0) 3)))
  generalize (w2.alloc (.cells (vrow N.V fun _ => .int .i64 0) 3)) = w3 at *
  obtain ⟨ge, hge⟩ : ∃ ge, w2.heap.size = ge := ⟨_, rfl⟩
  rw [hge] at H1 hg2 hlt2 hgf ⊢
  have HGE := Lib.hid hge
  clear h1 hs1 hge HZ1
  go_loopw [21] (fun v21 wr => ∃ i : Nat, i ≤ N.m ∧ v21 = .int .i64 i ∧ Hid (S1 N K ge w2 (fk N i) (xk N i) wr)) (fun v _ => N.m - (intOf v).toNat)
  case atStart => exact ⟨0, by omega, rfl, H1⟩
  case round =>
    obtain ⟨i, hi, rfl, H2⟩ := hrel
    by_cases hlt : i < N.m
    · have hkp := H2.out.kp
      have hA := (HA.out.below HB2.out).kp hkp (fun _ x hx e => by
        obtain ⟨b, off, e1, hb, _⟩ := HA.out i hlt
        rw [hx] at e1; injection e1 with e1
        have : x.block < w.heap.size := by rw [e1]; exact hb
        have := HB1.out.size
        simp at e; omega)
      obtain ⟨b, off, rfl, hb, k0, k1, k2, k3, k4⟩ := hA i hlt
      have hfb := f0_bd HV.out hlt
      obtain ⟨hfV, htV⟩ := HV.out.ok i hlt
      clear hA hkp
      go_upto_region 8 with fail
      have hS1 := H2.out.below ((Below.refl _ _).alloc (Nat.le_refl _) (.cells #[.int .i64 (N.fr i : Int), .int .i64 (N.to i : Int), .int .i64 (N.lo i), .int .i64 (N.up i), .int .i64 (N.c i)] 46))
      have hAT : ArcAt (wr.alloc (.cells #[.int .i64 (N.fr i : Int), .int .i64 (N.to i : Int), .int .i64 (N.lo i), .int .i64 (N.up i), .int .i64 (N.c i)] 46)) wr.heap.size N i := ⟨cell_mk _ _ _ rfl rfl, cell_mk _ _ _ rfl rfl, cell_mk _ _ _ rfl rfl, cell_mk _ _ _ rfl rfl, cell_mk _ _ _ rfl rfl⟩
      have hga1 : K.gf ≠ wr.heap.size := by have := H2.out.f.lt; omega
      have hga2 : ge ≠ wr.heap.size := by have := H2.out.x.lt; omega
      have Hq : Hid (S1 N K ge w2 (fk N i) (xk N i) (wr.alloc (.cells #[.int .i64 (N.fr i : Int), .int .i64 (N.to i : Int), .int .i64 (N.lo i), .int .i64 (N.up i), .int .i64 (N.c i)] 46)) ∧ ArcAt (wr.alloc (.cells #[.int .i64 (N.fr i : Int), .int .i64 (N.to i : Int), .int .i64 (N.lo i), .int .i64 (N.up i), .int .i64 (N.c i)] 46)) wr.heap.size N i) := Lib.hid ⟨hS1, hAT⟩
      generalize (wr.alloc (.cells #[.int .i64 (N.fr i : Int), .int .i64 (N.to i : Int), .int .i64 (N.lo i), .int .i64 (N.up i), .int .i64 (N.c i)] 46)) = wB at *
      clear hS1 hAT k0 k1 k2 k3 k4 H2
      generalize wr.heap.size = ga at *
      clear wr
      have hgfe : K.gf ≠ ge := by have := HGE.out; omega
      have HGF : Hid (K.gf < w2.heap.size) := Lib.hid (by have := HGE.out; omega)
      have c2 := (HS.out.kp ((Hq.out.1).kp.mono (by simp))).cells.2.2.1
      have hgl := (HS.out.kp ((Hq.out.1).kp.mono (by simp))).lt
      obtain ⟨a0, a1, a2, a3, a4⟩ := Hq.out.2
      have hal := block_lt_of_cell a0
      have q1 := Hq.out.1.f.cell i hlt
      have q2 := Hq.out.1.f.frozen i
      have q3 := Hq.out.1.f.lt
      go_cut [7] from 26 to 33 (fun v7 wx => v7 = .pointer (some ⟨ga, 0, none⟩) ∧ Hid (S1 N K ge w2 (upd (fk N i) i (N.lo i)) (xk N i) wx ∧ ArcAt wx ga N i))
      case first =>
        go_region
        all_goals
          go_wp2
          go_meet
          exact ⟨rfl, Lib.hid ⟨(Hq.out.1.putf HGF.out i (N.lo i)).below (Below.refl _ _).drew, Hq.out.2.kp (X := [K.gf]) (((Kp.refl _ _).setCell _ _ (.inl (by simp))).drew) (by simp; omega)⟩⟩
      case rest =>
        obtain ⟨rfl, Hr⟩ := hcut
        clear c2 hgl a0 a1 a2 a3 a4 hal q1 q2 q3
        clear Hq
        have hn7 := Hr.out.2.2.2.2.2
        have hal7 := block_lt_of_cell hn7
        by_cases hcn : N.c i < 0
        · go_upto_region 10 with fail
          clear hn7 hal7
          have c2 := (HS.out.kp ((Hr.out.1).kp.mono (by simp))).cells.2.2.1
          have hgl := (HS.out.kp ((Hr.out.1).kp.mono (by simp))).lt
          obtain ⟨a0, a1, a2, a3, a4⟩ := Hr.out.2
          have hal := block_lt_of_cell a0
          have q1 := Hr.out.1.f.cell i hlt
          have q2 := Hr.out.1.f.frozen i
          have q3 := Hr.out.1.f.lt
          go_cut [7] from 37 to 44 (fun v7 wx => v7 = .pointer (some ⟨ga, 0, none⟩) ∧ Hid (S1 N K ge w2 (upd (upd (fk N i) i (N.lo i)) i (N.up i)) (xk N i) wx ∧ ArcAt wx ga N i))
          case first =>
            go_region
            all_goals
              go_wp2
              go_meet
              exact ⟨rfl, Lib.hid ⟨(Hr.out.1.putf HGF.out i (N.up i)).below (Below.refl _ _).drew, Hr.out.2.kp (X := [K.gf]) (((Kp.refl _ _).setCell _ _ (.inl (by simp))).drew) (by simp; omega)⟩⟩
          case rest =>
            obtain ⟨rfl, Hs0⟩ := hcut
            clear c2 hgl a0 a1 a2 a3 a4 hal q1 q2 q3
            have Hs : Hid (S1 N K ge w2 (fk N (i + 1)) (xk N i) wc ∧ ArcAt wc ga N i) := Lib.hid ⟨Hs0.out.1.congr (fun j _ => by
                by_cases e : j = i
                · subst e; rw [upd_same]; unfold fk Nw.f0; rw [if_pos (by omega), if_pos hcn]
                · rw [upd_other _ _ e, upd_other _ _ e, fk_set N i rfl j e]) (fun _ _ => rfl), Hs0.out.2⟩
            clear Hs0
            go_upto_region 11 with fail
            have c2 := (HS.out.kp ((Hs.out.1).kp.mono (by simp))).cells.2.2.1
            have hgl := (HS.out.kp ((Hs.out.1).kp.mono (by simp))).lt
            obtain ⟨a0, a1, a2, a3, a4⟩ := Hs.out.2
            have hal := block_lt_of_cell a0
            have q1 := Hs.out.1.x.cell (N.fr i) hfV
            have q2 := Hs.out.1.x.frozen (N.fr i)
            have q3 := Hs.out.1.x.lt
            have q4 := Hs.out.1.f.cell i hlt
            have q5 := Hs.out.1.f.lt
            have hxb := xk_bd HV.out hi (N.fr i)
            rw [show fk N (i + 1) i = N.f0 i by unfold fk; rw [if_pos (by omega)]] at q4
            obtain ⟨xb1, xb2⟩ := hxb
            obtain ⟨xv, hxv⟩ : ∃ xv, xk N i (N.fr i) = xv := ⟨_, rfl⟩
            rw [hxv] at q1 xb1 xb2
            obtain ⟨fv, hfv⟩ : ∃ fv, N.f0 i = fv := ⟨_, rfl⟩
            have hfb2 := hfb
            rw [hfv] at q4 hfb2
            obtain ⟨fb1, fb2⟩ := hfb2
            have HXV := Lib.hid hxv
            have HFV := Lib.hid hfv
            clear hxv hfv
            go_cut [7] from 45 to 58 (fun v7 wx => v7 = .pointer (some ⟨ga, 0, none⟩) ∧ Hid (S1 N K ge w2 (fk N (i + 1)) (upd (xk N i) (N.fr i) (xv - fv)) wx ∧ ArcAt wx ga N i))
            case first =>
              go_region
              all_goals
                go_wp2
                go_meet
                exact ⟨rfl, Lib.hid ⟨(Hs.out.1.putx HGF.out (N.fr i) (xv - fv)).below (Below.refl _ _).drew, Hs.out.2.kp (X := [ge]) (((Kp.refl _ _).setCell _ _ (.inl (by simp))).drew) (by simp; omega)⟩⟩
            case rest =>
              obtain ⟨rfl, Ht⟩ := hcut
              clear c2 hgl a0 a1 a2 a3 a4 hal q1 q2 q3 q4 q5 xb1 xb2 fb1 fb2
              have Hu : Hid (S1 N K ge w2 (fk N (i + 1)) (xh N i) wc ∧ ArcAt wc ga N i) := Lib.hid ⟨Ht.out.1.congr (fun _ _ => rfl) (fun v _ => by rw [← HXV.out, ← HFV.out]; exact xh_eq N i v), Ht.out.2⟩
              clear Ht HXV HFV
              go_upto_region 12 with fail
              have c2 := (HS.out.kp ((Hu.out.1).kp.mono (by simp))).cells.2.2.1
              have hgl := (HS.out.kp ((Hu.out.1).kp.mono (by simp))).lt
              obtain ⟨a0, a1, a2, a3, a4⟩ := Hu.out.2
              have hal := block_lt_of_cell a0
              have q1 := Hu.out.1.x.cell (N.to i) htV
              have q2 := Hu.out.1.x.frozen (N.to i)
              have q3 := Hu.out.1.x.lt
              have q4 := Hu.out.1.f.cell i hlt
              have q5 := Hu.out.1.f.lt
              have hxb := (by have h1 := xk_bd HV.out hi (N.to i); have h2 : xh N i (N.to i) = xk N i (N.to i) - (if N.fr i = N.to i then N.f0 i else 0) := rfl; rw [h2]; split <;> omega : -2639927418290176 ≤ xh N i (N.to i) ∧ xh N i (N.to i) ≤ 2639927418290176)
              rw [show fk N (i + 1) i = N.f0 i by unfold fk; rw [if_pos (by omega)]] at q4
              obtain ⟨xb1, xb2⟩ := hxb
              obtain ⟨xv, hxv⟩ : ∃ xv, xh N i (N.to i) = xv := ⟨_, rfl⟩
              rw [hxv] at q1 xb1 xb2
              obtain ⟨fv, hfv⟩ : ∃ fv, N.f0 i = fv := ⟨_, rfl⟩
              have hfb2 := hfb
              rw [hfv] at q4 hfb2
              obtain ⟨fb1, fb2⟩ := hfb2
              have HXV := Lib.hid hxv
              have HFV := Lib.hid hfv
              clear hxv hfv
              go_region
              all_goals
                go_wp2
                exact ⟨⟨i + 1, by omega, by go_num, Lib.hid (((Hu.out.1.putx HGF.out (N.to i) (xv + fv)).below (Below.refl _ _).drew).congr (fun _ _ => rfl) (fun v _ => by rw [← HXV.out, ← HFV.out]; exact xk_eq N i v))⟩, by simp [intOf]; omega⟩
        · have dcn : decide (N.c i < 0) = false := by simpa using hcn
          have Hs : Hid (S1 N K ge w2 (fk N (i + 1)) (xk N i) wc ∧ ArcAt wc ga N i) := Lib.hid ⟨Hr.out.1.congr (fun j _ => by
            by_cases e : j = i
            · subst e; rw [upd_same]; unfold fk Nw.f0; rw [if_pos (by omega), if_neg hcn]
            · rw [upd_other _ _ e, fk_set N i rfl j e]) (fun _ _ => rfl), Hr.out.2⟩
          clear Hr hcn
          go_upto_region 11 with fail
          have c2 := (HS.out.kp ((Hs.out.1).kp.mono (by simp))).cells.2.2.1
          have hgl := (HS.out.kp ((Hs.out.1).kp.mono (by simp))).lt
          obtain ⟨a0, a1, a2, a3, a4⟩ := Hs.out.2
          have hal := block_lt_of_cell a0
          have q1 := Hs.out.1.x.cell (N.fr i) hfV
          have q2 := Hs.out.1.x.frozen (N.fr i)
          have q3 := Hs.out.1.x.lt
          have q4 := Hs.out.1.f.cell i hlt
          have q5 := Hs.out.1.f.lt
          have hxb := xk_bd HV.out hi (N.fr i)
          rw [show fk N (i + 1) i = N.f0 i by unfold fk; rw [if_pos (by omega)]] at q4
          obtain ⟨xb1, xb2⟩ := hxb
          obtain ⟨xv, hxv⟩ : ∃ xv, xk N i (N.fr i) = xv := ⟨_, rfl⟩
          rw [hxv] at q1 xb1 xb2
          obtain ⟨fv, hfv⟩ : ∃ fv, N.f0 i = fv := ⟨_, rfl⟩
          have hfb2 := hfb
          rw [hfv] at q4 hfb2
          obtain ⟨fb1, fb2⟩ := hfb2
          have HXV := Lib.hid hxv
          have HFV := Lib.hid hfv
          clear hxv hfv
          go_cut [7] from 45 to 58 (fun v7 wx => v7 = .pointer (some ⟨ga, 0, none⟩) ∧ Hid (S1 N K ge w2 (fk N (i + 1)) (upd (xk N i) (N.fr i) (xv - fv)) wx ∧ ArcAt wx ga N i))
          case first =>
            go_region
            all_goals
              go_wp2
              go_meet
              exact ⟨rfl, Lib.hid ⟨(Hs.out.1.putx HGF.out (N.fr i) (xv - fv)).below (Below.refl _ _).drew, Hs.out.2.kp (X := [ge]) (((Kp.refl _ _).setCell _ _ (.inl (by simp))).drew) (by simp; omega)⟩⟩
          case rest =>
            obtain ⟨rfl, Ht⟩ := hcut
            clear c2 hgl a0 a1 a2 a3 a4 hal q1 q2 q3 q4 q5 xb1 xb2 fb1 fb2
            have Hu : Hid (S1 N K ge w2 (fk N (i + 1)) (xh N i) wc ∧ ArcAt wc ga N i) := Lib.hid ⟨Ht.out.1.congr (fun _ _ => rfl) (fun v _ => by rw [← HXV.out, ← HFV.out]; exact xh_eq N i v), Ht.out.2⟩
            clear Ht HXV HFV
            go_upto_region 12 with fail
            have c2 := (HS.out.kp ((Hu.out.1).kp.mono (by simp))).cells.2.2.1
            have hgl := (HS.out.kp ((Hu.out.1).kp.mono (by simp))).lt
            obtain ⟨a0, a1, a2, a3, a4⟩ := Hu.out.2
            have hal := block_lt_of_cell a0
            have q1 := Hu.out.1.x.cell (N.to i) htV
            have q2 := Hu.out.1.x.frozen (N.to i)
            have q3 := Hu.out.1.x.lt
            have q4 := Hu.out.1.f.cell i hlt
            have q5 := Hu.out.1.f.lt
            have hxb := (by have h1 := xk_bd HV.out hi (N.to i); have h2 : xh N i (N.to i) = xk N i (N.to i) - (if N.fr i = N.to i then N.f0 i else 0) := rfl; rw [h2]; split <;> omega : -2639927418290176 ≤ xh N i (N.to i) ∧ xh N i (N.to i) ≤ 2639927418290176)
            rw [show fk N (i + 1) i = N.f0 i by unfold fk; rw [if_pos (by omega)]] at q4
            obtain ⟨xb1, xb2⟩ := hxb
            obtain ⟨xv, hxv⟩ : ∃ xv, xh N i (N.to i) = xv := ⟨_, rfl⟩
            rw [hxv] at q1 xb1 xb2
            obtain ⟨fv, hfv⟩ : ∃ fv, N.f0 i = fv := ⟨_, rfl⟩
            have hfb2 := hfb
            rw [hfv] at q4 hfb2
            obtain ⟨fb1, fb2⟩ := hfb2
            have HXV := Lib.hid hxv
            have HFV := Lib.hid hfv
            clear hxv hfv
            go_region
            all_goals
              go_wp2
              exact ⟨⟨i + 1, by omega, by go_num, Lib.hid (((Hu.out.1.putx HGF.out (N.to i) (xv + fv)).below (Below.refl _ _).drew).congr (fun _ _ => rfl) (fun v _ => by rw [← HXV.out, ← HFV.out]; exact xk_eq N i v))⟩, by simp [intOf]; omega⟩
    · obtain rfl : i = N.m := by omega
      have hgeq := HGE.out
      have hgpl := HP.out.lt
      have hgcl := HC.out.lt
      rw [hgeq] at hgpl hgcl
      obtain ⟨dd1, dd2, dd3⟩ := HS.out.dist
      have HKN : Hid (∀ W, Kp [K.gf, K.gp, ge] wr W → Kp [K.gf, K.gp, K.gc] w2 W) := Lib.hid (fun W hk => (H2.out.kp.mono (by simp)).new hk (by simp; omega))
      have HSW : Hid (∀ W, Kp [K.gf, K.gp, K.gc] w2 W → Srch W g N K ∧ W.cell? ⟨w.heap.size, 1, none⟩ = some (.slice a N.m ca)) := Lib.hid (fun W hk => ⟨HS.out.kp hk, hk.cell c1 (by simp; omega)⟩)
      have hb0 := H2.out.congr (f' := N.f0) (x' := N.exc N.f0) (fun j hj => by unfold fk; rw [if_pos hj]) (fun v _ => rfl)
      have HBR : Hid (BR N K ge wr N.f0 (fun _ => 0) (N.exc N.f0) wr) := Lib.hid ⟨Kp.refl _ _, hb0.f, VRow.kp HP.out hb0.kp (by simp; omega), hb0.x, VRow.kp HC.out hb0.kp (by simp; omega)⟩
      have HZR := Lib.hid (VRow.kp HC.out hb0.kp (by simp; omega))
      have HNE3 : Hid (ge ≠ K.gf ∧ ge ≠ K.gp ∧ ge ≠ K.gc) := Lib.hid (by omega)
      have HD3 : Hid (K.gf ≠ K.gp ∧ K.gf ≠ K.gc ∧ K.gp ≠ K.gc) := Lib.hid ⟨dd1, dd2, dd3⟩
      have hrs := H2.out.kp.size
      have HBW : Hid (Below w.heap.size w wr) := Lib.hid (HB2.out.trans (H2.out.kp.to_below (by omega) (by simp; omega)))
      have hwr : w.heap.size < wr.heap.size := by omega
      clear hb0 H2 hi hlt H1 c0 c1 dd1 dd2 dd3 hgeq
      go_wp2_with fail
      refine (balance_any N HV.out K g ge N.f0 (fun _ => 0) (N.exc N.f0) (bal_start HV.out) _ (fun W hk => (HSW.out W (HKN.out W hk)).1) HNE3.out HBR.out).mono ?_
      rintro e w5 ⟨hk5, he⟩
      have HB5 : Hid (Below w.heap.size w w5) := Lib.hid (HBW.out.trans (hk5.to_below (by omega) (by simp; omega)))
      have HK5 := Lib.hid (HKN.out _ hk5)
      have HZ5 := Lib.hid (VRow.kp HZR.out hk5 (by have := HD3.out; have := HNE3.out; simp; omega))
      clear hk5
      rcases he with ⟨rfl, f, p, rf, rp, hci, hfi, hpb⟩ | ⟨rfl, hnoc⟩
      · have HRF := Lib.hid rf
        have HRP := Lib.hid rp
        have HCI := Lib.hid hci
        have HFI := Lib.hid hfi
        have HPB : Hid (∀ v, v < N.V → 0 ≤ p v ∧ p v ≤ 1099511627776) := Lib.hid (fun v hv => by have := hpb v hv; omega)
        have s1 := (HSW.out _ HK5.out).2
        have hgn5 := block_lt_of_cell s1
        clear rf rp hci hfi hpb
        go_wp2_with fail
        go_loopw [81] (fun v81 wr => ∃ i : Nat, i ≤ N.m ∧ v81 = .int .i64 i ∧ Hid (Kp [K.gc] w5 wr) ∧ Hid (BRow wr K.gc N.m (zs N p i))) (fun v _ => N.m - (intOf v).toNat)
        case atStart => exact ⟨0, by omega, rfl, Lib.hid (Kp.refl _ _), Lib.hid (VRow.congr HZ5.out _ (fun j _ => by unfold zs; rw [if_neg (by omega)]))⟩
        case round =>
          obtain ⟨i, hi, rfl, HK, HR⟩ := hrel
          by_cases hlt : i < N.m
          · have hS5 := (HSW.out _ (HK5.out.trans (HK.out.mono (by simp)))).1
            have c5 := hS5.cells.2.2.2.2.2
            have hg5 := hS5.lt
            have q1 := HR.out.cell i hlt
            have q2 := HR.out.frozen i
            have q3 := HR.out.lt
            have HS5 := Lib.hid hS5
            have HP5 := Lib.hid (VRow.kp HRP.out HK.out (by have := HD3.out; simp; omega))
            clear hS5 s1 hgn5
            go_wp2_with fail
            go_region_with ((go_at_call 38; refine (price_any ⟨i, true⟩ N HV.out K g p HPB.out hlt _ (HS5.out.below (Below.refl _ _).drew) HP5.out).mono ?_; rintro e w6 ⟨rfl, hb6⟩; have c5' := (hb6.cell (p := ⟨g, 5, none⟩) hg5).trans c5; have q1' := (hb6.cell (p := ⟨K.gc, i, none⟩) q3).trans q1; have q2' := (hb6.frozen (p := ⟨K.gc, i, none⟩) q3).trans q2; have q3' : K.gc < w6.heap.size := Nat.lt_of_lt_of_le q3 hb6.size; have HB6 := Lib.hid hb6; clear hb6))
            all_goals
              have HR6 : Hid (BRow w6 K.gc N.m (zs N p i)) := Lib.hid (VRow.below HR.out ((Below.refl _ _).drew.trans HB6.out) HR.out.lt)
              have HK6 : Hid (Kp [K.gc] w5 w6) := Lib.hid (HK.out.trans ((Kp.of_below (X := []) ((Below.refl wr.heap.size wr).drew.trans HB6.out)).mono (by simp)))
              have hspi : N.sp p ⟨i, true⟩ = N.price p i := by rw [sp_price]; rfl
              have HSP := Lib.hid hspi
              clear hspi
              go_wp2
              exact ⟨⟨i + 1, by omega, by go_num, Lib.hid (HK6.out.setCell _ _ (.inl (by simp))), Lib.hid (VRow.set HR6.out i _ _ (by rw [HSP.out]; unfold zs; rw [if_pos (by omega)]) (fun j _ hj => by
                unfold zs
                by_cases e : j < i
                · rw [if_pos e, if_pos (by omega)]
                · rw [if_neg e, if_neg (by omega)]))⟩, by simp [intOf]; omega⟩
          · obtain rfl : i = N.m := by omega
            have hk6 := HK5.out.trans (HK.out.mono (by simp))
            have s2 := (HSW.out _ hk6).2
            have hgn6 := block_lt_of_cell s2
            have HK6 := Lib.hid hk6
            have HZ6 : Hid (BRow wr K.gc N.m (zk (fun j => N.price p j != 0) 0)) := Lib.hid (VRow.congr HR.out _ (fun j hj => by unfold zs zk; rw [if_pos hj]; simp))
            have HF6 := Lib.hid (VRow.kp HRF.out HK.out (by have := HD3.out; simp; omega))
            have HB6 : Hid (Below w.heap.size w wr) := Lib.hid (HB5.out.trans (HK.out.to_below (by have := HB5.out.size; omega) (by simp; omega)))
            obtain ⟨w6, rfl⟩ : ∃ w6 : World, w6 = wr := ⟨_, rfl⟩
            clear s1 hgn5 hk6 HR HK HZ5 hi hlt
            go_wp2_with fail
            go_loopw [99] (fun v99 wr => ∃ (i : Nat) (f' : Nat → Int), i ≤ N.m ∧ v99 = .int .i64 i ∧ Hid (Kp [K.gf, K.gc] w6 wr) ∧ Hid (IRow wr K.gf N.m f') ∧ Hid (BRow wr K.gc N.m (zk (fun j => N.price p j != 0) i)) ∧ Hid (Lx N (fun j => N.price p j != 0) f i f')) (fun v _ => N.m - (intOf v).toNat)
            case atStart => exact ⟨0, f, by omega, rfl, Lib.hid (Kp.refl _ _), HF6, HZ6, Lib.hid (Lx.start _ HCI.out)⟩
            case round =>
              obtain ⟨i, f', hi, rfl, HK, HF7, HZ7, HL⟩ := hrel
              have hk7 := HK6.out.trans (HK.out.mono (by simp))
              have hS7 := (HSW.out _ hk7).1
              have HS7 := Lib.hid hS7
              have c5 := hS7.cells.2.2.2.2.2
              have c2 := hS7.cells.2.2.1
              have hg7 := hS7.lt
              clear hS7 hk7
              by_cases hlt : i < N.m
              · have q1 := HZ7.out.cell i hlt
                have q3 := HZ7.out.lt
                cases hz : (N.price p i != 0)
                · have hzi : zk (fun j => N.price p j != 0) i i = false := (zk_false _ _ _).2 ⟨hz, Nat.le_refl _⟩
                  rw [hzi] at q1
                  have HZI := Lib.hid hz
                  clear hz hzi
                  go_wp2_with fail
                  refine (lessen_any N HV.out K g i hlt f' _ HL.out.circ _ HS7.out HF7.out HZ7.out).mono ?_
                  rintro e w8 ⟨rfl, hk8, g8, r8, z8, l8⟩
                  have HK8 := Lib.hid (HK.out.trans hk8)
                  have HF8 := Lib.hid r8
                  have HZ8 : Hid (BRow w8 K.gc N.m (zk (fun j => N.price p j != 0) (i + 1))) := Lib.hid (VRow.congr z8 _ (fun j _ => by
                    congr 1
                    unfold mark zk
                    by_cases e : j = i
                    · rw [if_pos e, e]; simp
                    · rw [if_neg e]
                      by_cases e2 : j < i
                      · have : j < i + 1 := by omega
                        simp [e2, this]
                      · have : ¬ j < i + 1 := by omega
                        simp [e2, this]))
                  have HL8 := Lib.hid (HL.out.step hlt l8 HZI.out)
                  clear hk8 r8 z8 l8
                  go_wp2_with fail
                  exact ⟨⟨i + 1, g8, by omega, by go_num, HK8, HF8, HZ8, HL8⟩, by simp [intOf]; omega⟩
                · have hzi : zk (fun j => N.price p j != 0) i i = true := (zk_true _ _ _).2 (.inl hz)
                  rw [hzi] at q1
                  have HL8 := Lib.hid (HL.out.skip hz)
                  have HZ8 : Hid (BRow wr K.gc N.m (zk (fun j => N.price p j != 0) (i + 1))) := Lib.hid (VRow.congr HZ7.out _ (fun j _ => by
                    congr 1
                    unfold zk
                    by_cases e : j = i
                    · rw [e]; show ((N.price p i != 0) || decide (i < i)) = ((N.price p i != 0) || decide (i < i + 1)); rw [hz]; rfl
                    · by_cases e2 : j < i
                      · have : j < i + 1 := by omega
                        simp [e2, this]
                      · have : ¬ j < i + 1 := by omega
                        simp [e2, this]))
                  clear hz hzi
                  go_wp2_with fail
                  exact ⟨⟨i + 1, f', by omega, by go_num, HK, HF7, HZ8, HL8⟩, by simp [intOf]; omega⟩
              · obtain rfl : i = N.m := by omega
                have HB9 : Hid (Below w.heap.size w wr) := Lib.hid (HB6.out.trans (HK.out.to_below (by have := HB6.out.size; omega) (by simp; omega)))
                have HCE : Hid (N.cert f') := Lib.hid ⟨p, f, fun j => N.price p j != 0, HFI.out, HCI.out, fun i _ => by simp, HL.out⟩
                clear hi hlt
                go_wp2_with fail
                go_ret2
                exact ⟨HB9.out, .inr ⟨K.gf, f', rfl, HF7.out, by omega, HCE.out⟩⟩
      · clear HZ5 HK5
        have HNOC := Lib.hid hnoc
        clear hnoc
        go_wp2_with fail
        go_ret2
        exact ⟨HB5.out, .inl ⟨rfl, HNOC.out⟩⟩
end Go.Proofs.Ythoehobofdeifaa
