/-
  WALK of the reference's cheapest. (Filled in from a template of this repo.)
-/
import Derived.Test.YthoehobofdeifaaRCw
namespace Go.Proofs.Ythoehobofdeifaa
open Go.ChangeShapes Go.WideShapes Go.ChangeAt Go.RowKit
set_option linter.unusedVariables false

set_option maxRecDepth 100000 in
set_option maxHeartbeats 8000000 in
theorem Rcheapest_any (N : Nw) (hv : N.valid) (a : Option Addr) (ca : Nat) (w : World) (h : Arcs w a N) :
    Calls Try.prog 40 #[N.val a ca] w (ChPost N w) := by
  have hV2 := hv.V2
  have hm2 := hv.m2
  have mk1 := make_ints N.V (by omega)
  have mk2 := make_ints N.m (by omega)
  have HV := Lib.hid hv
  have HA := Lib.hid h
  clear hv h
  go_enter Try.func40, Try.ntmps40
  go_upto_region 1 with fail
  have HB1 : Hid (Below w.heap.size w (w.alloc (.cells #[.int .i64 (N.V : Int), .slice a N.m ca] 25))) := Lib.hid ((Below.refl _ _).alloc (Nat.le_refl _) _)
  have c0 : (w.alloc (.cells #[.int .i64 (N.V : Int), .slice a N.m ca] 25)).cell? ⟨w.heap.size, 0, none⟩ = some (.int .i64 (N.V : Int)) := cell_mk _ _ _ rfl rfl
  have c1 : (w.alloc (.cells #[.int .i64 (N.V : Int), .slice a N.m ca] 25)).cell? ⟨w.heap.size, 1, none⟩ = some (.slice a N.m ca) := cell_mk _ _ _ rfl rfl
  obtain ⟨w1, hw1⟩ : ∃ w1, (w.alloc (.cells #[.int .i64 (N.V : Int), .slice a N.m ca] 25)) = w1 := ⟨_, rfl⟩
  rw [hw1] at HB1 c0 c1 ⊢
  obtain ⟨gn, hgn⟩ : ∃ gn, w.heap.size = gn := ⟨_, rfl⟩
  rw [hgn] at c0 c1 ⊢
  have HGN := Lib.hid hgn
  have l0 : gn < w1.heap.size := block_lt_of_cell c0
  clear hw1 hgn
  go_upto_region 2 with fail
  obtain ⟨w2, hw2⟩ : ∃ w2, (w1.alloc (.cells (vrow N.m fun _ => .int .i64 0) 3)) = w2 := ⟨_, rfl⟩
  have hr2 : IRow w2 w1.heap.size N.m (fun _ => 0) := by rw [← hw2]; exact VRow.new _ _ _ _ rfl
  have hb2 : Below w1.heap.size w1 w2 := by rw [← hw2]; exact (Below.refl _ _).alloc (Nat.le_refl _) _
  rw [hw2] at ⊢
  replace c0 := (hb2.cell (p := ⟨gn, 0, none⟩) l0).trans c0
  replace c1 := (hb2.cell (p := ⟨gn, 1, none⟩) l0).trans c1
  obtain ⟨gf, hgf⟩ : ∃ gf, w1.heap.size = gf := ⟨_, rfl⟩
  rw [hgf] at hr2 l0 ⊢
  have HR2 := Lib.hid hr2
  have HGF := Lib.hid hgf
  have HB2 := Lib.hid (HB1.out.trans (hb2.mono HB1.out.size))
  have HB12 := Lib.hid hb2
  clear hw2 hgf hb2
  have l2 : gf < w2.heap.size := hr2.lt
  have l02 : gn < w2.heap.size := by omega
  clear hr2
  go_upto_region 3 with fail
  obtain ⟨w3, hw3⟩ : ∃ w3, (w2.alloc (.cells (vrow N.V fun _ => .int .i64 0) 3)) = w3 := ⟨_, rfl⟩
  have hr3 : IRow w3 w2.heap.size N.V (fun _ => 0) := by rw [← hw3]; exact VRow.new _ _ _ _ rfl
  have hb3 : Below w2.heap.size w2 w3 := by rw [← hw3]; exact (Below.refl _ _).alloc (Nat.le_refl _) _
  rw [hw3] at ⊢
  replace c0 := (hb3.cell (p := ⟨gn, 0, none⟩) l02).trans c0
  replace c1 := (hb3.cell (p := ⟨gn, 1, none⟩) l02).trans c1
  obtain ⟨ge, hge⟩ : ∃ ge, w2.heap.size = ge := ⟨_, rfl⟩
  rw [hge] at hr3 ⊢
  have H3 : Hid (CR N a ca gn gf ge w (fk N 0) (xk N 0) w3) := Lib.hid ⟨HB2.out.trans (hb3.mono HB2.out.size), VRow.congr (VRow.below HR2.out hb3 HR2.out.lt) _ (fun j _ => by unfold fk; rw [if_neg (by omega)]), VRow.congr hr3 _ (fun v _ => rfl), c0, c1, by
    have h1 := HGN.out; have h2 := HGF.out; have h3 := HB1.out.size; have h4 := HB2.out.size; omega, by omega⟩
  clear hw3 hge hb3 hr3 HB1 HB2 HGN HGF HR2 HB12 mk2 l0 l2 l02
  clear c0 c1
  clear w1 w2
  go_wp2_with fail
  go_loopw [6] (fun v6 wr => ∃ i : Nat, i ≤ N.m ∧ v6 = .int .i64 i ∧ Hid (CR N a ca gn gf ge w (fk N i) (xk N i) wr)) (fun v _ => N.m - (intOf v).toNat)
  case atStart => exact ⟨0, by omega, rfl, H3⟩
  case round =>
    obtain ⟨i, hi, rfl, H2⟩ := hrel
    by_cases hlt : i < N.m
    · have n1 := H2.out.n1
      have nl := block_lt_of_cell n1
      obtain ⟨b, off, rfl, hb, k0, k1, k2, k3, k4⟩ := HA.out.below H2.out.below i hlt
      have hfb := f0_bd HV.out hlt
      obtain ⟨hfV, htV⟩ := HV.out.ok i hlt
      go_upto_region 7 with fail
      have hS1 := H2.out.more ((Below.refl _ _).alloc (Nat.le_refl _) (.cells #[.int .i64 (N.fr i : Int), .int .i64 (N.to i : Int), .int .i64 (N.lo i), .int .i64 (N.up i), .int .i64 (N.c i)] 46))
      have hAT : ArcAt (wr.alloc (.cells #[.int .i64 (N.fr i : Int), .int .i64 (N.to i : Int), .int .i64 (N.lo i), .int .i64 (N.up i), .int .i64 (N.c i)] 46)) wr.heap.size N i := ⟨cell_mk _ _ _ rfl rfl, cell_mk _ _ _ rfl rfl, cell_mk _ _ _ rfl rfl, cell_mk _ _ _ rfl rfl, cell_mk _ _ _ rfl rfl⟩
      have hga1 : gf ≠ wr.heap.size := by have := H2.out.f.lt; omega
      have hga2 : ge ≠ wr.heap.size := by have := H2.out.x.lt; omega
      have Hq : Hid (CR N (some ⟨b, off, none⟩) ca gn gf ge w (fk N i) (xk N i) (wr.alloc (.cells #[.int .i64 (N.fr i : Int), .int .i64 (N.to i : Int), .int .i64 (N.lo i), .int .i64 (N.up i), .int .i64 (N.c i)] 46)) ∧ ArcAt (wr.alloc (.cells #[.int .i64 (N.fr i : Int), .int .i64 (N.to i : Int), .int .i64 (N.lo i), .int .i64 (N.up i), .int .i64 (N.c i)] 46)) wr.heap.size N i) := Lib.hid ⟨hS1, hAT⟩
      generalize (wr.alloc (.cells #[.int .i64 (N.fr i : Int), .int .i64 (N.to i : Int), .int .i64 (N.lo i), .int .i64 (N.up i), .int .i64 (N.c i)] 46)) = wB at *
      clear hS1 hAT k0 k1 k2 k3 k4 H2 n1 nl hb
      generalize wr.heap.size = ga at *
      clear wr
      obtain ⟨a0, a1, a2, a3, a4⟩ := Hq.out.2
      have hal := block_lt_of_cell a0
      have q1 := Hq.out.1.f.cell i hlt
      have q2 := Hq.out.1.f.frozen i
      have q3 := Hq.out.1.f.lt
      go_upto_region 8 with fail
      have Hr : Hid (CR N (some ⟨b, off, none⟩) ca gn gf ge w (upd (fk N i) i (N.lo i)) (xk N i) (wB.setCell ⟨gf, i, none⟩ (.int .i64 (N.lo i))) ∧ ArcAt (wB.setCell ⟨gf, i, none⟩ (.int .i64 (N.lo i))) ga N i) := Lib.hid ⟨Hq.out.1.putf i (N.lo i), Hq.out.2.kp (X := [gf]) (((Kp.refl _ _).setCell _ _ (.inl (by simp)))) (by simp; omega)⟩
      generalize (wB.setCell ⟨gf, i, none⟩ (.int .i64 (N.lo i))) = wC at *
      clear a0 a1 a2 a3 a4 hal q1 q2 q3 Hq
      clear wB
      obtain ⟨a0, a1, a2, a3, a4⟩ := Hr.out.2
      have hal := block_lt_of_cell a0
      go_upto_if 42 with fail
      obtain ⟨bc, hbc⟩ : ∃ b, decide (N.c i < 0) = b := ⟨_, rfl⟩
      (try rw [hbc])
      go_cut [] from 43 to 47 (fun wx => Hid (CR N (some ⟨b, off, none⟩) ca gn gf ge w (fk N (i + 1)) (xk N i) wx ∧ ArcAt wx ga N i))
      case first =>
        by_cases hcn : N.c i < 0
        · obtain rfl : bc = true := by rw [← hbc]; simpa using hcn
          have q1 := Hr.out.1.f.cell i hlt
          have q2 := Hr.out.1.f.frozen i
          have q3 := Hr.out.1.f.lt
          have HS0 : Hid (∀ W, W = wC.setCell ⟨gf, i, none⟩ (.int .i64 (N.up i)) → CR N (some ⟨b, off, none⟩) ca gn gf ge w (fk N (i + 1)) (xk N i) W ∧ ArcAt W ga N i) := Lib.hid (fun W hW => by
            subst hW
            exact ⟨(Hr.out.1.putf i (N.up i)).congr (fun j _ => by
              by_cases e : j = i
              · subst e; rw [upd_same]; unfold fk Nw.f0; rw [if_pos (by omega), if_pos hcn]
              · rw [upd_other _ _ e, upd_other _ _ e, fk_set N i rfl j e]) (fun _ _ => rfl), Hr.out.2.kp (X := [gf]) ((Kp.refl _ _).setCell _ _ (.inl (by simp))) (by simp; omega)⟩)
          clear hbc
          go_wp2_with fail
          go_meet
          exact Lib.hid (HS0.out _ rfl)
        · obtain rfl : bc = false := by rw [← hbc]; simpa using hcn
          have HS0 : Hid (CR N (some ⟨b, off, none⟩) ca gn gf ge w (fk N (i + 1)) (xk N i) wC ∧ ArcAt wC ga N i) := Lib.hid ⟨Hr.out.1.congr (fun j _ => by
              by_cases e : j = i
              · subst e; rw [upd_same]; unfold fk Nw.f0; rw [if_pos (by omega), if_neg hcn]
              · rw [upd_other _ _ e, fk_set N i rfl j e]) (fun _ _ => rfl), Hr.out.2⟩
          clear hbc
          go_wp2_with fail
          go_meet
          exact HS0
      case rest =>
        have Hs := hcut
        clear hcut a0 a1 a2 a3 a4 hal Hr
        obtain ⟨a0, a1, a2, a3, a4⟩ := Hs.out.2
        have hal := block_lt_of_cell a0
        have q1 := Hs.out.1.x.cell (N.to i) htV
        have q2 := Hs.out.1.x.frozen (N.to i)
        have q3 := Hs.out.1.x.lt
        have q4 := Hs.out.1.f.cell i hlt
        have q5 := Hs.out.1.f.lt
        have hxb := xk_bd HV.out hi (N.to i)
        rw [show fk N (i + 1) i = N.f0 i by unfold fk; rw [if_pos (by omega)]] at q4
        obtain ⟨xb1, xb2⟩ := hxb
        obtain ⟨xv, hxv⟩ : ∃ xv, xk N i (N.to i) = xv := ⟨_, rfl⟩
        rw [hxv] at q1 xb1 xb2
        obtain ⟨fv, hfv⟩ : ∃ fv, N.f0 i = fv := ⟨_, rfl⟩
        have hfb2 := hfb
        rw [hfv] at q4 hfb2
        obtain ⟨fb1, fb2⟩ := hfb2
        have HXV := Lib.hid hxv
        have HFV := Lib.hid hfv
        clear hxv hfv hfb
        go_upto_region 10 with fail
        go_cut [] from 48 to 58 (fun wx => Hid (CR N (some ⟨b, off, none⟩) ca gn gf ge w (fk N (i + 1)) (upd (xk N i) (N.to i) (xv + fv)) wx ∧ ArcAt wx ga N i))
        case first =>
          go_region
          all_goals
            go_wp2
            go_meet
            exact Lib.hid ⟨(Hs.out.1.putx (N.to i) (xv + fv)).more (Below.refl _ _).drew, Hs.out.2.kp (X := [ge]) (((Kp.refl _ _).setCell _ _ (.inl (by simp))).drew) (by simp; omega)⟩
        case rest =>
          have Ht := hcut
          clear hcut a0 a1 a2 a3 a4 hal q1 q2 q3 q4 q5 xb1 xb2 fb1 fb2
          have Hu : Hid (CR N (some ⟨b, off, none⟩) ca gn gf ge w (fk N (i + 1)) (xt N i) wc ∧ ArcAt wc ga N i) := Lib.hid ⟨Ht.out.1.congr (fun _ _ => rfl) (fun v _ => by rw [← HXV.out, ← HFV.out]; exact xt_eq N i v), Ht.out.2⟩
          clear Ht HXV HFV Hs
          go_upto_region 11 with fail
          obtain ⟨a0, a1, a2, a3, a4⟩ := Hu.out.2
          have hal := block_lt_of_cell a0
          have q1 := Hu.out.1.x.cell (N.fr i) hfV
          have q2 := Hu.out.1.x.frozen (N.fr i)
          have q3 := Hu.out.1.x.lt
          have q4 := Hu.out.1.f.cell i hlt
          have q5 := Hu.out.1.f.lt
          have hxb := xt_bd HV.out hlt (N.fr i)
          have hfb := f0_bd HV.out hlt
          rw [show fk N (i + 1) i = N.f0 i by unfold fk; rw [if_pos (by omega)]] at q4
          obtain ⟨xb1, xb2⟩ := hxb
          obtain ⟨xv, hxv⟩ : ∃ xv, xt N i (N.fr i) = xv := ⟨_, rfl⟩
          rw [hxv] at q1 xb1 xb2
          obtain ⟨fv, hfv⟩ : ∃ fv, N.f0 i = fv := ⟨_, rfl⟩
          have hfb2 := hfb
          rw [hfv] at q4 hfb2
          obtain ⟨fb1, fb2⟩ := hfb2
          have HXV := Lib.hid hxv
          have HFV := Lib.hid hfv
          clear hxv hfv hfb
          go_region
          all_goals
            go_wp2
            exact ⟨⟨i + 1, by omega, by go_num, Lib.hid (((Hu.out.1.putx (N.fr i) (xv - fv)).more (Below.refl _ _).drew).congr (fun _ _ => rfl) (fun v _ => by rw [← HXV.out, ← HFV.out]; exact xt_next N i v))⟩, by simp [intOf]; omega⟩
    · obtain rfl : i = N.m := by omega
      have HS0 : Hid (CR N a ca gn gf ge w N.f0 (N.exc N.f0) wr) := Lib.hid (H2.out.congr (fun j hj => by unfold fk; rw [if_pos hj]) (fun v _ => rfl))
      clear H2 hi hlt H3
      go_wp2_with fail
      go_loopg [] (tot N.V (N.exc N.f0)).toNat (fun n wr => ∃ (f x : Nat → Int), n = (tot N.V x).toNat ∧ Hid (Rc N f x) ∧ Hid (CR N a ca gn gf ge w f x wr))
      case atStart => exact ⟨N.f0, N.exc N.f0, rfl, Lib.hid (Rc.start HV.out), HS0⟩
      case round =>
        obtain ⟨f, x, hgk, HR, HC⟩ := hrel
        have hgk' := Lib.hid hgk
        clear hgk HS0
        have n0 := HC.out.n0
        have nl := block_lt_of_cell n0
        go_upto_region 12 with fail
        go_cut [8, 9] from 70 to 75 (fun v8 v9 wx => ∃ gd go : Nat, v8 = .slice (some ⟨gd, 0, none⟩) N.V N.V ∧ v9 = .slice (some ⟨go, 0, none⟩) N.V N.V ∧ Hid (CD N a ca gn gf ge gd go w f x (fun _ => 0) (fun _ => 0) wx))
        case first =>
          have HNW : Hid (∀ (o1 o2 : Obj), o1 = .cells (vrow N.V fun _ => .int .i64 0) 3 → o2 = .cells (vrow N.V fun _ => .int .i64 0) 3 → ∀ W, W = ((wr.alloc o1).alloc o2).drew → CD N a ca gn gf ge wr.heap.size (wr.heap.size + 1) w f x (fun _ => 0) (fun _ => 0) W ∧ CD N a ca gn gf ge (wr.heap.size + 1) wr.heap.size w f x (fun _ => 0) (fun _ => 0) W) := Lib.hid (fun o1 o2 e1 e2 W hW => by
            subst e1 e2
            have hb : Below wr.heap.size wr W := by rw [hW]; exact (((Below.refl _ _).alloc (Nat.le_refl _) _).alloc (by simp) _).drew
            have r1 : IRow W wr.heap.size N.V (fun _ => 0) := by rw [hW]; exact VRow.keep (w := ((wr.alloc (.cells (vrow N.V fun _ => .int .i64 0) 3)).alloc (.cells (vrow N.V fun _ => .int .i64 0) 3))) ((VRow.new wr _ _ _ rfl).alloc _) rfl
            have r2 : IRow W (wr.heap.size + 1) N.V (fun _ => 0) := by rw [hW]; exact VRow.keep (w := ((wr.alloc (.cells (vrow N.V fun _ => .int .i64 0) 3)).alloc (.cells (vrow N.V fun _ => .int .i64 0) 3))) (VRow.new _ _ _ _ (by simp)) rfl
            have hl := HC.out.lt
            have hs := HC.out.below.size
            exact ⟨⟨HC.out.more hb, r1, r2, by omega, by omega⟩, ⟨HC.out.more hb, r2, r1, by omega, by omega⟩⟩)
          go_region
          all_goals
            go_wp2
            go_meet
            first
              | exact ⟨_, _, rfl, rfl, Lib.hid (HNW.out _ _ rfl rfl _ rfl).1⟩
              | exact ⟨_, _, rfl, rfl, Lib.hid (HNW.out _ _ rfl rfl _ rfl).2⟩
              | (refine ⟨_, _, rfl, rfl, Lib.hid ?_⟩; simpa using (HNW.out _ _ rfl rfl _ rfl).1)
              | (refine ⟨_, _, rfl, rfl, Lib.hid ?_⟩; simpa using (HNW.out _ _ rfl rfl _ rfl).2)
        case rest =>
          obtain ⟨gd, go, rfl, rfl, HD⟩ := hcut
          clear n0 nl HC
          clear wr
          obtain ⟨wd, hwd⟩ : ∃ wd, wc = wd := ⟨_, rfl⟩
          subst hwd
          go_wp2_with fail
          go_loopw [10, 11] (fun v10 v11 wr => ∃ (i : Nat) (z : Bool), i ≤ N.V ∧ v11 = .int .i64 i ∧ v10 = .bool z ∧ Hid (z = true ↔ ∃ v, v < i ∧ 0 < x v) ∧ Hid (CD N a ca gn gf ge gd go w f x (dk x i) (fun _ => 0) wr)) (fun _ v _ => N.V - (intOf v).toNat)
          case atStart => exact ⟨0, false, by omega, rfl, rfl, Lib.hid ⟨fun h => (by cases h), fun ⟨v, h, _⟩ => absurd h (by omega)⟩, Lib.hid (HD.out.congrd (fun v _ => dk_zero x v))⟩
          case round =>
            obtain ⟨i, z, hi, rfl, rfl, HZ, HD2⟩ := hrel
            have n0 := HD2.out.r.n0
            have nl := block_lt_of_cell n0
            by_cases hlt : i < N.V
            · have q1 := HD2.out.r.x.cell i hlt
              have q2 := HD2.out.r.lt.2.2
              by_cases hx : x i ≤ 0
              · have r1 := HD2.out.d.cell i hlt
                have r2 := HD2.out.d.frozen i
                have r3 := HD2.out.lt.1
                have r4 := HD2.out.ne.2.1.2.2
                have r5 := r4.symm
                have HN : Hid (CD N a ca gn gf ge gd go w f x (dk x (i + 1)) (fun _ => 0) (wr.setCell ⟨gd, i, none⟩ (.int .i64 1125899906842624))) := Lib.hid ((HD2.out.putd i 1125899906842624).congrd (fun v _ => dk_far hx v))
                have HZ2 : Hid (z = true ↔ ∃ v, v < i + 1 ∧ 0 < x v) := Lib.hid (HZ.out.trans ⟨fun ⟨v, h1, h2⟩ => ⟨v, by omega, h2⟩, fun ⟨v, h1, h2⟩ => ⟨v, by
                  by_cases e : v = i
                  · subst e; omega
                  · omega, h2⟩⟩)
                have d0 : decide (0 < x i) = false := by rw [decide_eq_false_iff_not]; omega
                generalize x i = xi at *
                clear HZ
                cases z
                all_goals
                  go_wp2_with fail
                  go_roundw
                  case rel => exact ⟨i + 1, _, by omega, by go_num, rfl, HZ2, HN⟩
                  case measure => simp [intOf]; omega
              · have d1 : decide (x i ≤ 0) = false := by rw [decide_eq_false_iff_not]; omega
                have d0 : decide (0 < x i) = true := by rw [decide_eq_true_iff]; omega
                have HN : Hid (CD N a ca gn gf ge gd go w f x (dk x (i + 1)) (fun _ => 0) wr) := Lib.hid (HD2.out.congrd (fun v _ => dk_zero' (by omega) v))
                have HZ2 : Hid (true = true ↔ ∃ v, v < i + 1 ∧ 0 < x v) := Lib.hid ⟨fun _ => ⟨i, by omega, by omega⟩, fun _ => rfl⟩
                generalize x i = xi at *
                clear HZ
                cases z
                all_goals
                  go_wp2_with fail
                  go_roundw
                  case rel => exact ⟨i + 1, _, by omega, by go_num, rfl, HZ2, HN⟩
                  case measure => simp [intOf]; omega
            · obtain rfl : i = N.V := by omega
              clear hi hlt HD
              cases z
              · have HX : Hid (∀ v, v < N.V → x v ≤ 0) := Lib.hid (fun v hv => by
                  apply Classical.byContradiction
                  intro e
                  have := HZ.out.2 ⟨v, hv, by omega⟩
                  cases this)
                go_wp2_with fail
                go_ret2
                exact ⟨HD2.out.r.below, .inr ⟨gf, f, rfl, HD2.out.r.f, HD2.out.r.lo.2.1, HR.out.done HV.out HX.out, HR.out.fit⟩⟩
              · have HX : Hid (∃ v, v < N.V ∧ 0 < x v) := Lib.hid (HZ.out.1 rfl)
                have HD3 : Hid (CD N a ca gn gf ge gd go w f x (fun v => if x v ≤ 0 then rfar else 0) (fun _ => 0) wr) := Lib.hid (HD2.out.congrd (fun v hv => dk_end hv))
                clear HZ HD2
                go_wp2_with fail
                clear n0 nl
                go_loopg [] (sm N.V (fun v => if x v ≤ 0 then rfar else 0) + (N.V : Int) * 520000).toNat (fun n wr => ∃ (D : Ds) (t : Nat) (T : Nat → Nat), n = (sm N.V D.d + (N.V : Int) * 520000).toNat ∧ Hid (Bm N f x D t T) ∧ Hid (CD N a ca gn gf ge gd go w f x D.d D.o wr))
                case atStart => exact ⟨⟨fun v => if x v ≤ 0 then rfar else 0, fun _ => 0, false⟩, 0, fun _ => 0, rfl, Lib.hid (Bm.start f x false), HD3⟩
                case round =>
                  obtain ⟨D, tm, T, hgk, HB, HE⟩ := hrel
                  have hgk2 := Lib.hid hgk
                  clear hgk HD3
                  have n0 := HE.out.r.n0
                  have n1 := HE.out.r.n1
                  have nl := block_lt_of_cell n1
                  obtain ⟨p, hp⟩ := HR.out.fit
                  have HP := Lib.hid hp
                  clear hp
                  go_wp2_with fail
                  refine (Rrelax_any N HV.out a ca (some ⟨gf, 0, none⟩) N.m f HR.out.bd gd go N.V N.V HE.out.ne.1 D.d D.o (fun v hv => by have := HB.out.lo HV.out HP.out hv; omega) _ (fun w' hk => HE.out.arcs HA.out hk) (fun w' hk => HE.out.flow hk) HE.out.d HE.out.o).mono ?_
                  rintro e w5 ⟨rfl, hd5, ho5, hk5⟩
                  have HE5 := Lib.hid (HE.out.kpd hk5 hd5 ho5)
                  obtain ⟨t', T', hB5⟩ := (bm_b HB.out false).round HV.out HP.out (Nat.le_refl N.m)
                  have HSUM := Lib.hid (rx_sum HV.out.ok (f := f) (D := ⟨D.d, D.o, false⟩) (Nat.le_refl N.m) rfl)
                  have HST := Lib.hid (rx_still (N := N) (f := f) (D := ⟨D.d, D.o, false⟩) N.m)
                  have HB5 := Lib.hid hB5
                  clear hd5 ho5 hk5 hB5 n0 n1 nl
                  obtain ⟨E, hE⟩ : ∃ E, rx N f ⟨D.d, D.o, false⟩ N.m = E := ⟨_, rfl⟩
                  rw [hE] at HE5 HSUM HST HB5 ⊢
                  clear hE
                  have n0 := HE5.out.r.n0
                  have nl := block_lt_of_cell n0
                  obtain ⟨z, hz⟩ : ∃ z, E.b = z := ⟨_, rfl⟩
                  rw [hz] at HSUM HST ⊢
                  clear hz
                  cases z
                  · have HSTL : Hid (∀ s : Sp, s.i < N.m → ¬ E.can N f s) := Lib.hid (fun s hs hc => (HST.out rfl).2 s hs (by rw [(HST.out rfl).1] at hc; exact hc))
                    have HE6 := HE5
                    clear HST HSUM HE HB hgk2
                    go_wp2_with fail
                    obtain ⟨d, hd⟩ : ∃ d, E.d = d := ⟨_, rfl⟩
                    obtain ⟨o, ho⟩ : ∃ o, E.o = o := ⟨_, rfl⟩
                    rw [hd, ho] at HE6
                    have HDE := Lib.hid hd
                    have HOE := Lib.hid ho
                    have HDB : Hid (∀ v, v < N.V → -520000 ≤ d v ∧ d v ≤ 1125899906842624) := Lib.hid (fun v hv => by rw [← HDE.out]; exact HB5.out.lo HV.out HP.out hv)
                    clear hd ho HE5 n0 nl
                    obtain ⟨w6, hw6⟩ : ∃ w6, w5 = w6 := ⟨_, rfl⟩
                    subst hw6
                    go_loopw [12, 13] (fun v12 v13 wr => ∃ (i : Nat) (c : Int), i ≤ N.V ∧ v13 = .int .i64 i ∧ v12 = .int .i64 c ∧ Hid (Mr d x i c) ∧ Hid (CD N a ca gn gf ge gd go w f x d o wr)) (fun _ v _ => N.V - (intOf v).toNat)
                    case atStart => exact ⟨0, -1, by omega, rfl, rfl, Lib.hid (Mr.zero d x), HE6⟩
                    case round =>
                      obtain ⟨i, c, hi, rfl, rfl, HM, HW⟩ := hrel
                      have n0 := HW.out.r.n0
                      have nl := block_lt_of_cell n0
                      have q3 := HW.out.lt.1
                      have q4 := HW.out.r.lt.2.2
                      have HN : Hid (∀ n, CD N a ca gn gf ge gd go w f x d o (wr.drewN n)) := Lib.hid (fun n => HW.out.more (below_drewN (Below.refl _ _) n))
                      by_cases hlt : i < N.V
                      · have q1 := HW.out.d.cell i hlt
                        have q2 := HW.out.r.x.cell i hlt
                        by_cases hx : x i < 0
                        · by_cases hfar : d i < 1125899906842624
                          · rcases HM.out with ⟨hc, _⟩ | ⟨u, hc, hui, _, _⟩
                            · have HMs := Lib.hid (Mr.take (i := i) hx (by unfold rfar; exact hfar))
                              subst hc
                              go_wp2_with fail
                              go_quiet (fail)
                              go_wp2_with fail
                              go_roundw
                              case rel => exact ⟨i + 1, i, by omega, by go_num, rfl, HMs, Lib.hid (HN.out _)⟩
                              case measure => simp [intOf]; omega
                            · have huV : u < N.V := by omega
                              have q5 := HW.out.d.cell u huV
                              have du0 : decide ((u : Int) < 0) = false := by simp
                              by_cases hlt2 : d i < d u
                              · have HMs := Lib.hid (Mr.take (i := i) hx (by unfold rfar; exact hfar))
                                subst hc
                                go_wp2_with fail
                                go_quiet (fail)
                                go_wp2_with fail
                                go_roundw
                                case rel => exact ⟨i + 1, i, by omega, by go_num, rfl, HMs, Lib.hid (HN.out _)⟩
                                case measure => simp [intOf]; omega
                              · have HMs := Lib.hid (HM.out.skip (.inr (.inr ⟨u, hc⟩)))
                                have d3 : decide (d i < d u) = false := by simpa using hlt2
                                subst hc
                                go_wp2_with fail
                                go_quiet (fail)
                                go_wp2_with fail
                                go_roundw
                                case rel => exact ⟨i + 1, u, by omega, by go_num, rfl, HMs, Lib.hid (HN.out _)⟩
                                case measure => simp [intOf]; omega
                          · have HMs := Lib.hid (HM.out.skip (.inr (.inl (by unfold rfar; omega))))
                            have d3 : decide (d i < 1125899906842624) = false := by simpa using hfar
                            go_wp2_with fail
                            go_quiet (fail)
                            go_wp2_with fail
                            go_roundw
                            case rel => exact ⟨i + 1, c, by omega, by go_num, rfl, HMs, Lib.hid (HN.out _)⟩
                            case measure => simp [intOf]; omega
                        · have HMs := Lib.hid (HM.out.skip (.inl (by omega)))
                          have d3 : decide (x i < 0) = false := by simpa using hx
                          go_wp2_with fail
                          go_quiet (fail)
                          go_wp2_with fail
                          go_roundw
                          case rel => exact ⟨i + 1, c, by omega, by go_num, rfl, HMs, Lib.hid (HN.out _)⟩
                          case measure => simp [intOf]; omega
                      · obtain rfl : i = N.V := by omega
                        clear HN HE6
                        rcases HM.out with ⟨hc, hall⟩ | ⟨to_, hc, htV, htx, htd⟩
                        · have HNO : Hid N.noc := Lib.hid (by
                            obtain ⟨u, hu, hxu⟩ := HX.out
                            exact HR.out.noc HV.out HB5.out HSTL.out hu hxu (fun v hv hxv => by rw [HDE.out]; exact hall v hv hxv))
                          subst hc
                          clear hall
                          go_wp2_with fail
                          go_ret2
                          exact ⟨HW.out.r.below, .inl ⟨rfl, HNO.out⟩⟩
                        · have hF := HB5.out.found HV.out HSTL.out _ to_ (Nat.le_refl _) htV (by rw [HDE.out]; exact htd)
                          have HTX := Lib.hid htx
                          obtain ⟨r0, l, hr0, hxr, _, hbp, hpw, hls⟩ := hF
                          rw [HOE.out] at hbp
                          have HPW := Lib.hid hpw
                          have HLS : Hid (∀ s ∈ l, s.i < N.m ∧ 0 < N.rm f s ∧ E.d (N.fin s) = E.d (N.beg s) + N.sc s ∧ E.d (N.beg s) < rfar) := Lib.hid (fun s hs => by have := hls s hs; exact ⟨this.1, this.2.1, this.2.2.1, this.2.2.2.1⟩)
                          have HBP := Lib.hid hbp
                          have HXR := Lib.hid hxr
                          obtain ⟨xb1, xb2⟩ := HR.out.xb HV.out htV
                          obtain ⟨xr1, xr2⟩ := HR.out.xb HV.out hr0
                          have e2 := HW.out.r.x.cell to_ htV
                          have dto : decide ((to_ : Int) < 0) = false := by simp
                          subst hc
                          clear hi HM hlt HX hls hpw hbp hxr
                          obtain ⟨xt, hxt⟩ : ∃ y, x to_ = y := ⟨_, rfl⟩
                          rw [hxt] at e2 xb1 xb2 htx
                          have HXT := Lib.hid hxt
                          clear hxt htd
                          go_wp2_with fail
                          clear e2 dto n0 nl
                          obtain ⟨w7, hw7⟩ : ∃ w7, wr = w7 := ⟨_, rfl⟩
                          subst hw7
                          go_loopg [14, 15] l.length (fun n v14 v15 wr => ∃ (v : Nat) (m : Int) (l2 : List Sp), n = l2.length ∧ v15 = .int .i64 v ∧ v14 = .int .i64 m ∧ Hid (v < N.V) ∧ Hid (Tk N f o r0 (-xt) l v m l2) ∧ Hid (CD N a ca gn gf ge gd go w f x d o wr))
                          case atStart => exact ⟨to_, -xt, l, rfl, rfl, rfl, Lib.hid htV, Lib.hid (Tk.start HBP.out (by omega)), HW⟩
                          case round =>
                            obtain ⟨v, m, l2, hgk, rfl, rfl, HVL, HT, HY⟩ := hrel
                            have hgk3 := Lib.hid hgk
                            clear hgk HW q3 q4
                            have q1 := HY.out.o.cell v HVL.out
                            have q3 := HY.out.lt.2
                            cases l2 with
                            | nil =>
                              obtain ⟨l1, hl1, hb1, hm1, hm2', hmr⟩ := HT.out
                              obtain ⟨hvr, hov⟩ := hb1.nil
                              rw [List.append_nil] at hl1
                              subst hl1
                              subst hvr
                              rw [hov] at q1
                              have e1 := HY.out.r.x.cell v hr0
                              have e2 := HY.out.r.x.cell to_ htV
                              have e3 := HY.out.r.x.frozen v
                              have e4 := HY.out.r.x.frozen to_
                              have e5 := HY.out.r.lt.2.2
                              obtain ⟨m2, hm2⟩ : ∃ m2 : Int, m2 = (if x v < m then x v else m) := ⟨_, rfl⟩
                              have hxr0 := HXR.out
                              have HM2 : Hid (0 < m2 ∧ m2 ≤ x v ∧ m2 ≤ -xt ∧ ∀ s ∈ l, m2 ≤ N.rm f s) := Lib.hid ⟨by rw [hm2]; split <;> omega, by rw [hm2]; split <;> omega, by rw [hm2]; split <;> omega, fun s hs => by have := hmr s hs; rw [hm2]; split <;> omega⟩
                              have HM2E := Lib.hid hm2
                              have hvt : v ≠ to_ := fun e => by have h1 := HXT.out; rw [← e] at h1; omega
                              have hvt2 := hvt.symm
                              have HST7 : Hid (Rc N (pushes f l m2) (upd (upd x v (x v - m2)) to_ (x to_ + m2)) ∧ tot N.V (upd (upd x v (x v - m2)) to_ (x to_ + m2)) < tot N.V x) := Lib.hid
                                (HR.out.step HV.out HB5.out HSTL.out htV HTX.out hr0 HXR.out (by rw [HOE.out]; exact HBP.out) HPW.out HLS.out HM2.out.1 HM2.out.2.1 (by rw [HXT.out]; exact HM2.out.2.2.1) HM2.out.2.2.2)
                              have HY8 : Hid (CD N a ca gn gf ge gd go w f (upd (upd x v (x v - m2)) to_ (x to_ + m2)) d o ((wr.setCell ⟨ge, v, none⟩ (.int .i64 (x v - m2))).setCell ⟨ge, to_, none⟩ (.int .i64 (x to_ + m2)))) := Lib.hid ((HY.out.putx v (x v - m2)).putx to_ (x to_ + m2))
                              have HMB : Hid (0 ≤ m2 ∧ m2 ≤ 2638827906662400) := Lib.hid (by have := HM2.out; omega)
                              rw [HXT.out] at e2 HST7 HY8
                              obtain ⟨xr, hxr⟩ : ∃ y, x v = y := ⟨_, rfl⟩
                              rw [hxr] at e1 xr1 xr2 hm2 HST7 HY8 hxr0
                              have hm2b : 0 ≤ m2 ∧ m2 ≤ 2638827906662400 := HMB.out
                              obtain ⟨mb1, mb2⟩ := hm2b
                              clear hm1 hm2' hmr hov hb1 HT hgk3 HM2E hxr
                              go_upto_region 36 with fail
                              rw [← hm2]
                              clear hm2
                              go_wp2_with fail
                              generalize ((wr.setCell ⟨ge, v, none⟩ (.int .i64 (xr - m2))).setCell ⟨ge, to_, none⟩ (.int .i64 (xt + m2))) = w8 at *
                              clear e1 e2 e3 e4 e5 q1 q3 HY
                              generalize (upd (upd x v (xr - m2)) to_ (xt + m2)) = x2 at *
                              go_loopg [15] l.length (fun n v15 wr => ∃ (u : Nat) (f1 : Nat → Int) (l2 : List Sp), n = l2.length ∧ v15 = .int .i64 u ∧ Hid (u < N.V) ∧ Hid (Pk N f o v m2 l u f1 l2) ∧ Hid (CD N a ca gn gf ge gd go w f1 x2 d o wr))
                              case atStart => exact ⟨to_, f, l, rfl, rfl, Lib.hid htV, Lib.hid (Pk.start HBP.out), HY8⟩
                              case round =>
                                obtain ⟨u, f1, l2, hgk, rfl, HUL, HT, HY⟩ := hrel
                                have hgk3 := Lib.hid hgk
                                clear hgk HY8
                                have q1 := HY.out.o.cell u HUL.out
                                have q3 := HY.out.lt.2
                                cases l2 with
                                | nil =>
                                  have hou : o u = 0 := by
                                    obtain ⟨l1, _, hb1, _⟩ := HT.out
                                    exact hb1.nil.2
                                  rw [hou] at q1
                                  have hf1 := HT.out.done
                                  have HY9 : Hid (CR N a ca gn gf ge w (pushes f l m2) x2 wr) := Lib.hid (by rw [← hf1]; exact HY.out.r)
                                  clear hou hf1 HT HY hgk3
                                  go_wp2_with fail
                                  go_roundg (tot N.V x2).toNat
                                  case rel => exact ⟨_, x2, rfl, Lib.hid HST7.out.1, HY9⟩
                                  case measure =>
                                    rw [hgk'.out]
                                    have h1 := HST7.out.2
                                    have h2 := tot_nonneg N.V x2
                                    omega
                                | cons s l2 =>
                                  have hs : o u = s.code ∧ s.i < N.m ∧ N.fin s = u := by
                                    obtain ⟨l1, _, hb1, _⟩ := HT.out
                                    exact ⟨hb1.cons.2.1, hb1.cons.2.2.1, hb1.cons.1⟩
                                  obtain ⟨hs1, hs2, hs3⟩ := hs
                                  rw [hs1] at q1
                                  have dc : (s.code != 0) = true := by simpa using code_ne s
                                  have HN := Lib.hid HT.out.step
                                  have HSM := Lib.hid (HT.out.same HPW.out)
                                  have hfb := flow_bd HV.out HR.out.bd hs2
                                  have HFB : Hid (0 ≤ f1 s.i ∧ f1 s.i ≤ 1099511627776) := Lib.hid (by rw [HSM.out]; exact hfb)
                                  have n0 := HY.out.r.n0
                                  have n1 := HY.out.r.n1
                                  have nl := block_lt_of_cell n0
                                  have HUB : Hid (N.beg s < N.V) := Lib.hid (beg_lt HV.out.ok hs2)
                                  clear hs1 hs3 hfb
                                  go_wp2_with fail
                                  refine (Rback_any s N hm2 a ca hs2 _ (HA.out.below HY.out.r.below)).mono ?_
                                  rintro e w9 ⟨rfl, hb9⟩
                                  have HY9 := Lib.hid (HY.out.more hb9)
                                  clear hb9 n0 n1 nl q1 q3 HY
                                  go_wp2_with fail
                                  refine (Rpush_any s N hm2 gf N.m f1 m2 HMB.out HFB.out hs2 _ HY9.out.r.f).mono ?_
                                  rintro e w10 ⟨rfl, hf10, hk10⟩
                                  have HY10 := Lib.hid (HY9.out.kpf hk10 hf10)
                                  clear hf10 hk10 HY9
                                  go_wp2_with fail
                                  go_roundg l2.length
                                  case rel => exact ⟨_, _, l2, rfl, rfl, HUB, HN, HY10⟩
                                  case measure => rw [hgk3.out]; simp
                            | cons s l2 =>
                              have hs : o v = s.code ∧ s.i < N.m := by
                                obtain ⟨l1, _, hb1, _⟩ := HT.out
                                exact ⟨hb1.cons.2.1, hb1.cons.2.2.1⟩
                              obtain ⟨hs1, hs2⟩ := hs
                              rw [hs1] at q1
                              have dc : (s.code != 0) = true := by simpa using code_ne s
                              have hrm : 0 < N.rm f s := (HLS.out s HT.out.mem).2.1
                              obtain ⟨rm, hrme⟩ : ∃ y, N.rm f s = y := ⟨_, rfl⟩
                              have HN : Hid (∀ m', m' = min m rm → Tk N f o r0 (-xt) l (N.beg s) m' l2) := Lib.hid (fun m' hm' => HT.out.step hrm _ (by rw [hrme]; exact hm'))
                              have HRM := Lib.hid hrme
                              have hrmb : 0 < rm := by rw [← hrme]; exact hrm
                              have HUB : Hid (N.beg s < N.V) := Lib.hid (beg_lt HV.out.ok hs2)
                              have n0 := HY.out.r.n0
                              have n1 := HY.out.r.n1
                              have nl := block_lt_of_cell n0
                              have HYB : Hid (∀ W, Below wr.heap.size wr W → Arcs W a N ∧ Rd W (some ⟨gf, 0, none⟩) N.m f ∧ CD N a ca gn gf ge gd go w f x d o W) := Lib.hid (fun W hW => ⟨HA.out.below (HY.out.more hW).r.below, Rd.of_row (HY.out.more hW).r.f, HY.out.more hW⟩)
                              clear hs1 hrm hrme HT
                              go_upto_region 33 with fail
                              refine wp_region_below (by kernel_rfl) (by kernel_rfl) ?_
                              have g1 := fun x : Since wr => x.cell n0
                              have g2 := fun x : Since wr => x.cell n1
                              have g3 := fun x : Since wr => x.cell q1
                              repeat (go_big_quiet_step ((go_at_call 57; exact calls_since _ (Rroom_any s N HV.out a ca (some ⟨gf, 0, none⟩) N.m f HR.out.bd hs2 _ (HYB.out _ (Since.property _)).1 (HYB.out _ (Since.property _)).2.1))))
                              all_goals
                                refine wpQuiet_nil ?_
                                intro W1 hb1
                                rw [HRM.out]
                                replace n0 := (hb1.cell (p := ⟨gn, 0, none⟩) nl).trans n0
                                replace n1 := (hb1.cell (p := ⟨gn, 1, none⟩) nl).trans n1
                                replace q1 := (hb1.cell (p := ⟨go, v, none⟩) (block_lt_of_cell q1)).trans q1
                                replace nl := block_lt_of_cell n0
                                replace q3 := block_lt_of_cell q1
                                have HB1 := Lib.hid hb1
                                clear g1 g2 g3 hb1
                                go_upto_region 34 with fail
                                refine wp_region_below (by kernel_rfl) (by kernel_rfl) ?_
                                have g1 := fun x : Since W1 => x.cell n0
                                have g2 := fun x : Since W1 => x.cell n1
                                have g3 := fun x : Since W1 => x.cell q1
                                repeat (go_big_quiet_step ((go_at_call 58; exact calls_since _ (Rback_any s N hm2 a ca hs2 _ (HYB.out _ (HB1.out.trans ((Since.property _).mono HB1.out.size))).1))))
                                refine wpQuiet_nil ?_
                                intro W2 hb2
                                have HY2 := Lib.hid (HYB.out _ (HB1.out.trans (hb2.mono HB1.out.size))).2.2
                                clear g1 g2 g3 hb2 n0 n1 nl q1 q3 HB1 HY HYB
                                go_wp2_with fail
                                all_goals
                                  go_roundg l2.length
                                  case rel => exact ⟨_, _, l2, rfl, rfl, rfl, HUB, Lib.hid (HN.out _ (by omega)), HY2⟩
                                  case measure => rw [hgk3.out]; simp
                  · have HMEAS : Hid ((sm N.V E.d + (N.V : Int) * 520000).toNat < (sm N.V D.d + (N.V : Int) * 520000).toNat) := Lib.hid (by
                      have h1 : sm N.V E.d + 1 ≤ sm N.V D.d := by
                        rcases HSUM.out with h | h
                        · cases h
                        · exact h
                      have h2 := sum_lo (N := N) (d := E.d) (fun v hv => (HB5.out.lo HV.out HP.out hv).1)
                      omega)
                    clear HST HSUM HE HB n0 nl
                    go_wp2_with fail
                    go_roundg (sm N.V E.d + (N.V : Int) * 520000).toNat
                    case rel => exact ⟨E, _, _, rfl, HB5, HE5⟩
                    case measure => rw [hgk2.out]; exact HMEAS.out
end Go.Proofs.Ythoehobofdeifaa
