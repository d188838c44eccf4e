/-
  WALK of the reference's lessen. (Filled in from a template of this repo.)
-/
import Derived.Test.YthoehobofdeifaaRLw
import Derived.Test.YthoehobofdeifaaRPoP
namespace Go.Proofs.Ythoehobofdeifaa
open Go.ChangeShapes Go.WideShapes Go.ChangeAt Go.RowKit
set_option linter.unusedVariables false
set_option linter.unusedSimpArgs false

set_option maxRecDepth 100000 in
set_option maxHeartbeats 8000000 in
theorem Rlessen_any (N : Nw) (hv : N.valid) (a : Option Addr) (ca gf cf gp cp : Nat) (f p : Nat → Int) (hc : N.circ f) (hp : ∀ v, v < N.V → -1000000000 ≤ p v ∧ p v ≤ 1000000000) (i : Nat) (hi : i < N.m) (w : World) (hA : Arcs w a N) (hf : IRow w gf N.m f) (hpr : IRow w gp N.V p) (hne : gp ≠ gf) (hfar : 0 < N.m → ∀ x, a = some x → x.block ∉ [gf]) :
    Calls Try.prog 41 #[N.val a ca, .slice (some ⟨gf, 0, none⟩) N.m cf, .slice (some ⟨gp, 0, none⟩) N.V cp, .int .i64 (i : Int)] w (RLePost N gf (zk (z0p N p) i) i f w) := by
  have hV2 := hv.V2
  have hm2 := hv.m2
  have mk1 := make_ints N.V (by omega)
  have mk2 := make_bools N.V (by omega)
  have HV := Lib.hid hv
  have HPB := Lib.hid hp
  have hb0 : Below w.heap.size w (w.alloc (.cells #[.int .i64 (N.V : Int), .slice a N.m ca] 25)) := (Below.refl _ _).alloc (Nat.le_refl _) _
  have hlf := hf.lt
  have HL0 : Hid (LO N a ca w.heap.size gf gp w f p (w.alloc (.cells #[.int .i64 (N.V : Int), .slice a N.m ca] 25))) := Lib.hid ⟨Kp.of_below hb0, VRow.below hf hb0 hf.lt, VRow.below hpr hb0 hpr.lt, hA.below hb0, cell_mk _ _ _ rfl rfl, cell_mk _ _ _ rfl rfl, hfar, hne, by omega⟩
  have HC0 : Hid (N.circ f ∧ ∀ j, j < N.m → j ≠ i → zk (z0p N p) i j = true → f j = f j) := Lib.hid ⟨hc, fun _ _ _ _ => rfl⟩
  obtain ⟨z, hz⟩ : ∃ z, z = zk (z0p N p) i := ⟨_, rfl⟩
  rw [← hz] at HC0 ⊢
  have HZ := Lib.hid hz
  clear hv hp hb0 hf hpr hA hne hfar hc hlf hz
  go_enter Try.func41, Try.ntmps41
  go_wp2_with fail
  obtain ⟨w0, hw0⟩ : ∃ w0, (w.alloc (.cells #[.int .i64 (N.V : Int), .slice a N.m ca] 25)) = w0 := ⟨_, rfl⟩
  rw [hw0] at HL0 ⊢
  obtain ⟨gn, hgn⟩ : ∃ gn, w.heap.size = gn := ⟨_, rfl⟩
  rw [hgn] at HL0 ⊢
  clear hw0 hgn
  go_loopg [] (f i - N.lo i).toNat (fun n wr => ∃ f1 : Nat → Int, n = (f1 i - N.lo i).toNat ∧ Hid (N.circ f1 ∧ ∀ j, j < N.m → j ≠ i → z j = true → f1 j = f j) ∧ Hid (LO N a ca gn gf gp w f1 p wr))
  case atStart => exact ⟨f, rfl, Lib.hid ⟨HC0.out.1, fun _ _ _ _ => rfl⟩, HL0⟩
  case round =>
    obtain ⟨f1, hgk, HF1, HL⟩ := hrel
    have hgk' := Lib.hid hgk
    clear hgk HL0 HC0
    obtain ⟨w1, hw1⟩ : ∃ w1, wr = w1 := ⟨_, rfl⟩
    subst hw1
    obtain ⟨b, off, rfl, hb, k0, k1, k2, k3, k4⟩ := HL.out.arcs i hi
    have n1 := HL.out.n1
    have n0 := HL.out.n0
    have nl := block_lt_of_cell n1
    have q1 := HL.out.f.cell i hi
    have q3 := HL.out.f.lt
    have hfb := HF1.out.1.1 i hi
    have hlo := HV.out.lo i hi
    have hok := HV.out.ok i hi
    obtain ⟨fi, hfi⟩ : ∃ y, f1 i = y := ⟨_, rfl⟩
    obtain ⟨lo, hlo2⟩ : ∃ y, N.lo i = y := ⟨_, rfl⟩
    rw [hfi] at q1 hfb
    rw [hlo2] at hfb hlo k2
    have HFI := Lib.hid hfi
    have HLO := Lib.hid hlo2
    clear hfi hlo2
    by_cases hgt : lo < fi
    · go_wp2_with fail
      go_quiet (fail)
      have HLA := Lib.hid (HL.out.more (below_drewN (Below.refl _ _) nq))
      obtain ⟨wa, hwa⟩ : ∃ wa, wr.drewN nq = wa := ⟨_, rfl⟩
      rw [hwa] at HLA ⊢
      clear hwa n0 n1 nl q1 q3 hb k0 k1 k2 k3 k4 HL
      have n0 := HLA.out.n0
      have n1 := HLA.out.n1
      have nl := block_lt_of_cell n1
      obtain ⟨b', off', e', hb, k0, k1, _, _, _⟩ := HLA.out.arcs i hi
      injection e' with e'
      injection e' with e1 e2
      subst e1 e2
      clear wr
      obtain ⟨hok1, hok2⟩ := hok
      go_upto_region 5 with fail
      have HQ0 : Hid (∀ W, W = ((wa.alloc (.cells (vrow N.V fun _ => .int .i64 0) 3)).alloc (.cells (vrow N.V fun _ => .bool false) 4)).alloc (.cells #[.int .i64 (N.fr i : Int)] 3) → LQ N wa wa.heap.size (wa.heap.size + 1) (wa.heap.size + 1 + 1) (fun _ => 0) (fun _ => false) (.slice (some ⟨wa.heap.size + 1 + 1, 0, none⟩) 1 1) [N.fr i] W) := Lib.hid (fun W hW => LQ.start N HV.out.V1 wa (N.fr i) hW)
      obtain ⟨wb, hwb⟩ : ∃ wb, ((wa.alloc (.cells (vrow N.V fun _ => .int .i64 0) 3)).alloc (.cells (vrow N.V fun _ => .bool false) 4)).alloc (.cells #[.int .i64 (N.fr i : Int)] 3) = wb := ⟨_, rfl⟩
      rw [hwb]
      have hq0 := HQ0.out _ hwb.symm
      obtain ⟨go, hgo⟩ : ∃ go, wa.heap.size = go := ⟨_, rfl⟩
      rw [hgo] at hq0 ⊢
      obtain ⟨gs, hgs⟩ : ∃ gs, go + 1 = gs := ⟨_, rfl⟩
      rw [hgs] at hq0 ⊢
      obtain ⟨gB, hgB⟩ : ∃ gB, gs + 1 = gB := ⟨_, rfl⟩
      rw [hgB] at hq0 ⊢
      have HQ1 := Lib.hid hq0
      clear hwb hgo hgs hgB hq0 HQ0 n0 n1 nl k0 k1 hb
      have HLB : Hid (∀ W, Below wa.heap.size wa W → LO N (some ⟨b, off, none⟩) ca gn gf gp w f1 p W) := Lib.hid (fun W hW => HLA.out.more hW)
      have n1 := (HLB.out _ HQ1.out.below).n1
      have nl := block_lt_of_cell n1
      obtain ⟨b', off', e', hb, k0, k1, k2, k3, k4⟩ := (HLB.out _ HQ1.out.below).arcs i hi
      injection e' with e'
      injection e' with e1 e2
      subst e1 e2
      have s1 := HQ1.out.s.cell (N.fr i) hok1
      have s2 := HQ1.out.s.frozen (N.fr i)
      have s3 := HQ1.out.lt.2
      go_wp2_with fail
      have HQ2 := Lib.hid (HQ1.out.mark (N.fr i))
      obtain ⟨wc, hwc⟩ : ∃ wc, (wb.setCell ⟨gs, N.fr i, none⟩ (.bool true)) = wc := ⟨_, rfl⟩
      rw [hwc] at HQ2 ⊢
      clear hwc n1 nl k0 k1 k2 k3 k4 s1 s2 s3 hb HQ1
      clear wb
      obtain ⟨z1, hz1⟩ : ∃ z1, z1 = zk (z0p N p) (i + 1) := ⟨_, rfl⟩
      have HZ1 := Lib.hid hz1
      clear hz1
      go_loopw [10, 11] (fun v10 v11 wr => ∃ (q : Nat) (Q : List Nat) (S : Nat → Bool) (o : Nat → Int) (gq cq : Nat), v11 = .int .i64 q ∧ v10 = .slice (some ⟨gq, 0, none⟩) Q.length cq ∧ Hid (Sc N f1 z1 (N.fr i) q Q S o) ∧ Hid (LQ N wa go gs gB o S (.slice (some ⟨gq, 0, none⟩) Q.length cq) Q wr)) (fun _ v _ => N.V - (intOf v).toNat)
      case atStart => exact ⟨0, [N.fr i], _, _, _, _, rfl, rfl, Lib.hid (Sc.start f1 z1 hok1), HQ2⟩
      case round =>
        obtain ⟨q, Q, S, o, gq, cq, rfl, rfl, HS, HQ⟩ := hrel
        clear HQ2
        have HLW := Lib.hid (HLB.out _ HQ.out.below)
        have hQV := HS.out.len
        have hq0 : 0 < Q.length := by
          rcases Nat.eq_zero_or_pos Q.length with e | e
          · obtain ⟨bk, rk, h1, h2, h3, h4⟩ := HS.out
            have := h1.rank _ h1.root
            omega
          · exact e
        obtain ⟨hgq, hgql, hcq, hcm, hqc⟩ := HQ.out.at hq0
        by_cases hlt : q < Q.length
        · obtain ⟨u, hu⟩ : ∃ u, Q.getD q 0 = u := ⟨_, rfl⟩
          have hhead := HS.out.head hlt
          rw [hu] at hhead
          obtain ⟨huS, huV⟩ := hhead
          have HU := Lib.hid hu
          have hq520 : q < 520 := by omega
          clear hu hgq hgql hqc
          go_wp2_with fail
          go_loopg [10, 12] (N.m - (i + 1)) (fun n v10 v12 wr => ∃ (j : Nat) (Q2 : List Nat) (S2 : Nat → Bool) (o2 : Nat → Int) (gq cq : Nat), n = N.m - j ∧ i < j ∧ j ≤ N.m ∧ v12 = .int .i64 j ∧ v10 = .slice (some ⟨gq, 0, none⟩) Q2.length cq ∧ Hid (q < Q2.length ∧ Q2.getD q 0 = u ∧ S2 u = true) ∧ Hid (Sc N f1 z1 (N.fr i) q Q2 S2 o2) ∧ Hid (Sd N f1 z1 u j S2) ∧ Hid (LQ N wa go gs gB o2 S2 (.slice (some ⟨gq, 0, none⟩) Q2.length cq) Q2 wr))
          case atStart => exact ⟨i + 1, Q, S, o, gq, cq, rfl, by omega, by omega, by go_num, rfl, Lib.hid ⟨hlt, HU.out, huS⟩, HS, Lib.hid (fun s h1 h2 h3 h4 => by
            have h5 := (rz_rm h4).1
            rw [HZ1.out] at h5
            have := ((zk_false _ _ _).1 h5).2
            omega), HQ⟩
          case round =>
            obtain ⟨j, Q2, S2, o2, gq2, cq2, hgk, hij, hj, rfl, rfl, HU2, HS2, HD2, HQ2⟩ := hrel
            have hgk2 := Lib.hid hgk
            clear hgk HQ HS HU HLW hQV hlt hq0 huS hcm hcq
            have HLW := Lib.hid (HLB.out _ HQ2.out.below)
            have f3 := HLW.out.f.lt
            by_cases hlt : j < N.m
            · have n1 := HLW.out.n1
              have nl := block_lt_of_cell n1
              obtain ⟨b', off', e', hb, k0, k1, k2, k3, k4⟩ := HLW.out.arcs j hlt
              injection e' with e'
              injection e' with e1 e2
              subst e1 e2
              obtain ⟨hfV, htV⟩ := HV.out.ok j hlt
              have hS1 : Hid (LQ N wa go gs gB o2 S2 (.slice (some ⟨gq2, 0, none⟩) Q2.length cq2) Q2 (wr.alloc (.cells #[.int .i64 (N.fr j : Int), .int .i64 (N.to j : Int), .int .i64 (N.lo j), .int .i64 (N.up j), .int .i64 (N.c j)] 46)) ∧ ArcAt (wr.alloc (.cells #[.int .i64 (N.fr j : Int), .int .i64 (N.to j : Int), .int .i64 (N.lo j), .int .i64 (N.up j), .int .i64 (N.c j)] 46)) wr.heap.size N j ∧ gB ≤ wr.heap.size ∧ gq2 < wr.heap.size) := Lib.hid ⟨HQ2.out.more ((Below.refl _ _).alloc (Nat.le_refl _) _), ⟨cell_mk _ _ _ rfl rfl, cell_mk _ _ _ rfl rfl, cell_mk _ _ _ rfl rfl, cell_mk _ _ _ rfl rfl, cell_mk _ _ _ rfl rfl⟩, by
                have h1 := HQ2.out.at (by have := HU2.out.1; omega)
                omega⟩
              go_upto_region 13 with fail
              obtain ⟨wB, hwB⟩ : ∃ wB, (wr.alloc (.cells #[.int .i64 (N.fr j : Int), .int .i64 (N.to j : Int), .int .i64 (N.lo j), .int .i64 (N.up j), .int .i64 (N.c j)] 46)) = wB := ⟨_, rfl⟩
              rw [hwB] at hS1 ⊢
              obtain ⟨ga, hga⟩ : ∃ ga, wr.heap.size = ga := ⟨_, rfl⟩
              rw [hga] at hS1 ⊢
              have HQ3 : Hid (LQ N wa go gs gB o2 S2 (.slice (some ⟨gq2, 0, none⟩) Q2.length cq2) Q2 wB) := Lib.hid hS1.out.1
              have HAT : Hid (ArcAt wB ga N j ∧ gB ≤ ga ∧ gq2 < ga) := Lib.hid hS1.out.2
              clear hwB hga hS1 k0 k1 k2 k3 k4 n1 nl hb f3 HLW HQ2
              have HLW := Lib.hid (HLB.out _ HQ3.out.below)
              obtain ⟨a0, a1, a2, a3, a4⟩ := HAT.out.1
              have hal := block_lt_of_cell a0
              have p0 := HLW.out.p.cell (N.fr j) hfV
              have p1 := HLW.out.p.cell (N.to j) htV
              have p2 := HLW.out.p.lt
              obtain ⟨pb1, pb2⟩ := HPB.out (N.fr j) hfV
              obtain ⟨pb3, pb4⟩ := HPB.out (N.to j) htV
              obtain ⟨cb1, cb2⟩ := HV.out.c j hlt
              have HPR : Hid (N.price p j = N.c j + p (N.fr j) - p (N.to j)) := Lib.hid rfl
              by_cases hpz : N.c j + p (N.fr j) - p (N.to j) = 0
              · have dpz : (N.c j + p (N.fr j) - p (N.to j) != 0) = false := by simp; omega
                have HPZ : Hid (∀ b : Bool, N.rz f1 z1 ⟨j, b⟩ = N.rm f1 ⟨j, b⟩) := Lib.hid (fun b => by
                  unfold Nw.rz
                  rw [if_neg]
                  rw [HZ1.out, Bool.not_eq_true, zk_false]
                  refine ⟨?_, hij⟩
                  cases hq : z0p N p j
                  · rfl
                  · have := (z0p_iff N p j).1 hq; rw [HPR.out] at this; exact absurd hpz this)
                have HRZ := HPZ
                have HGQ : Hid (ga ≠ gq2) := Lib.hid (fun e => by
                  have := HAT.out.2.2; omega)
                have HQN : Hid (∀ n, LQ N wa go gs gB o2 S2 (.slice (some ⟨gq2, 0, none⟩) Q2.length cq2) Q2 (wB.drewN n) ∧ ArcAt (wB.drewN n) ga N j) := Lib.hid (fun n => ⟨HQ3.out.more (below_drewN (Below.refl _ _) n), HAT.out.1.kp (X := []) ((Kp.refl _ _).drewN n) (by simp)⟩)
                generalize N.c j = cj at *
                generalize p (N.fr j) = pf at *
                generalize p (N.to j) = pt at *
                clear hpz
                go_quiet (fail)
                clear dpz
                have HQ4 := Lib.hid (HQN.out nq)
                obtain ⟨wC, hwC⟩ : ∃ wC, wB.drewN nq = wC := ⟨_, rfl⟩
                rw [hwC] at HQ4 ⊢
                clear hwC a0 a1 a2 a3 a4 hal p0 p1 p2 HQN HQ3 HLW
                go_upto_region 14 with fail
                go_cut [108] from 85 to 108 (fun c wx => ∃ y : Bool, c = .bool y ∧ Hid ((y = true ↔ N.fr j = u ∧ f1 j < N.up j ∧ S2 (N.to j) = false) ∧ LQ N wa go gs gB o2 S2 (.slice (some ⟨gq2, 0, none⟩) Q2.length cq2) Q2 wx ∧ ArcAt wx ga N j))
                case first =>
                  have HLW := Lib.hid (HLB.out _ HQ4.out.1.below)
                  obtain ⟨a0, a1, a2, a3, a4⟩ := HQ4.out.2
                  have hal := block_lt_of_cell a0
                  have r1 := HLW.out.f.cell j hlt
                  have r2 := HLW.out.f.lt
                  have r3 := HQ4.out.1.s.cell (N.to j) htV
                  have r4 := HQ4.out.1.lt.2
                  obtain ⟨_, hgql, hcq, hcm, hqc⟩ := HQ4.out.1.at (by have := HU2.out.1; omega)
                  have r5 := hqc q HU2.out.1
                  have hql := HU2.out.1
                  rw [HU2.out.2.1] at r5
                  have HNEW : Hid (∀ W, Below wC.heap.size wC W → LQ N wa go gs gB o2 S2 (.slice (some ⟨gq2, 0, none⟩) Q2.length cq2) Q2 W ∧ ArcAt W ga N j) := Lib.hid (fun W hW => ⟨HQ4.out.1.more hW, HQ4.out.2.kp (X := []) (Kp.of_below hW) (by simp)⟩)
                  obtain ⟨fb1, fb2⟩ := HF1.out.1.1 j hlt
                  obtain ⟨lb1, lb2, lb3⟩ := HV.out.lo j hlt
                  obtain ⟨sb, hsb⟩ : ∃ y, S2 (N.to j) = y := ⟨_, rfl⟩
                  rw [hsb] at r3
                  have HSB := Lib.hid hsb
                  clear hsb hqc HLW HQ4
                  obtain ⟨fi1, hfi1⟩ : ∃ y, f1 j = y := ⟨_, rfl⟩
                  obtain ⟨up, hup⟩ : ∃ y, N.up j = y := ⟨_, rfl⟩
                  obtain ⟨lo1, hlo1⟩ : ∃ y, N.lo j = y := ⟨_, rfl⟩
                  obtain ⟨frj, hfrj⟩ : ∃ y, N.fr j = y := ⟨_, rfl⟩
                  obtain ⟨toj, htoj⟩ : ∃ y, N.to j = y := ⟨_, rfl⟩
                  have HE := Lib.hid (show f1 j = fi1 ∧ N.up j = up ∧ N.lo j = lo1 ∧ N.fr j = frj ∧ N.to j = toj from ⟨hfi1, hup, hlo1, hfrj, htoj⟩)
                  have hfV2 := hfV
                  have htV2 := htV
                  rw [hfi1] at r1 fb1 fb2
                  rw [hup] at a3 fb2 lb2 lb3
                  rw [hlo1] at a2 fb1 lb1 lb2
                  rw [hfrj] at a0 hfV2
                  rw [htoj] at a1 htV2 r3
                  clear hfi1 hup hlo1 hfrj htoj
                  have HY : Hid (∀ y : Bool, (y = true ↔ frj = u ∧ fi1 < up ∧ sb = false) → (y = true ↔ N.fr j = u ∧ f1 j < N.up j ∧ S2 (N.to j) = false)) := Lib.hid (fun y hy => by
                    obtain ⟨h1, h2, h3, h4, h5⟩ := HE.out
                    rw [HSB.out, h1, h2, h4]; exact hy)
                  clear HE HSB
                  by_cases c1 : frj = u
                  · subst c1
                    by_cases c2 : fi1 < up
                    · cases sb
                      all_goals
                        go_quiet (fail)
                        go_wp2_with fail
                        go_meet
                        exact ⟨_, rfl, Lib.hid ⟨HY.out _ (by simp [c2]), HNEW.out _ (below_drewN (Below.refl _ _) _)⟩⟩
                    · have d2 : decide (fi1 < up) = false := by simpa using c2
                      go_quiet (fail)
                      go_wp2_with fail
                      go_meet
                      exact ⟨_, rfl, Lib.hid ⟨HY.out _ ⟨fun h => (by cases h), fun h => absurd h.2.1 (by omega)⟩, HNEW.out _ (below_drewN (Below.refl _ _) _)⟩⟩
                  · have d1 : decide (frj = u) = false := by simpa using c1
                    have d1b : ((frj : Int) == (u : Int)) = false := by simp; omega
                    go_quiet (fail)
                    go_wp2_with fail
                    go_meet
                    exact ⟨_, rfl, Lib.hid ⟨HY.out _ ⟨fun h => (by cases h), fun h => absurd h.1 c1⟩, HNEW.out _ (below_drewN (Below.refl _ _) _)⟩⟩
                case rest =>
                  obtain ⟨y, rfl, HC⟩ := hcut
                  clear HQ4
                  go_upto_if 108 with fail
                  go_cut [10] from 109 to 123 (fun v10 wx => ∃ (Q3 : List Nat) (S3 : Nat → Bool) (o3 : Nat → Int) (gq3 cq3 : Nat), v10 = .slice (some ⟨gq3, 0, none⟩) Q3.length cq3 ∧ Hid (q < Q3.length ∧ Q3.getD q 0 = u ∧ S3 u = true) ∧ Hid (Sc N f1 z1 (N.fr i) q Q3 S3 o3) ∧ Hid (Sd N f1 z1 u j S3 ∧ (N.fr j = u → 0 < N.rz f1 z1 ⟨j, true⟩ → S3 (N.to j) = true)) ∧ Hid (LQ N wa go gs gB o3 S3 (.slice (some ⟨gq3, 0, none⟩) Q3.length cq3) Q3 wx ∧ ArcAt wx ga N j ∧ ga ≠ gq3))
                  case first =>
                    cases y
                    · have HFD : Hid (N.fr j = u → 0 < N.rz f1 z1 ⟨j, true⟩ → S2 (N.to j) = true) := Lib.hid (fun h1 h2 => by
                        cases hq : S2 (N.to j)
                        · have := HC.out.1.2 ⟨h1, by rw [HRZ.out true] at h2; have h3 : 0 < N.up j - f1 j := h2; omega, hq⟩
                          cases this
                        · rfl)
                      go_wp2_with fail
                      go_meet
                      exact ⟨Q2, S2, o2, gq2, cq2, rfl, HU2, HS2, Lib.hid ⟨HD2.out, HFD.out⟩, Lib.hid ⟨HC.out.2.1, HC.out.2.2, HGQ.out⟩⟩
                    · obtain ⟨y1, y2, y3⟩ := HC.out.1.1 rfl
                      have HTK : Hid (Sc N f1 z1 (N.fr i) q (Q2 ++ [N.to j]) (mark S2 (N.to j)) (upd o2 (N.to j) ((j : Int) + 1))) := Lib.hid (HS2.out.take HV.out.ok (s := ⟨j, true⟩) hlt (by show S2 (N.fr j) = true; rw [y1]; exact HU2.out.2.2) y3 (by rw [HRZ.out true]; show 0 < N.up j - f1 j; omega) rfl rfl)
                      have HQ5 := Lib.hid HC.out.2.1
                      have HAT5 := Lib.hid HC.out.2.2
                      obtain ⟨a0, a1, a2, a3, a4⟩ := HAT5.out
                      have hal := block_lt_of_cell a0
                      have hqb := HS2.out.len
                      obtain ⟨l1, l2, l3, l4, l5⟩ := HQ5.out.lo
                      have l6 := HQ5.out.lt.1
                      have l7 := HQ5.out.lt.2
                      obtain ⟨hgq, hgql, hcq, hcm, _⟩ := HQ5.out.at (by have := HU2.out.1; omega)
                      obtain ⟨i0, hi0, hz0, hz1, hz2⟩ := info_parts Try.infoInt
                      have HI0 := Lib.hid hi0
                      have HZ0 := Lib.hid hz0
                      have HZ1i := Lib.hid hz1
                      have HZ2 := Lib.hid hz2
                      have hgaB := HAT.out.2.1
                      have m1 : ga ≠ gq2 := HGQ.out
                      have HOWN := Lib.hid HQ5.out.q
                      have hw1 : IntKind.i64.wrap ((j : Int) + 1) = (j : Int) + 1 := by rw [IntKind.wrap_i64]; omega
                      clear y1 y2 y3 hi0 hz0 hz1 hz2 HC
                      go_wp2_with fail
                      refine wp_region_held_drew (S := (fun w' => w'.cell? ⟨ga, 1, none⟩ = some (.int .i64 (N.to j : Int)))) (by kernel_rfl) (by go_keep) (fun hHeld => ?_)
                      refine wpAnyH_take (i := 0) (v := ?_) rfl (by kernel_rfl) (by kernel_rfl) (by kernel_rfl) (fun _ _ _ h => h) (Or.inl ⟨by rfl, ?_⟩) (by assumption) ?_
                      rotate_left
                      · (intro w hSw; (try dsimp only at hSw); go_simp; try with_reducible rfl)
                      (try simp only [Act.put, List.setIfInBounds_toArray, List.set_cons_zero, List.set_cons_succ])
                      refine wpAnyH_take (i := 1) (v := ?_) rfl (by kernel_rfl) (by kernel_rfl) (by kernel_rfl) (fun _ _ _ h => h) (Or.inl ⟨by rfl, ?_⟩) (by assumption) ?_
                      rotate_left
                      · (intro w hSw; (try dsimp only at hSw); go_simp; try with_reducible rfl)
                      (try simp only [Act.put, List.setIfInBounds_toArray, List.set_cons_zero, List.set_cons_succ])
                      refine wpAnyH_take (i := 2) (v := ?_) rfl (by kernel_rfl) (by kernel_rfl) (by kernel_rfl) (fun _ _ _ h => h) (Or.inl ⟨by rfl, ?_⟩) (by assumption) ?_
                      rotate_left
                      · (intro w hSw; (try dsimp only at hSw); go_simp; try with_reducible rfl)
                      (try simp only [Act.put, List.setIfInBounds_toArray, List.set_cons_zero, List.set_cons_succ])
                      refine wpAnyH_take (i := 3) (v := ?_) rfl (by kernel_rfl) (by kernel_rfl) (by kernel_rfl) (fun _ _ _ h => h) (Or.inl ⟨by rfl, ?_⟩) (by assumption) ?_
                      rotate_left
                      · (intro w hSw; (try dsimp only at hSw); go_simp; try with_reducible rfl)
                      (try simp only [Act.put, List.setIfInBounds_toArray, List.set_cons_zero, List.set_cons_succ])
                      refine wpAnyH_take (i := 4) (v := ?_) rfl (by kernel_rfl) (by kernel_rfl) (by kernel_rfl) (fun _ _ _ h => h) (Or.inl ⟨by rfl, ?_⟩) (by assumption) ?_
                      rotate_left
                      · (intro w hSw; (try dsimp only at hSw); go_simp; try with_reducible rfl)
                      (try simp only [Act.put, List.setIfInBounds_toArray, List.set_cons_zero, List.set_cons_succ])
                      refine wpAnyH_take (i := 5) (v := ?_) rfl (by kernel_rfl) (by kernel_rfl) (by kernel_rfl) (fun _ _ _ h => h) (Or.inl ⟨by rfl, ?_⟩) (by assumption) ?_
                      rotate_left
                      · (intro w hSw; (try dsimp only at hSw); go_simp; try with_reducible rfl)
                      (try simp only [Act.put, List.setIfInBounds_toArray, List.set_cons_zero, List.set_cons_succ])
                      refine wpAnyH_take (i := 6) (v := ?_) rfl (by kernel_rfl) (by kernel_rfl) (by kernel_rfl) (fun _ _ _ h => h) (Or.inl ⟨by rfl, ?_⟩) (by assumption) ?_
                      rotate_left
                      · (intro w hSw; (try dsimp only at hSw); go_simp; try with_reducible rfl)
                      (try simp only [Act.put, List.setIfInBounds_toArray, List.set_cons_zero, List.set_cons_succ])
                      refine wpAnyH_take (i := 7) (v := ?_) rfl (by kernel_rfl) (by kernel_rfl) (by kernel_rfl) (fun _ _ _ h => h) (Or.inl ⟨by rfl, ?_⟩) (by assumption) ?_
                      rotate_left
                      · (intro w hSw; (try dsimp only at hSw); go_simp; try with_reducible rfl)
                      (try simp only [Act.put, List.setIfInBounds_toArray, List.set_cons_zero, List.set_cons_succ])
                      refine wpAnyH_take (i := 8) (v := ?_) rfl (by kernel_rfl) (by kernel_rfl) (by kernel_rfl) (fun _ _ _ h => h) (Or.inl ⟨by rfl, ?_⟩) (by assumption) ?_
                      rotate_left
                      · (intro w hSw; (try dsimp only at hSw); go_simp; try with_reducible rfl)
                      (try simp only [Act.put, List.setIfInBounds_toArray, List.set_cons_zero, List.set_cons_succ])
                      refine wpAnyH_take (i := 9) (v := ?_) rfl (by kernel_rfl) (by kernel_rfl) (by kernel_rfl) (fun _ _ _ h => h) (Or.inl ⟨by rfl, ?_⟩) (by assumption) ?_
                      rotate_left
                      · (intro w hSw; (try dsimp only at hSw); go_simp; try with_reducible rfl)
                      (try simp only [Act.put, List.setIfInBounds_toArray, List.set_cons_zero, List.set_cons_succ])
                      refine wpAnyH_take (i := 10) (v := ?_) rfl (by kernel_rfl) (by kernel_rfl) (by kernel_rfl) (fun _ _ _ h => h) (Or.inl ⟨by rfl, ?_⟩) (by assumption) ?_
                      rotate_left
                      · (intro w hSw; (try dsimp only at hSw); go_simp; try with_reducible rfl)
                      (try simp only [Act.put, List.setIfInBounds_toArray, List.set_cons_zero, List.set_cons_succ])
                      refine wpAnyH_ready (rs := [11]) (by kernel_rfl) (by simp) ?_
                      refine AllReadyH.cons rfl (fun K hK => ?_) AllReadyH.nil
                      go_simp
                      refine hK.out _ _ ?_ (fun hHeld => ?_)
                      · (try dsimp only); first | assumption | go_keep
                      clear hK K
                      (try simp only [Act.put, List.setIfInBounds_toArray, List.set_cons_zero, List.set_cons_succ])
                      refine wpAnyH_ready (rs := [12]) (by kernel_rfl) (by simp) ?_
                      refine AllReadyH.cons rfl (fun K hK => ?_) AllReadyH.nil
                      (refine step_append_lies _ (by rfl) _ _ _ (by rfl) gB 3 i0 _ 1 8 Try.underlying26 HI0.out HZ0.out HZ1i.out HZ2.out rfl (by omega) _ _ _ (by rfl) ((HOWN.out.alloc _).drew) ⟨wc.heap.size, 0, none⟩ 1 1 [.int .i64 (N.to j : Int)] (by rfl) (by rfl) (World.news_of_block (cs := #[.int .i64 (N.to j : Int)]) (t := 3) (fr := (0, 0)) (heap_alloc_new wc _)) (by simp [Value.oneCell']) (by omega) (by unfold maxLen; omega) (by omega) (by simp; omega) (wc.heap.size + 1) (by simp) ?_; intro g2 cg2 w3 hown2 hgrow hat2 hlt2; obtain ⟨hg2, row1, row2, hcl⟩ := HQ5.out.grown hgrow)
                      refine hK.out _ _ ?_ (fun hHeld => ?_)
                      · (try dsimp only); exact hcl ga 1 _ (fun e => by injection e with e; exact m1 e.symm) a1
                      clear hK K
                      (try simp only [Act.put, List.setIfInBounds_toArray, List.set_cons_zero, List.set_cons_succ])
                      have s1 := row2.cell (N.to j) htV
                      have s2 := row2.frozen (N.to j)
                      have s3 := row2.lt
                      have r1 := row1.cell (N.to j) htV
                      have r2 := row1.frozen (N.to j)
                      have r3 := row1.lt
                      have l8 := l5.symm
                      have m2 : ga ≠ gs := by omega
                      have m3 : ga ≠ go := by omega
                      have m4 := m2.symm
                      have m5 := m3.symm
                      have HNW := Lib.hid (HQ5.out.take hg2 hown2 ((j : Int) + 1))
                      refine wpAnyH_take (i := 13) (v := ?_) rfl (by kernel_rfl) (by kernel_rfl) (by kernel_rfl) (fun _ _ _ h => h) (Or.inl ⟨by rfl, ?_⟩) (by assumption) ?_
                      rotate_left
                      · (intro w hSw; (try dsimp only at hSw); go_simp; try with_reducible rfl)
                      (try simp only [Act.put, List.setIfInBounds_toArray, List.set_cons_zero, List.set_cons_succ])
                      refine wpAnyH_ready (rs := [14]) (by kernel_rfl) (by simp) ?_
                      refine AllReadyH.cons rfl (fun K hK => ?_) AllReadyH.nil
                      go_simp
                      refine hK.out _ _ ?_ (fun hHeld => ?_)
                      · (try dsimp only); go_keep
                      clear hK K
                      (try simp only [Act.put, List.setIfInBounds_toArray, List.set_cons_zero, List.set_cons_succ])
                      refine wpAnyH_take (i := 15) (v := ?_) rfl (by kernel_rfl) (by kernel_rfl) (by kernel_rfl) (fun _ _ _ h => h) (Or.inl ⟨by rfl, ?_⟩) (by assumption) ?_
                      rotate_left
                      · (intro w hSw; (try dsimp only at hSw); go_simp; try with_reducible rfl)
                      (try simp only [Act.put, List.setIfInBounds_toArray, List.set_cons_zero, List.set_cons_succ])
                      refine wpAnyH_ready (rs := [16]) (by kernel_rfl) (by simp) ?_
                      refine AllReadyH.cons rfl (fun K hK => ?_) AllReadyH.nil
                      go_simp
                      refine hK.out _ _ ?_ (fun hHeld => ?_)
                      · (try dsimp only); go_keep
                      clear hK K
                      (try simp only [Act.put, List.setIfInBounds_toArray, List.set_cons_zero, List.set_cons_succ])
                      refine wpAnyH_ready (rs := [17]) (by kernel_rfl) (by simp) ?_
                      refine AllReadyH.cons rfl (fun K hK => ?_) AllReadyH.nil
                      go_simp
                      refine hK.out _ _ ?_ (fun hHeld => ?_)
                      · (try dsimp only); first | assumption | go_keep
                      clear hK K
                      (try simp only [Act.put, List.setIfInBounds_toArray, List.set_cons_zero, List.set_cons_succ])
                      refine wpAnyH_done (by kernel_rfl) ?_ _
                      try simp only [Act.put, List.setIfInBounds_toArray, List.set_cons_zero, List.set_cons_succ]
                      go_wp2_with fail
                      try simp only [Act.put, List.setIfInBounds_toArray, List.set_cons_zero, List.set_cons_succ]
                      have HAR : Hid (ArcAt w3 ga N j) := Lib.hid ⟨hcl ga 0 _ (fun e => by injection e with e; exact m1 e.symm) HAT5.out.1, hcl ga 1 _ (fun e => by injection e with e; exact m1 e.symm) HAT5.out.2.1, hcl ga 2 _ (fun e => by injection e with e; exact m1 e.symm) HAT5.out.2.2.1, hcl ga 3 _ (fun e => by injection e with e; exact m1 e.symm) HAT5.out.2.2.2.1, hcl ga 4 _ (fun e => by injection e with e; exact m1 e.symm) HAT5.out.2.2.2.2⟩
                      have hl2 : ga ≠ g2 := fun e => by
                        rcases hat2 with h | h
                        · injection h with h; exact m1 (e.trans h.symm)
                        · have : ga < wc.heap.size := hal
                          omega
                      have hlen : (Q2 ++ [N.to j]).length = Q2.length + 1 := by simp
                      have HUN : Hid (q < (Q2 ++ [N.to j]).length ∧ (Q2 ++ [N.to j]).getD q 0 = u ∧ mark S2 (N.to j) u = true) := Lib.hid ⟨by have := HU2.out.1; omega, by rw [List.getD, List.getElem?_append_left HU2.out.1]; exact HU2.out.2.1, mark_up _ _ HU2.out.2.2⟩
                      go_meet
                      exact ⟨Q2 ++ [N.to j], _, _, g2, cg2, by rw [hlen], HUN, HTK, Lib.hid ⟨HD2.out.up _, fun _ _ => by unfold mark; rw [if_pos rfl]⟩, Lib.hid ⟨by rw [hlen]; exact HNW.out, HAR.out.kp (X := [gs, go]) (((Kp.refl _ _).setCell _ _ (.inl (by simp))).setCell _ _ (.inl (by simp))) (by simp; omega), hl2⟩⟩
                  case rest =>
                    obtain ⟨Q6, S6, o6, gq6, cq6, rfl, HU6, HS6, HD6, HX6⟩ := hcut
                    have HQ6 : Hid (LQ N wa go gs gB o6 S6 (.slice (some ⟨gq6, 0, none⟩) Q6.length cq6) Q6 wc ∧ ArcAt wc ga N j) := Lib.hid ⟨HX6.out.1, HX6.out.2.1⟩
                    have HGQ6 := Lib.hid HX6.out.2.2
                    clear HX6 HC HS2 HU2 HD2 HGQ
                    obtain ⟨wd, hwd⟩ : ∃ wd, wc = wd := ⟨_, rfl⟩
                    rw [hwd] at HQ6 ⊢
                    clear hwd
                    go_upto_region 16 with fail
                    go_cut [147] from 124 to 147 (fun c wx => ∃ y : Bool, c = .bool y ∧ Hid ((y = true ↔ N.to j = u ∧ N.lo j < f1 j ∧ S6 (N.fr j) = false) ∧ LQ N wa go gs gB o6 S6 (.slice (some ⟨gq6, 0, none⟩) Q6.length cq6) Q6 wx ∧ ArcAt wx ga N j))
                    case first =>
                      have HLW := Lib.hid (HLB.out _ HQ6.out.1.below)
                      obtain ⟨a0, a1, a2, a3, a4⟩ := HQ6.out.2
                      have hal := block_lt_of_cell a0
                      have r1 := HLW.out.f.cell j hlt
                      have r2 := HLW.out.f.lt
                      have r3 := HQ6.out.1.s.cell (N.fr j) hfV
                      have r4 := HQ6.out.1.lt.2
                      obtain ⟨_, hgql, hcq, hcm, hqc⟩ := HQ6.out.1.at (by have := HU6.out.1; omega)
                      have r5 := hqc q HU6.out.1
                      have hql := HU6.out.1
                      rw [HU6.out.2.1] at r5
                      have HNEW : Hid (∀ W, Below wd.heap.size wd W → LQ N wa go gs gB o6 S6 (.slice (some ⟨gq6, 0, none⟩) Q6.length cq6) Q6 W ∧ ArcAt W ga N j) := Lib.hid (fun W hW => ⟨HQ6.out.1.more hW, HQ6.out.2.kp (X := []) (Kp.of_below hW) (by simp)⟩)
                      obtain ⟨fb1, fb2⟩ := HF1.out.1.1 j hlt
                      obtain ⟨lb1, lb2, lb3⟩ := HV.out.lo j hlt
                      obtain ⟨sb, hsb⟩ : ∃ y, S6 (N.fr j) = y := ⟨_, rfl⟩
                      rw [hsb] at r3
                      have HSB := Lib.hid hsb
                      clear hsb hqc HLW HQ6
                      obtain ⟨fi1, hfi1⟩ : ∃ y, f1 j = y := ⟨_, rfl⟩
                      obtain ⟨up, hup⟩ : ∃ y, N.up j = y := ⟨_, rfl⟩
                      obtain ⟨lo1, hlo1⟩ : ∃ y, N.lo j = y := ⟨_, rfl⟩
                      obtain ⟨frj, hfrj⟩ : ∃ y, N.fr j = y := ⟨_, rfl⟩
                      obtain ⟨toj, htoj⟩ : ∃ y, N.to j = y := ⟨_, rfl⟩
                      have HE := Lib.hid (show f1 j = fi1 ∧ N.up j = up ∧ N.lo j = lo1 ∧ N.fr j = frj ∧ N.to j = toj from ⟨hfi1, hup, hlo1, hfrj, htoj⟩)
                      have hfV2 := hfV
                      have htV2 := htV
                      rw [hfi1] at r1 fb1 fb2
                      rw [hup] at a3 fb2 lb2 lb3
                      rw [hlo1] at a2 fb1 lb1 lb2
                      rw [hfrj] at a0 hfV2 r3
                      rw [htoj] at a1 htV2
                      clear hfi1 hup hlo1 hfrj htoj
                      have HY : Hid (∀ y : Bool, (y = true ↔ toj = u ∧ lo1 < fi1 ∧ sb = false) → (y = true ↔ N.to j = u ∧ N.lo j < f1 j ∧ S6 (N.fr j) = false)) := Lib.hid (fun y hy => by
                        obtain ⟨h1, h2, h3, h4, h5⟩ := HE.out
                        rw [HSB.out, h1, h3, h5]; exact hy)
                      clear HE HSB
                      by_cases c1 : toj = u
                      · subst c1
                        by_cases c2 : lo1 < fi1
                        · cases sb
                          all_goals
                            go_quiet (fail)
                            go_wp2_with fail
                            go_meet
                            exact ⟨_, rfl, Lib.hid ⟨HY.out _ (by simp [c2]), HNEW.out _ (below_drewN (Below.refl _ _) _)⟩⟩
                        · have d2 : decide (lo1 < fi1) = false := by simpa using c2
                          go_quiet (fail)
                          go_wp2_with fail
                          go_meet
                          exact ⟨_, rfl, Lib.hid ⟨HY.out _ ⟨fun h => (by cases h), fun h => absurd h.2.1 (by omega)⟩, HNEW.out _ (below_drewN (Below.refl _ _) _)⟩⟩
                      · have d1 : decide (toj = u) = false := by simpa using c1
                        have d1b : ((toj : Int) == (u : Int)) = false := by simp; omega
                        go_quiet (fail)
                        go_wp2_with fail
                        go_meet
                        exact ⟨_, rfl, Lib.hid ⟨HY.out _ ⟨fun h => (by cases h), fun h => absurd h.1 c1⟩, HNEW.out _ (below_drewN (Below.refl _ _) _)⟩⟩
                    case rest =>
                      obtain ⟨y, rfl, HC⟩ := hcut
                      have HGQ := HGQ6
                      clear HQ6
                      cases y
                      · have HFD : Hid (Sd N f1 z1 u (j + 1) S6) := Lib.hid (HD6.out.1.next (fun b h1 h2 => by
                          cases b
                          · cases hq : S6 (N.fr j)
                            · have := HC.out.1.2 ⟨h1, by rw [HRZ.out false] at h2; have h3 : 0 < f1 j - N.lo j := h2; omega, hq⟩
                              cases this
                            · exact hq
                          · exact HD6.out.2 h1 h2))
                        go_wp2_with fail
                        go_roundg (N.m - (j + 1))
                        case rel => exact ⟨j + 1, Q6, S6, o6, gq6, cq6, rfl, by omega, by omega, by go_num, rfl, HU6, HS6, HFD, Lib.hid HC.out.2.1⟩
                        case measure => rw [hgk2.out]; omega
                      · obtain ⟨y1, y2, y3⟩ := HC.out.1.1 rfl
                        have HTK : Hid (Sc N f1 z1 (N.fr i) q (Q6 ++ [N.fr j]) (mark S6 (N.fr j)) (upd o6 (N.fr j) (-(j : Int) - 1))) := Lib.hid (HS6.out.take HV.out.ok (s := ⟨j, false⟩) hlt (by show S6 (N.to j) = true; rw [y1]; exact HU6.out.2.2) y3 (by rw [HRZ.out false]; show 0 < f1 j - N.lo j; omega) rfl rfl)
                        have HQ5 := Lib.hid HC.out.2.1
                        have HAT5 := Lib.hid HC.out.2.2
                        obtain ⟨a0, a1, a2, a3, a4⟩ := HAT5.out
                        have hal := block_lt_of_cell a0
                        have hqb := HS6.out.len
                        obtain ⟨l1, l2, l3, l4, l5⟩ := HQ5.out.lo
                        have l6 := HQ5.out.lt.1
                        have l7 := HQ5.out.lt.2
                        obtain ⟨hgq, hgql, hcq, hcm, _⟩ := HQ5.out.at (by have := HU6.out.1; omega)
                        obtain ⟨i0, hi0, hz0, hz1, hz2⟩ := info_parts Try.infoInt
                        have HI0 := Lib.hid hi0
                        have HZ0 := Lib.hid hz0
                        have HZ1i := Lib.hid hz1
                        have HZ2 := Lib.hid hz2
                        have hgaB := HAT.out.2.1
                        have m1 : ga ≠ gq6 := HGQ.out
                        have HOWN := Lib.hid HQ5.out.q
                        have hw1 : IntKind.i64.wrap (-(j : Int)) = -(j : Int) := by rw [IntKind.wrap_i64]; omega
                        have hw2 : IntKind.i64.wrap (-(j : Int) - 1) = -(j : Int) - 1 := by rw [IntKind.wrap_i64]; omega
                        clear y1 y2 y3 hi0 hz0 hz1 hz2 HC
                        go_wp2_with fail
                        refine wp_region_held_drew (S := (fun w' => w'.cell? ⟨ga, 0, none⟩ = some (.int .i64 (N.fr j : Int)))) (by kernel_rfl) (by go_keep) (fun hHeld => ?_)
                        refine wpAnyH_take (i := 0) (v := ?_) rfl (by kernel_rfl) (by kernel_rfl) (by kernel_rfl) (fun _ _ _ h => h) (Or.inl ⟨by rfl, ?_⟩) (by assumption) ?_
                        rotate_left
                        · (intro w hSw; (try dsimp only at hSw); go_simp; try with_reducible rfl)
                        (try simp only [Act.put, List.setIfInBounds_toArray, List.set_cons_zero, List.set_cons_succ])
                        refine wpAnyH_take (i := 1) (v := ?_) rfl (by kernel_rfl) (by kernel_rfl) (by kernel_rfl) (fun _ _ _ h => h) (Or.inl ⟨by rfl, ?_⟩) (by assumption) ?_
                        rotate_left
                        · (intro w hSw; (try dsimp only at hSw); go_simp; try with_reducible rfl)
                        (try simp only [Act.put, List.setIfInBounds_toArray, List.set_cons_zero, List.set_cons_succ])
                        refine wpAnyH_take (i := 2) (v := ?_) rfl (by kernel_rfl) (by kernel_rfl) (by kernel_rfl) (fun _ _ _ h => h) (Or.inl ⟨by rfl, ?_⟩) (by assumption) ?_
                        rotate_left
                        · (intro w hSw; (try dsimp only at hSw); go_simp; try with_reducible rfl)
                        (try simp only [Act.put, List.setIfInBounds_toArray, List.set_cons_zero, List.set_cons_succ])
                        refine wpAnyH_take (i := 3) (v := ?_) rfl (by kernel_rfl) (by kernel_rfl) (by kernel_rfl) (fun _ _ _ h => h) (Or.inl ⟨by rfl, ?_⟩) (by assumption) ?_
                        rotate_left
                        · (intro w hSw; (try dsimp only at hSw); go_simp; try with_reducible rfl)
                        (try simp only [Act.put, List.setIfInBounds_toArray, List.set_cons_zero, List.set_cons_succ])
                        refine wpAnyH_take (i := 4) (v := ?_) rfl (by kernel_rfl) (by kernel_rfl) (by kernel_rfl) (fun _ _ _ h => h) (Or.inl ⟨by rfl, ?_⟩) (by assumption) ?_
                        rotate_left
                        · (intro w hSw; (try dsimp only at hSw); go_simp; try with_reducible rfl)
                        (try simp only [Act.put, List.setIfInBounds_toArray, List.set_cons_zero, List.set_cons_succ])
                        refine wpAnyH_take (i := 5) (v := ?_) rfl (by kernel_rfl) (by kernel_rfl) (by kernel_rfl) (fun _ _ _ h => h) (Or.inl ⟨by rfl, ?_⟩) (by assumption) ?_
                        rotate_left
                        · (intro w hSw; (try dsimp only at hSw); go_simp; try with_reducible rfl)
                        (try simp only [Act.put, List.setIfInBounds_toArray, List.set_cons_zero, List.set_cons_succ])
                        refine wpAnyH_take (i := 6) (v := ?_) rfl (by kernel_rfl) (by kernel_rfl) (by kernel_rfl) (fun _ _ _ h => h) (Or.inl ⟨by rfl, ?_⟩) (by assumption) ?_
                        rotate_left
                        · (intro w hSw; (try dsimp only at hSw); go_simp; try with_reducible rfl)
                        (try simp only [Act.put, List.setIfInBounds_toArray, List.set_cons_zero, List.set_cons_succ])
                        refine wpAnyH_take (i := 7) (v := ?_) rfl (by kernel_rfl) (by kernel_rfl) (by kernel_rfl) (fun _ _ _ h => h) (Or.inl ⟨by rfl, ?_⟩) (by assumption) ?_
                        rotate_left
                        · (intro w hSw; (try dsimp only at hSw); go_simp; try with_reducible rfl)
                        (try simp only [Act.put, List.setIfInBounds_toArray, List.set_cons_zero, List.set_cons_succ])
                        refine wpAnyH_take (i := 8) (v := ?_) rfl (by kernel_rfl) (by kernel_rfl) (by kernel_rfl) (fun _ _ _ h => h) (Or.inl ⟨by rfl, ?_⟩) (by assumption) ?_
                        rotate_left
                        · (intro w hSw; (try dsimp only at hSw); go_simp; try with_reducible rfl)
                        (try simp only [Act.put, List.setIfInBounds_toArray, List.set_cons_zero, List.set_cons_succ])
                        refine wpAnyH_take (i := 9) (v := ?_) rfl (by kernel_rfl) (by kernel_rfl) (by kernel_rfl) (fun _ _ _ h => h) (Or.inl ⟨by rfl, ?_⟩) (by assumption) ?_
                        rotate_left
                        · (intro w hSw; (try dsimp only at hSw); go_simp; try with_reducible rfl)
                        (try simp only [Act.put, List.setIfInBounds_toArray, List.set_cons_zero, List.set_cons_succ])
                        refine wpAnyH_take (i := 10) (v := ?_) rfl (by kernel_rfl) (by kernel_rfl) (by kernel_rfl) (fun _ _ _ h => h) (Or.inl ⟨by rfl, ?_⟩) (by assumption) ?_
                        rotate_left
                        · (intro w hSw; (try dsimp only at hSw); go_simp; try with_reducible rfl)
                        (try simp only [Act.put, List.setIfInBounds_toArray, List.set_cons_zero, List.set_cons_succ])
                        refine wpAnyH_take (i := 11) (v := ?_) rfl (by kernel_rfl) (by kernel_rfl) (by kernel_rfl) (fun _ _ _ h => h) (Or.inl ⟨by rfl, ?_⟩) (by assumption) ?_
                        rotate_left
                        · (intro w hSw; (try dsimp only at hSw); go_simp; try with_reducible rfl)
                        (try simp only [Act.put, List.setIfInBounds_toArray, List.set_cons_zero, List.set_cons_succ])
                        refine wpAnyH_ready (rs := [12]) (by kernel_rfl) (by simp) ?_
                        refine AllReadyH.cons rfl (fun K hK => ?_) AllReadyH.nil
                        go_simp
                        refine hK.out _ _ ?_ (fun hHeld => ?_)
                        · (try dsimp only); first | assumption | go_keep
                        clear hK K
                        (try simp only [Act.put, List.setIfInBounds_toArray, List.set_cons_zero, List.set_cons_succ])
                        refine wpAnyH_ready (rs := [13]) (by kernel_rfl) (by simp) ?_
                        refine AllReadyH.cons rfl (fun K hK => ?_) AllReadyH.nil
                        (refine step_append_lies _ (by rfl) _ _ _ (by rfl) gB 3 i0 _ 1 8 Try.underlying26 HI0.out HZ0.out HZ1i.out HZ2.out rfl (by omega) _ _ _ (by rfl) ((HOWN.out.alloc _).drew) ⟨wc.heap.size, 0, none⟩ 1 1 [.int .i64 (N.fr j : Int)] (by rfl) (by rfl) (World.news_of_block (cs := #[.int .i64 (N.fr j : Int)]) (t := 3) (fr := (0, 0)) (heap_alloc_new wc _)) (by simp [Value.oneCell']) (by omega) (by unfold maxLen; omega) (by omega) (by simp; omega) (wc.heap.size + 1) (by simp) ?_; intro g2 cg2 w3 hown2 hgrow hat2 hlt2; obtain ⟨hg2, row1, row2, hcl⟩ := HQ5.out.grown hgrow)
                        refine hK.out _ _ ?_ (fun hHeld => ?_)
                        · (try dsimp only); exact hcl ga 0 _ (fun e => by injection e with e; exact m1 e.symm) a0
                        clear hK K
                        (try simp only [Act.put, List.setIfInBounds_toArray, List.set_cons_zero, List.set_cons_succ])
                        have s1 := row2.cell (N.fr j) hfV
                        have s2 := row2.frozen (N.fr j)
                        have s3 := row2.lt
                        have r1 := row1.cell (N.fr j) hfV
                        have r2 := row1.frozen (N.fr j)
                        have r3 := row1.lt
                        have l8 := l5.symm
                        have m2 : ga ≠ gs := by omega
                        have m3 : ga ≠ go := by omega
                        have m4 := m2.symm
                        have m5 := m3.symm
                        have HNW := Lib.hid (HQ5.out.take hg2 hown2 (-(j : Int) - 1))
                        refine wpAnyH_take (i := 14) (v := ?_) rfl (by kernel_rfl) (by kernel_rfl) (by kernel_rfl) (fun _ _ _ h => h) (Or.inl ⟨by rfl, ?_⟩) (by assumption) ?_
                        rotate_left
                        · (intro w hSw; (try dsimp only at hSw); go_simp; try with_reducible rfl)
                        (try simp only [Act.put, List.setIfInBounds_toArray, List.set_cons_zero, List.set_cons_succ])
                        refine wpAnyH_ready (rs := [15]) (by kernel_rfl) (by simp) ?_
                        refine AllReadyH.cons rfl (fun K hK => ?_) AllReadyH.nil
                        go_simp
                        refine hK.out _ _ ?_ (fun hHeld => ?_)
                        · (try dsimp only); go_keep
                        clear hK K
                        (try simp only [Act.put, List.setIfInBounds_toArray, List.set_cons_zero, List.set_cons_succ])
                        refine wpAnyH_take (i := 16) (v := ?_) rfl (by kernel_rfl) (by kernel_rfl) (by kernel_rfl) (fun _ _ _ h => h) (Or.inl ⟨by rfl, ?_⟩) (by assumption) ?_
                        rotate_left
                        · (intro w hSw; (try dsimp only at hSw); go_simp; try with_reducible rfl)
                        (try simp only [Act.put, List.setIfInBounds_toArray, List.set_cons_zero, List.set_cons_succ])
                        refine wpAnyH_ready (rs := [17]) (by kernel_rfl) (by simp) ?_
                        refine AllReadyH.cons rfl (fun K hK => ?_) AllReadyH.nil
                        go_simp
                        refine hK.out _ _ ?_ (fun hHeld => ?_)
                        · (try dsimp only); go_keep
                        clear hK K
                        (try simp only [Act.put, List.setIfInBounds_toArray, List.set_cons_zero, List.set_cons_succ])
                        refine wpAnyH_ready (rs := [18]) (by kernel_rfl) (by simp) ?_
                        refine AllReadyH.cons rfl (fun K hK => ?_) AllReadyH.nil
                        go_simp
                        refine hK.out _ _ ?_ (fun hHeld => ?_)
                        · (try dsimp only); first | assumption | go_keep
                        clear hK K
                        (try simp only [Act.put, List.setIfInBounds_toArray, List.set_cons_zero, List.set_cons_succ])
                        refine wpAnyH_done (by kernel_rfl) ?_ _
                        try simp only [Act.put, List.setIfInBounds_toArray, List.set_cons_zero, List.set_cons_succ]
                        go_wp2_with fail
                        try simp only [Act.put, List.setIfInBounds_toArray, List.set_cons_zero, List.set_cons_succ]
                        have HAR : Hid (ArcAt w3 ga N j) := Lib.hid ⟨hcl ga 0 _ (fun e => by injection e with e; exact m1 e.symm) HAT5.out.1, hcl ga 1 _ (fun e => by injection e with e; exact m1 e.symm) HAT5.out.2.1, hcl ga 2 _ (fun e => by injection e with e; exact m1 e.symm) HAT5.out.2.2.1, hcl ga 3 _ (fun e => by injection e with e; exact m1 e.symm) HAT5.out.2.2.2.1, hcl ga 4 _ (fun e => by injection e with e; exact m1 e.symm) HAT5.out.2.2.2.2⟩
                        have hl2 : ga ≠ g2 := fun e => by
                          rcases hat2 with h | h
                          · injection h with h; exact m1 (e.trans h.symm)
                          · have : ga < wc.heap.size := hal
                            omega
                        have hlen : (Q6 ++ [N.fr j]).length = Q6.length + 1 := by simp
                        have HUN : Hid (q < (Q6 ++ [N.fr j]).length ∧ (Q6 ++ [N.fr j]).getD q 0 = u ∧ mark S6 (N.fr j) u = true) := Lib.hid ⟨by have := HU6.out.1; omega, by rw [List.getD, List.getElem?_append_left HU6.out.1]; exact HU6.out.2.1, mark_up _ _ HU6.out.2.2⟩
                        have HFD : Hid (Sd N f1 z1 u (j + 1) (mark S6 (N.fr j))) := Lib.hid ((HD6.out.1.up _).next (fun b h1 h2 => by
                          cases b
                          · show mark S6 (N.fr j) (N.fr j) = true; unfold mark; rw [if_pos rfl]
                          · exact mark_up _ _ (HD6.out.2 h1 h2)))
                        go_roundg (N.m - (j + 1))
                        case rel => exact ⟨j + 1, Q6 ++ [N.fr j], _, _, g2, cg2, rfl, by omega, by omega, by go_num, by rw [hlen], HUN, HTK, HFD, Lib.hid (by rw [hlen]; exact HNW.out)⟩
                        case measure => rw [hgk2.out]; omega
              · have dpz : (N.c j + p (N.fr j) - p (N.to j) != 0) = true := by simpa using hpz
                have HNEXT : Hid (Sd N f1 z1 u (j + 1) S2) := Lib.hid (HD2.out.next (fun b h1 h2 => by
                  have h3 := (rz_rm h2).1
                  rw [HZ1.out] at h3
                  have h4 := ((zk_false _ _ _).1 h3).1
                  have h5 := (z0p_iff N p j).2 (by rw [HPR.out]; exact hpz)
                  rw [h5] at h4; cases h4))
                have HQN : Hid (∀ n, LQ N wa go gs gB o2 S2 (.slice (some ⟨gq2, 0, none⟩) Q2.length cq2) Q2 (wB.drewN n)) := Lib.hid (fun n => HQ3.out.more (below_drewN (Below.refl _ _) n))
                generalize N.c j = cj at *
                generalize p (N.fr j) = pf at *
                generalize p (N.to j) = pt at *
                clear hpz
                go_quiet (fail)
                clear dpz
                go_wp2_with fail
                go_roundg (N.m - (j + 1))
                case rel => exact ⟨j + 1, Q2, S2, o2, gq2, cq2, rfl, by omega, by omega, by go_num, rfl, HU2, HS2, HNEXT, Lib.hid (HQN.out _)⟩
                case measure => rw [hgk2.out]; omega
            · obtain rfl : j = N.m := by omega
              have HSN := Lib.hid (HS2.out.next HU2.out.1 (fun s h1 h2 h3 => HD2.out s h1 h1 (by rw [h2]; exact HU2.out.2.1) h3))
              go_wp2_with fail
              go_roundw
              case rel => exact ⟨q + 1, Q2, S2, o2, gq2, cq2, by go_num, rfl, HSN, HQ2⟩
              case measure => have := HS2.out.len; have := HU2.out.1; simp [intOf]; omega
        · have HCL := Lib.hid (HS.out.closed (by omega))
          have HFO := Lib.hid (fun (v : Nat) (h : S v = true) => HS.out.found HV.out h)
          have HRT := Lib.hid HS.out.root
          have n1 := HLW.out.n1
          have nl := block_lt_of_cell n1
          obtain ⟨b', off', e', hb, k0, k1, k2, k3, k4⟩ := HLW.out.arcs i hi
          injection e' with e'
          injection e' with e1 e2
          subst e1 e2
          have s1 := HQ.out.s.cell (N.to i) hok2
          have s3 := HQ.out.lt.2
          clear hqc hgq hgql hcq hcm HS hQV
          cases hS : S (N.to i)
          · rw [hS] at s1
            have HLES : Hid (Les N z i f f1) := Lib.hid ⟨HF1.out.1, HF1.out.2, .inr ⟨S, HRT.out, hS, fun s hsi hne hzs hr hb => HCL.out s hsi hb (by
              unfold Nw.rz
              rw [if_neg]
              · exact hr
              · rw [HZ.out] at hzs
                have h1 := (zk_false _ _ _).1 hzs
                rw [HZ1.out, Bool.not_eq_true, zk_false]
                exact ⟨h1.1, by omega⟩)⟩⟩
            clear hS
            go_wp2_with fail
            refine bodyPost_ret (v := .tuple #[]) (by simp [results, Try.results41, go_sem]) rfl ?_
            exact ⟨rfl, HLW.out.kp, f1, HLW.out.f, HLES.out⟩
          · rw [hS] at s1
            obtain ⟨l, hbp, hpw, hls⟩ := HFO.out _ hS
            have HBP := Lib.hid hbp
            have HPW := Lib.hid hpw
            have HLS : Hid (∀ s ∈ l, s.i < N.m ∧ s.i ≠ i ∧ z s.i = false ∧ 0 < N.rm f1 s) := Lib.hid (fun s hs => by
              obtain ⟨h1, h2⟩ := hls s hs
              obtain ⟨h3, h4⟩ := rz_rm h2
              rw [h4] at h2
              rw [HZ1.out] at h3
              have h5 := (zk_false _ _ _).1 h3
              exact ⟨h1, by omega, by rw [HZ.out]; exact (zk_false _ _ _).2 ⟨h5.1, by omega⟩, h2⟩)
            have r1 := HLW.out.f.cell i hi
            rw [HFI.out] at r1
            have r3 := HLW.out.f.lt
            rw [HLO.out] at k2
            clear hS hbp hpw hls HFO HCL HRT
            go_wp2_with fail
            go_quiet (fail)
            have HQ2 := Lib.hid (HQ.out.more (below_drewN (Below.refl _ _) nq))
            obtain ⟨w5, hw5⟩ : ∃ w5, wr.drewN nq = w5 := ⟨_, rfl⟩
            rw [hw5] at HQ2 ⊢
            obtain ⟨m0, hm0⟩ : ∃ m0, fi - lo = m0 := ⟨_, rfl⟩
            rw [hm0]
            have hm0b : 0 < m0 ∧ m0 ≤ 1099511627776 := by omega
            obtain ⟨mb1, mb2⟩ := hm0b
            have HM0 := Lib.hid hm0
            clear hw5 n1 nl hb k0 k1 k2 k3 k4 s1 s3 r1 r3 HLW HQ hm0 hq0
            go_wp2_with fail
            go_loopg [15, 16] l.length (fun n v15 v16 wr => ∃ (v : Nat) (m : Int) (l2 : List Sp), n = l2.length ∧ v16 = .int .i64 v ∧ v15 = .int .i64 m ∧ Hid (v < N.V) ∧ Hid (Tk N f1 o (N.fr i) m0 l v m l2) ∧ Hid (LQ N wa go gs gB o S (.slice (some ⟨gq, 0, none⟩) Q.length cq) Q wr))
            case atStart => exact ⟨N.to i, m0, l, rfl, rfl, rfl, Lib.hid hok2, Lib.hid (Tk.start HBP.out mb1), HQ2⟩
            case round =>
              obtain ⟨v, m, l2, hgk, rfl, rfl, HVL, HT, HY⟩ := hrel
              have hgk3 := Lib.hid hgk
              clear hgk HQ2
              have HLW := Lib.hid (HLB.out _ HY.out.below)
              have q1 := HY.out.o.cell v HVL.out
              have q3 := HY.out.lt.1
              cases l2 with
              | nil =>
                obtain ⟨l1, hl1, hb1, hm1, hm2', hmr⟩ := HT.out
                obtain ⟨hvr, hov⟩ := hb1.nil
                rw [List.append_nil] at hl1
                subst hl1
                rw [hov] at q1
                have HM2 : Hid (0 < m ∧ m ≤ m0 ∧ ∀ s ∈ l, m ≤ N.rm f1 s) := Lib.hid ⟨hm1, hm2', hmr⟩
                have HGO : Hid (go ≠ gf) := Lib.hid (by
                  have h1 := HY.out.lo.1
                  have h2 : gf < wa.heap.size := HLA.out.f.lt
                  omega)
                have HZ8 : Hid (LO N (some ⟨b, off, none⟩) ca gn gf gp w f1 p wr ∧ IRow wr go N.V o) := Lib.hid ⟨HLW.out, HY.out.o⟩
                clear hmr hov hb1 HT hgk3 hvr
                go_wp2_with fail
                clear q1 q3 HY HLW
                go_loopg [17] l.length (fun n v17 wr => ∃ (u : Nat) (f2 : Nat → Int) (l2 : List Sp), n = l2.length ∧ v17 = .int .i64 u ∧ Hid (u < N.V) ∧ Hid (Pk N f1 o (N.fr i) m l u f2 l2) ∧ Hid (LO N (some ⟨b, off, none⟩) ca gn gf gp w f2 p wr ∧ IRow wr go N.V o))
                case atStart => exact ⟨N.to i, f1, l, rfl, rfl, Lib.hid hok2, Lib.hid (Pk.start HBP.out), HZ8⟩
                case round =>
                  obtain ⟨u, f2, l2, hgk, rfl, HUL, HT, HY⟩ := hrel
                  have hgk3 := Lib.hid hgk
                  clear hgk HZ8
                  have q1 := HY.out.2.cell u HUL.out
                  have q3 := HY.out.2.lt
                  cases l2 with
                  | nil =>
                    have hou : o u = 0 := by
                      obtain ⟨l1, _, hb1, _⟩ := HT.out
                      exact hb1.nil.2
                    rw [hou] at q1
                    have hf2 := HT.out.done
                    have HY9 : Hid (LO N (some ⟨b, off, none⟩) ca gn gf gp w (pushes f1 l m) p wr) := Lib.hid (by rw [← hf2]; exact HY.out.1)
                    have hpi : pushes f1 l m i = fi := by rw [pushes_other f1 m (fun s hs => (HLS.out s hs).2.1), HFI.out]
                    have r1 := HY9.out.f.cell i hi
                    have r2 := HY9.out.f.frozen i
                    have r3 := HY9.out.f.lt
                    rw [hpi] at r1
                    have HWK : Hid (Wk N (N.fr i) l.reverse (N.to i)) := Lib.hid HBP.out.walk
                    have HCI : Hid (N.circ (upd (pushes f1 l m) i (fi - m))) := Lib.hid (by
                      have := lessen_step HF1.out.1 hi HWK.out (fun s hs => (HLS.out s (by simpa using hs)).2.1) (List.pairwise_reverse.2 (HPW.out.imp (fun h e => h e.symm))) (m := m) (by omega) (by rw [HFI.out, HLO.out]; have := HM2.out.2.1; have := HM0.out; omega) (fun s hs => HM2.out.2.2 s (by simpa using hs))
                      rwa [pushes_rev, HFI.out] at this)
                    have HSM : Hid (∀ j, j < N.m → j ≠ i → z j = true → upd (pushes f1 l m) i (fi - m) j = f j) := Lib.hid (fun j hj hji hzj => by
                      rw [upd_other _ _ hji, pushes_other f1 m (fun s hs e => ?_)]
                      · exact HF1.out.2 j hj hji hzj
                      · have h1 := (HLS.out s hs).2.2.1
                        rw [e, hzj] at h1; cases h1)
                    have HF8 : Hid (LO N (some ⟨b, off, none⟩) ca gn gf gp w (upd (pushes f1 l m) i (fi - m)) p (wr.setCell ⟨gf, i, none⟩ (.int .i64 (fi - m)))) := Lib.hid (HY9.out.kpf ((Kp.refl _ _).setCell _ _ (.inl (by simp))) (IRow.set HY9.out.f i (fi - m) (upd_same _ _ _) (fun j hj => upd_other _ _ hj)))
                    have hmb : m ≤ 1099511627776 := by omega
                    clear hou hf2 HT HY hgk3 hpi
                    go_wp2_with fail
                    go_roundg (upd (pushes f1 l m) i (fi - m) i - N.lo i).toNat
                    case rel => exact ⟨_, rfl, Lib.hid ⟨HCI.out, HSM.out⟩, HF8⟩
                    case measure =>
                      rw [hgk'.out, upd_same, HFI.out, HLO.out]
                      omega
                  | cons s l2 =>
                    have hs : o u = s.code ∧ s.i < N.m := by
                      obtain ⟨l1, _, hb1, _⟩ := HT.out
                      exact ⟨hb1.cons.2.1, hb1.cons.2.2.1⟩
                    obtain ⟨hs1, hs2⟩ := hs
                    rw [hs1] at q1
                    have dc : (s.code != 0) = true := by simpa using code_ne s
                    have HN := Lib.hid HT.out.step
                    have HSM := Lib.hid (HT.out.same HPW.out)
                    have hfb2 := flow_bd HV.out HF1.out.1.1 hs2
                    have HFB : Hid (0 ≤ f2 s.i ∧ f2 s.i ≤ 1099511627776) := Lib.hid (by rw [HSM.out]; exact hfb2)
                    have n0 := HY.out.1.n0
                    have n1 := HY.out.1.n1
                    have nl := block_lt_of_cell n0
                    have HUB : Hid (N.beg s < N.V) := Lib.hid (beg_lt HV.out.ok hs2)
                    have HMB : Hid (0 ≤ m ∧ m ≤ 2638827906662400) := Lib.hid (by omega)
                    clear hs1 hfb2
                    go_wp2_with fail
                    refine (Rback_any s N hm2 (some ⟨b, off, none⟩) ca hs2 _ HY.out.1.arcs).mono ?_
                    rintro e w9 ⟨rfl, hb9⟩
                    have HY9 : Hid (LO N (some ⟨b, off, none⟩) ca gn gf gp w f2 p w9 ∧ IRow w9 go N.V o) := Lib.hid ⟨HY.out.1.more hb9, VRow.below HY.out.2 hb9 HY.out.2.lt⟩
                    clear hb9 n0 n1 nl q1 q3 HY
                    go_wp2_with fail
                    refine (Rpush_any s N hm2 gf cf f2 m HMB.out HFB.out hs2 _ HY9.out.1.f).mono ?_
                    rintro e w10 ⟨rfl, hf10, hk10⟩
                    have HY10 : Hid (LO N (some ⟨b, off, none⟩) ca gn gf gp w (push f2 s m) p w10 ∧ IRow w10 go N.V o) := Lib.hid ⟨HY9.out.1.kpf hk10 hf10, VRow.kp HY9.out.2 hk10 (by have := HGO.out; simp; omega)⟩
                    clear hf10 hk10 HY9
                    go_wp2_with fail
                    go_roundg l2.length
                    case rel => exact ⟨_, _, l2, rfl, rfl, HUB, HN, HY10⟩
                    case measure => rw [hgk3.out]; simp
              | cons s l2 =>
                have hs : o v = s.code ∧ s.i < N.m := by
                  obtain ⟨l1, _, hb1, _⟩ := HT.out
                  exact ⟨hb1.cons.2.1, hb1.cons.2.2.1⟩
                obtain ⟨hs1, hs2⟩ := hs
                rw [hs1] at q1
                have dc : (s.code != 0) = true := by simpa using code_ne s
                have hrm : 0 < N.rm f1 s := (HLS.out s HT.out.mem).2.2.2
                obtain ⟨rm, hrme⟩ : ∃ y, N.rm f1 s = y := ⟨_, rfl⟩
                have HN : Hid (∀ m', m' = min m rm → Tk N f1 o (N.fr i) m0 l (N.beg s) m' l2) := Lib.hid (fun m' hm' => HT.out.step hrm _ (by rw [hrme]; exact hm'))
                have HRM := Lib.hid hrme
                have hrmb : 0 < rm := by rw [← hrme]; exact hrm
                have HUB : Hid (N.beg s < N.V) := Lib.hid (beg_lt HV.out.ok hs2)
                have n0 := HLW.out.n0
                have n1 := HLW.out.n1
                have nl := block_lt_of_cell n0
                have HYB : Hid (∀ W, Below wr.heap.size wr W → Arcs W (some ⟨b, off, none⟩) N ∧ Rd W (some ⟨gf, 0, none⟩) N.m f1 ∧ LQ N wa go gs gB o S (.slice (some ⟨gq, 0, none⟩) Q.length cq) Q W) := Lib.hid (fun W hW => ⟨(HLW.out.more hW).arcs, Rd.of_row (HLW.out.more hW).f, HY.out.more hW⟩)
                clear hs1 hrm hrme HT
                go_upto_region 24 with fail
                refine wp_region_below (by kernel_rfl) (by kernel_rfl) ?_
                have g1 := fun x : Since wr => x.cell n0
                have g2 := fun x : Since wr => x.cell n1
                have g3 := fun x : Since wr => x.cell q1
                repeat (go_big_quiet_step ((go_at_call 57; exact calls_since _ (Rroom_any s N HV.out (some ⟨b, off, none⟩) ca (some ⟨gf, 0, none⟩) cf f1 HF1.out.1.1 hs2 _ (HYB.out _ (Since.property _)).1 (HYB.out _ (Since.property _)).2.1))))
                all_goals
                  refine wpQuiet_nil ?_
                  intro W1 hb1
                  rw [HRM.out]
                  replace n0 := (hb1.cell (p := ⟨gn, 0, none⟩) nl).trans n0
                  replace n1 := (hb1.cell (p := ⟨gn, 1, none⟩) nl).trans n1
                  replace q1 := (hb1.cell (p := ⟨go, v, none⟩) (block_lt_of_cell q1)).trans q1
                  replace nl := block_lt_of_cell n0
                  replace q3 := block_lt_of_cell q1
                  have HB1 := Lib.hid hb1
                  clear g1 g2 g3 hb1
                  go_upto_region 23 with fail
                  refine wp_region_below (by kernel_rfl) (by kernel_rfl) ?_
                  have g1 := fun x : Since W1 => x.cell n0
                  have g2 := fun x : Since W1 => x.cell n1
                  have g3 := fun x : Since W1 => x.cell q1
                  repeat (go_big_quiet_step ((go_at_call 58; exact calls_since _ (Rback_any s N hm2 (some ⟨b, off, none⟩) ca hs2 _ (HYB.out _ (HB1.out.trans ((Since.property _).mono HB1.out.size))).1))))
                  refine wpQuiet_nil ?_
                  intro W2 hb2
                  have HY2 := Lib.hid (HYB.out _ (HB1.out.trans (hb2.mono HB1.out.size))).2.2
                  clear g1 g2 g3 hb2 n0 n1 nl q1 q3 HB1 HY HYB HLW
                  go_wp2_with fail
                  all_goals
                    go_roundg l2.length
                    case rel => exact ⟨_, _, l2, rfl, rfl, rfl, HUB, Lib.hid (HN.out _ (by omega)), HY2⟩
                    case measure => rw [hgk3.out]; simp
    · have hgt2 : fi = lo := by omega
      have HLES : Hid (Les N z i f f1) := Lib.hid ⟨HF1.out.1, HF1.out.2, .inl (by rw [HFI.out, HLO.out]; exact hgt2)⟩
      have d1 : decide (lo < fi) = false := by simpa using hgt
      have HFIN : Hid (∀ n, LO N (some ⟨b, off, none⟩) ca gn gf gp w f1 p (wr.drewN n)) := Lib.hid (fun n => HL.out.more (below_drewN (Below.refl _ _) n))
      clear hgt hgt2
      go_wp2_with fail
      go_quiet (fail)
      go_wp2_with fail
      go_end0
      exact ⟨rfl, (HFIN.out _).kp, f1, (HFIN.out _).f, HLES.out⟩
end Go.Proofs.Ythoehobofdeifaa
