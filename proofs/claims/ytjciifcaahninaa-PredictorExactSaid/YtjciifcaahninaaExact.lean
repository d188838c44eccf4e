/-
  What is proved: for every codes, size, address and taken the law PredictorExact of chapter 16 (predictor) returns true: all functions agree with the reference for tables, sizes and traces. No conditions.
-/
import Derived.Test.YtjciifcaahninaaAwake
namespace Go.Proofs.Ytjciifcaahninaa.predictorExact
open Go.ChangeShapes Go.WideShapes Go.ChangeAt Go.RowKit
set_option linter.unusedVariables false

theorem own : ownKnob Try.prog.godebug = none := by kernel_rfl
theorem laidOut : laidOutB Try.prog = true := by kernel_rfl

theorem four_cells (w : World) (x : Int) : Cells (w.alloc (.cells #[.int .i64 0, .int .i64 1, .int .i64 (1 + x), .int .i64 4096] 3)) (some ⟨w.heap.size, 0, none⟩) (ints [0, 1, 1 + x, 4096]) := by
  intro _
  refine ⟨_, _, rfl, by simp, fun j u hj => ?_⟩
  rw [cell_of_row _ _ _ _ _ _ (heap_alloc_new w _), Nat.zero_add]
  simpa using hj
theorem four_bd (x : Int) (h0 : 0 ≤ x) (h1 : x < 20) (k : Nat) : 0 ≤ [0, 1, 1 + x, 4096].getD k 0 ∧ [0, 1, 1 + x, 4096].getD k 0 ≤ 4096 := by
  match k with
  | 0 => simp
  | 1 => simp
  | 2 => simp; omega
  | 3 => simp
  | k + 4 => simp
set_option maxRecDepth 100000 in
set_option maxHeartbeats 4000000 in
theorem walk (a0 : Option Addr) (len0 cap0 : Nat) (z0 : List Int) (a1 a2 : Int) (tk : Bool) (w : World) (w0 : InInts .u8 w a0 len0 cap0 z0) (w1 : (Lit.int .i64 a1).wf = true) (w2 : (Lit.int .u32 a2).wf = true) :
    Calls Try.prog 4 #[.slice a0 len0 cap0, .int .i64 a1, .int .u32 a2, .bool tk] w fun e w' => e = .returned (.bool true) ∧ Below w.heap.size w w' := by
  obtain ⟨b20, b21⟩ := bounds_u32 w2
  have HI := Lib.hid w0
  clear w0 w2 w1
  go_enter Try.func4, Try.ntmps4
  go_wp2_with fail
  refine (awake_any _).mono ?_
  rintro e w1 ⟨rfl, hb1⟩
  go_wp2_with fail
  refine (New_any a0 len0 cap0 z0 300 (by omega) (by omega) _ (HI.out.below hb1)).mono ?_
  rintro e w2 ⟨g, rfl, hg, hcod, hb2⟩
  have hbw2 := hb1.trans (hb2.mono hb1.size)
  have hgw : w.heap.size ≤ g := by have := hb1.size; omega
  go_wp2_with fail
  refine (table_any g _ hcod).mono ?_
  rintro e w3 ⟨ta, tcap, t, rfl, ht1, ht8, htc, htm, htcell, hba, hTab, hcod3, hg3⟩
  have hbw3 := below_grown1 hbw2 hg3 hbw2.size hgw
  clear hb1 hb2 hcod hg3 hbw2
  obtain ⟨tn, htn⟩ : ∃ tn, t.length = tn := ⟨_, rfl⟩
  rw [htn] at ht1 ht8 htc ⊢
  have HT := Lib.hid htn
  have HTC := Lib.hid htcell
  have HTT := Lib.hid hTab
  clear htn htcell hTab
  go_wp2_with fail
  refine (New_any2 a1 _).mono ?_
  rintro e w4 ⟨v, rfl, hown, hb4⟩
  obtain ⟨na, ncap, rfl, _, hn1, hn2, hncell, _⟩ := Cells.of_own hown
  clear hown
  have hlN : (newT a1).length ≤ 4096 := by rw [newT_len]; split <;> omega
  obtain ⟨nn, hnn⟩ : ∃ nn, (newT a1).length = nn := ⟨_, rfl⟩
  rw [hnn] at hlN hn1 ⊢
  have HNN := Lib.hid hnn
  have HNC := Lib.hid hncell
  clear hnn hncell
  go_wp2_with fail
  refine (refNew_any a1 _).mono ?_
  rintro e w5 ⟨v, rfl, hown, hb5⟩
  obtain ⟨na', ncap', rfl, _, hn1', hn2', hncell, _⟩ := Cells.of_own hown
  rw [HNN.out] at hn1' ⊢
  have HNC' := Lib.hid hncell
  clear hown hncell
  have hb45 := hb4.trans (hb5.mono hb4.size)
  go_wp2_with fail
  refine (Ints_same na na' nn ncap ncap' _ HNN.out hlN _ (HNC.out.below hb5) HNC'.out).mono ?_
  rintro e w6 ⟨rfl, hb6⟩
  have hb46 := hb45.trans (hb6.mono hb45.size)
  clear hb4 hb5 hb6 hb45
  go_wp2_with fail
  refine (Predict_any ta tn tcap t a2 b20 HT.out ht1 (by omega) _ (HTC.out.below hb46)).mono ?_
  rintro e w7 ⟨rfl, rfl⟩
  go_wp2_with fail
  refine (refPredict_any ta tn tcap t a2 b20 HT.out ht1 (by omega) _ (HTC.out.below hb46)).mono ?_
  rintro e w7 ⟨rfl, rfl⟩
  have hpp : (prd t a2 != prd t a2) = false := by simp
  go_wp2_with fail
  refine (Update_any ta tn tcap t a2 tk b20 HT.out ht1 (by omega) HTT.out _ (HTC.out.below hb46)).mono ?_
  rintro e w8 ⟨ua, ucap, rfl, hu1, hu2, hucell, hb8⟩
  have hb48 := hb46.trans (hb8.mono hb46.size)
  have HUC := Lib.hid hucell
  rw [upd_len, HT.out] at hu1 ⊢
  clear hucell hb8
  go_wp2_with fail
  refine (refUpdate_any ta tn tcap t a2 tk b20 HT.out ht1 (by omega) HTT.out _ (HTC.out.below hb48)).mono ?_
  rintro e w9 ⟨ua', ucap', rfl, hu1', hu2', hucell', hb9⟩
  have hb49 := hb48.trans (hb9.mono hb48.size)
  have HUC' := Lib.hid hucell'
  rw [upd_len, HT.out] at hu1' ⊢
  clear hucell' hb46
  go_wp2_with fail
  refine (Ints_same ua ua' tn ucap ucap' (upd t a2 tk) (by rw [upd_len]; exact HT.out) (by omega) _ (HUC.out.below hb9) HUC'.out).mono ?_
  rintro e w10 ⟨rfl, hb10⟩
  have hb410 := hb49.trans (hb10.mono hb49.size)
  have hcod10 := hcod3.below hb410 hcod3.lt
  have hbw10 := hbw3.trans (hb410.mono hbw3.size)
  clear hb9 hb10 hb410 hb48 hb49 hcod3 hbw3
  go_wp2_with fail
  refine (Trace_any g 40 (by omega) (by omega) _ hcod10).mono ?_
  rintro e w11 ⟨a, cap, l, rfl, hl40, hlc, hcm, hcell, hba, hok, hcod11, hg11⟩
  have hg10 := hcod10.lt
  have hbw11 := below_grown1 hbw10 hg11 hbw10.size hgw
  clear hcod10 hg11 hbw10
  obtain ⟨len, hlen⟩ : ∃ len, l.length = len := ⟨_, rfl⟩
  have HL := Lib.hid hlen
  have HC := Lib.hid hcell
  have HOK := Lib.hid hok
  rw [hlen] at hl40 hlc ⊢
  have hgw11 := hbw11.size
  go_wp2_with fail
  refine (Next_any g 20 (by omega) _ hcod11).mono ?_
  rintro e w12 ⟨x, rfl, x0, x1, hcod12, hg12⟩
  have hbw12 := below_grown1 hbw11 hg12 hbw11.size hgw
  have hx : x < 20 := by omega
  have hcell12 := hcell.grown hg12 (fun y k hy hk => by injection hk with hk; have := hba y hy; omega)
  have HC12 := Lib.hid hcell12
  have h4 := four_cells w12 x
  have H4 := Lib.hid h4
  have hbw13 := hbw12.alloc hbw12.size (.cells #[.int .i64 0, .int .i64 1, .int .i64 (1 + x), .int .i64 4096] 3)
  have hb1213 := (Below.refl w12.heap.size w12).alloc (Nat.le_refl _) (.cells #[.int .i64 0, .int .i64 1, .int .i64 (1 + x), .int .i64 4096] 3)
  have HC13 := Lib.hid (hcell12.below hb1213)
  clear hcell hcell12 hlen hok h4 hg12 hcod12 hcod11 hbw11 hbw12 hb1213 HC HC12 hba
  go_wp2_with fail
  generalize (w12.alloc (.cells #[.int .i64 0, .int .i64 1, .int .i64 (1 + x), .int .i64 4096] 3)) = w13 at *
  obtain ⟨b4, hb4⟩ : ∃ b4, w12.heap.size = b4 := ⟨_, rfl⟩
  rw [hb4] at H4 ⊢
  clear hb4
  go_loopw [64] (fun v wr => ∃ k : Nat, k ≤ 4 ∧ v = .int .i64 k ∧ Below w13.heap.size w13 wr) (fun v _ => 4 - (intOf v).toNat)
  case atStart => exact ⟨0, by omega, rfl, Below.refl _ _⟩
  case round =>
    obtain ⟨k, hk, rfl, hb⟩ := hrel
    obtain ⟨wo, rfl⟩ : ∃ wo : World, wo = wr := ⟨_, rfl⟩
    have hbwo := hbw13.trans (hb.mono hbw13.size)
    have HCO := Lib.hid (HC13.out.below hb)
    have hszo := hb.size
    by_cases hlt : k < 4
    · obtain ⟨b, off, he, hbl, hcel⟩ := (H4.out.below hb).int k (by simpa using hlt)
      have c := hcel k (by simpa using hlt)
      injection he with he
      injection he with he1 he2
      subst he1 he2
      rw [Nat.zero_add] at c
      obtain ⟨m0, m1⟩ := four_bd x x0 hx k
      generalize ([0, 1, 1 + x, 4096] : List Int).getD k 0 = m at *
      clear hcel
      go_wp2_with fail
      refine (Count_any m a len cap l HL.out (by omega) HOK.out _ HCO.out).mono ?_
      rintro e w14 ⟨rfl, hb14⟩
      go_wp2_with fail
      refine (refCount_any m m0 m1 a len cap l HL.out (by omega) HOK.out _ (HCO.out.below hb14)).mono ?_
      rintro e w15 ⟨rfl, hb15⟩
      have hb1415 := hb14.trans (hb15.mono hb14.size)
      generalize (counted m l).2 = c2 at *
      generalize (counted m l).1 = c1 at *
      clear hb14 hb15
      go_wp2_with fail
      refine (Each_any m a len cap l HL.out (by omega) HOK.out _ (HCO.out.below hb1415)).mono ?_
      rintro e w16 ⟨v, rfl, hown, hb16⟩
      rw [HL.out] at hown
      obtain ⟨ea, ecap, rfl, _, he1, he2, hecell, _⟩ := Cells.of_own hown
      have hb1416 := hb1415.trans (hb16.mono hb1415.size)
      have HE := Lib.hid hecell
      clear hown hecell hb16 hb1415
      go_wp2_with fail
      refine (refEach_any m m0 m1 a len cap l HL.out (by omega) HOK.out _ (HCO.out.below hb1416)).mono ?_
      rintro e w17 ⟨v, rfl, hown, hb17⟩
      rw [HL.out] at hown
      obtain ⟨fa, fcap, rfl, _, hf1, hf2, hfcell, _⟩ := Cells.of_own hown
      have HE' := Lib.hid (HE.out.below hb17)
      have hb1417 := hb1416.trans (hb17.mono hb1416.size)
      have HF := Lib.hid hfcell
      obtain ⟨R, hR⟩ : ∃ R, (run (newT m) l).2 = R := ⟨_, rfl⟩
      have hRL : R.length = len := by rw [← hR, (run_len _ _).2]; exact HL.out
      rw [hR] at HE' HF
      have HRL := Lib.hid hRL
      have q1 : ((c1 : Int) != (c1 : Int)) = false := by simp
      have q2 : ((c2 : Int) != (c2 : Int)) = false := by simp
      have q3 : ((len : Int) != (len : Int)) = false := by simp
      clear hown hfcell hb17 hb1416 hR hRL HE
      go_wp2_with fail
      go_loopw [21] (fun v wr => ∃ i : Nat, i ≤ len ∧ v = .int .i64 i ∧ Below w17.heap.size w17 wr) (fun v _ => len - (intOf v).toNat)
      case atStart => exact ⟨0, by omega, rfl, Below.refl _ _⟩
      case round =>
        obtain ⟨i, hi, rfl, hbi⟩ := hrel
        by_cases hli : i < len
        · have hir : i < R.length := by have := HRL.out; omega
          obtain ⟨b, off, rfl, hbl, hce⟩ := (HE'.out.below hbi).bool i hir
          obtain ⟨b', off', rfl, hbl', hcf⟩ := (HF.out.below hbi).bool i hir
          have e1 := hce i hir
          have e2 := hcf i hir
          obtain ⟨y, hy⟩ : ∃ y, R.getD i false = y := ⟨_, rfl⟩
          rw [hy] at e1 e2
          have i0 : (0 : Int) ≤ (i : Int) := by omega
          have i1 : (i : Int) < (len : Int) := by omega
          have q4 : (y != y) = false := by simp
          clear hce hcf hy
          go_wp2_with fail
          go_quiet (fail)
          go_wp2_with fail
          go_roundw
          case rel => exact ⟨i + 1, by omega, by go_num, below_drewN hbi _⟩
          case measure => simp [intOf]; omega
        · obtain rfl : i = len := by omega
          go_wp2_with fail
          go_roundw
          case rel => exact ⟨k + 1, by omega, by go_num, hb.trans ((hb1417.trans (hbi.mono hb1417.size)).mono hb.size)⟩
          case measure => simp [intOf]; omega
    · obtain rfl : k = 4 := by omega
      go_wp2_with fail
      go_ret
      exact ⟨rfl, hbwo⟩

/-! ### THE ROW's STEP -/
set_option maxRecDepth 100000 in
theorem lifted (os : Os) (started : os.Started) (H : Type) (enc : TypeId × Value → H) :
    ReturnsInHanded {} Try.checked os 4 .any (Rows.predictorExactSpec.pre6 enc Try.prog Try.f4 Rows.predictorExactRow.domain false) (Rows.predictorExactSpec.post enc Try.prog Try.f4 false true false false) := by
  refine returnsInHanded_of_change (C := Try.checked) own started (by kernel_rfl) Try.func4
    (ChangeSpec.witness6 (enc := enc) (C := Try.checked) false ⟨#[], #[.slice none 0 0, .int .i64 0, .int .u32 0, .bool false], []⟩ 8 (by kernel_rfl) (by kernel_rfl) (by kernel_rfl) (by kernel_rfl)) ?_
  intro W base args ds gs before hval0 hW hcnd _
  have hval : ∀ (j : Nat) t v, Try.f4.params[j]? = some t → args[j]? = some v → Value.okWide Try.prog W .any base t v := hval0
  have hW' := hW
  obtain ⟨p, q, hA0, hV, rfl, hfz, hnd⟩ := hW
  have hA : DataW.TrodAll enc Try.prog W 0 (fun _ => true) true Try.f4.params.toList args.toList ds p := hA0
  rw [Try.params4] at hA hval
  obtain ⟨v0, vs0, d0, ds0, p0, q0, hargs, rfl, rfl, h0, r0⟩ := trodAll_cons hA
  obtain ⟨v1, vs1, d1, ds1, p1, q1, rfl, rfl, rfl, h1, r1⟩ := trodAll_cons r0
  obtain ⟨v2, vs2, d2, ds2, p2, q2, rfl, rfl, rfl, h2, r2⟩ := trodAll_cons r1
  obtain ⟨v3, vs3, d3, ds3, p3, q3, rfl, rfl, rfl, h3, r3⟩ := trodAll_cons r2
  obtain ⟨rfl, rfl, rfl⟩ := trodAll_nil r3
  obtain rfl : args = #[v0, v1, v2, v3] := by cases args; simp_all
  obtain ⟨rfl, rfl⟩ := trodVars_none hV
  have k0 := h0
  have lt0 : ∀ x ∈ p0, x.block < W.heap.size := by obtain ⟨m, hm⟩ := k0; exact DataW.trod_lt m _ _ _ hm
  obtain ⟨a0, len0, cap0, zs0, rfl, w0⟩ := in_ints (k := .u8) Try.underlying22 Try.underlying5 (by kernel_rfl) (hval 0 22 v0 rfl rfl) h0
  obtain ⟨a1, rfl, rfl, rfl, w1⟩ := open_int Try.underlying3 (hval 1 3 v1 rfl rfl) h1
  obtain ⟨a2, rfl, rfl, rfl, w2⟩ := open_int Try.underlying34 (hval 2 34 v2 rfl rfl) h2
  obtain ⟨a3, rfl, rfl, rfl⟩ := open_bool Try.underlying4 (hval 3 4 v3 rfl rfl) h3
  clear hA0 hval0
  refine (walk a0 len0 cap0 zs0 a1 a2 a3 W w0 w1 w2).mono fun e W' ⟨he, bel⟩ => ?_
  subst he
  exact ⟨_, rfl, _, _, _, [], _, [], hW', trodAll_mk1 (shut_bool Try.underlying4 _), (trodAll_cons_mk (Below.trod laidOut (by kernel_rfl) (of_decide_eq_true (by kernel_rfl)) k0 bel lt0) (trodAll_cons_mk (shut_int Try.underlying3 w1) (trodAll_cons_mk (shut_int Try.underlying34 w2) (trodAll_cons_mk (shut_bool Try.underlying4 a3) trodAll_mk0)))), rfl, bel.frame _, fun h => by cases h⟩

theorem over : Rows.predictorExactRow.holds Try.pinned (OpenSpec.ofChange Rows.predictorExactSpec) :=
  OpenClaim.holds_of_wide 4 Try.f4 rfl rfl rfl rfl rfl rfl rfl ⟨rfl, rfl, rfl, rfl, rfl⟩ rfl rfl rfl rfl rfl (by kernel_rfl) Try.func4 (by kernel_rfl)
    (of_decide_eq_true (by kernel_rfl)) (by unfold Func.isWrapper; first | (rw [if_pos (by decide +kernel)]; kernel_rfl) | (rw [if_neg (by decide +kernel)]; exact ⟨rfl, rfl⟩))
    (fun os started H enc _ => lifted os started H enc)

/-- the statement -/
theorem proved : Rows.PredictorExactSaid := over
#print axioms proved
end Go.Proofs.Ytjciifcaahninaa.predictorExact
