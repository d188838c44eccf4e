/-
  What is proved: for every codes and more the law StatisticsMargins of chapter 43 (statistics) returns true: exchanging old and new exchanges better and worse, a greater margin makes fewer pairs better and worse, and with the margin 0 only equal pairs are neither. No conditions.
-/
import Derived.Test.YtjlalilhmadmcaaPairsD
import Derived.Test.YtjlalilhmadmcaaSigns
namespace Go.Proofs.Ytjlalilhmadmcaa.statisticsMargins
open Go.ChangeShapes Go.WideShapes Go.ChangeAt Go.RowKit
set_option linter.unusedVariables false

theorem own : ownKnob Try.prog.godebug = none := by kernel_rfl
theorem laidOut : laidOutB Try.prog = true := by kernel_rfl

theorem cnt_congr (f g : Nat → Bool) : ∀ k, (∀ i, i < k → f i = g i) → cnt f k = cnt g k := by
  intro k
  induction k with
  | zero => intro _; rfl
  | succ k ih => intro h; show cnt f k + _ = cnt g k + _; rw [ih fun i hi => h i (by omega), h k (by omega)]
theorem cnt_mono (f g : Nat → Bool) : ∀ k, (∀ i, i < k → f i = true → g i = true) → cnt f k ≤ cnt g k := by
  intro k
  induction k with
  | zero => intro _; exact Nat.le_refl _
  | succ k ih =>
    intro h
    have h1 := ih fun i hi => h i (by omega)
    have h2 := h k (by omega)
    show cnt f k + _ ≤ cnt g k + _
    cases hf : f k with
    | false => simp; omega
    | true => rw [h2 hf]; simp; omega
theorem cnt_three (f g e : Nat → Bool) : ∀ k, (∀ i, i < k → (if f i then 1 else 0) + (if g i then 1 else 0) + (if e i then 1 else 0) = 1) → cnt f k + cnt g k + cnt e k = k := by
  intro k
  induction k with
  | zero => intro _; rfl
  | succ k ih =>
    intro h
    have h1 := ih fun i hi => h i (by omega)
    have h2 := h k (by omega)
    show (cnt f k + _) + (cnt g k + _) + (cnt e k + _) = k + 1
    omega
def eqB (q : Int × Int) : Bool := q.1 == q.2
def swapQ (q : Int × Int) : Int × Int := (q.2, q.1)
def swapL (zs : List (Int × Int)) : List (Int × Int) := zs.map swapQ
theorem swapL_len (zs : List (Int × Int)) : (swapL zs).length = zs.length := by simp [swapL]
theorem swapL_get (zs : List (Int × Int)) (i : Nat) (h : i < zs.length) : (swapL zs).getD i (0, 0) = swapQ (zs.getD i (0, 0)) := by simp [swapL, List.getD, h]
theorem take_one (zs : List (Int × Int)) (k : Nat) (h : k < zs.length) : zs.take (k + 1) = zs.take k ++ [zs.getD k (0, 0)] := by
  rw [List.take_succ_eq_append_getElem h]; simp [List.getD, h]
theorem plain_turn (m : Int) (zs : List (Int × Int)) : cnt (fun i => betB m ((swapL zs).getD i (0, 0))) zs.length = cnt (fun i => wrsB m (zs.getD i (0, 0))) zs.length ∧
    cnt (fun i => wrsB m ((swapL zs).getD i (0, 0))) zs.length = cnt (fun i => betB m (zs.getD i (0, 0))) zs.length :=
  ⟨cnt_congr _ _ _ fun i hi => by rw [swapL_get zs i hi]; rfl, cnt_congr _ _ _ fun i hi => by rw [swapL_get zs i hi]; rfl⟩
theorem plain_more (m d : Int) (hd : 0 ≤ d) (q : Nat → Int × Int) (k : Nat) (hq : ∀ i, i < k → 0 ≤ (q i).1 ∧ 0 ≤ (q i).2) : cnt (fun i => betB (m + d) (q i)) k ≤ cnt (fun i => betB m (q i)) k ∧ cnt (fun i => wrsB (m + d) (q i)) k ≤ cnt (fun i => wrsB m (q i)) k := by
  constructor
  · refine cnt_mono _ _ _ fun i hi h => ?_
    simp only [betB, decide_eq_true_eq] at h ⊢
    have h1 := Int.mul_nonneg hd (hq i hi).2
    rw [show 1000 + (m + d) = (1000 + m) + d by omega, Int.add_mul] at h
    omega
  · refine cnt_mono _ _ _ fun i hi h => ?_
    simp only [wrsB, decide_eq_true_eq] at h ⊢
    have h1 := Int.mul_nonneg hd (hq i hi).1
    rw [show 1000 + (m + d) = (1000 + m) + d by omega, Int.add_mul] at h
    omega
theorem plain_zero (q : Nat → Int × Int) (k : Nat) : cnt (fun i => betB 0 (q i)) k + cnt (fun i => wrsB 0 (q i)) k + cnt (fun i => eqB (q i)) k = k := by
  refine cnt_three _ _ _ _ fun i _ => ?_
  simp only [betB, wrsB, eqB, decide_eq_true_eq, beq_iff_eq]
  split <;> split <;> split <;> omega

set_option maxRecDepth 100000 in
set_option maxHeartbeats 4000000 in
theorem walk (a0 : Option Addr) (len0 cap0 : Nat) (z0 : List Int) (a1 : Int) (w : World) (w0 : InInts .u8 w a0 len0 cap0 z0) (w1 : (Lit.int .u8 a1).wf = true) :
    Calls Try.prog 8 #[.slice a0 len0 cap0, .int .u8 a1] w fun e w' => e = .returned (.bool true) ∧ Below w.heap.size w w' := by
  obtain ⟨i0, hi0, hz0, hz1, hz2⟩ := info_parts Try.info55
  obtain ⟨b10, b11⟩ := bounds_u8 w1
  clear w1
  have HI := Lib.hid w0
  clear w0
  go_enter Try.func8, Try.ntmps8
  go_wp2_with (go_at_call 10; refine (awake_any _).mono ?_; rintro e w1 ⟨rfl, hb1⟩)
  refine (New_any a0 len0 cap0 z0 200 (by omega) (by omega) _ ?hi).mono ?_
  case hi => exact HI.out.below hb1
  rintro e w2 ⟨g, rfl, hg, hcod, hb2⟩
  have hbw2 := hb1.trans (hb2.mono hb1.size)
  have hgw : w.heap.size ≤ g := by have := hb1.size; omega
  go_wp2_with fail
  refine (pairs_any g 40 (by omega) (by omega) _ hcod).mono ?_
  rintro e w3 ⟨a, cap, zs, m, rfl, hz40, hzc, hcm, hP, hPb, hzs, m0, m1, hcod3, hg3⟩
  have hbw3 : Below w.heap.size w w3 := below_grown1 hbw2 hg3 hbw2.size hgw
  have hlen : zs.length ≤ 40 := by omega
  have HZ := Lib.hid hzs
  have HP := Lib.hid hP
  clear hcod hcod3 hg3 hb1 hb2 hbw2 HI hzs hP hPb hcm
  obtain ⟨len, hlen'⟩ : ∃ len, zs.length = len := ⟨_, rfl⟩
  have HL := Lib.hid hlen'
  rw [hlen'] at hlen hzc ⊢
  clear hlen' hz40
  go_wp2_with fail
  go_loopw [7, 8, 33] (fun v7 v8 v33 wr => ∃ k : Nat, k ≤ len ∧ v33 = .int .i64 k ∧ v8 = .int .i64 (cnt (fun i => eqB (zs.getD i (0, 0))) k : Nat) ∧ wr.ownsRow w3.heap.size 55 2 v7 k (plL (swapL (zs.take k))) ∧ Below w3.heap.size w3 wr) (fun _ _ v _ => len - (intOf v).toNat)
  case atStart => exact ⟨0, by omega, rfl, rfl, World.ownsRow_nil _ _ _ _, Below.refl _ _⟩
  case round =>
    obtain ⟨k, hk, rfl, rfl, hown, hb⟩ := hrel
    have hce := cnt_le (fun i => eqB (zs.getD i (0, 0))) k
    have CE : Hid (cnt (fun i => eqB (zs.getD i (0, 0))) (k + 1) = cnt (fun i => eqB (zs.getD i (0, 0))) k + if eqB (zs.getD k (0, 0)) then 1 else 0) := rfl
    by_cases hlt : k < len
    · have hkz : k < zs.length := by have := HL.out; omega
      obtain ⟨b, off, rfl, hbl, c1, c2⟩ := HP.out k hkz
      have k1 := (hb.cell (p := ⟨b, off + k * 2, none⟩) hbl).trans c1
      have k2 := (hb.cell (p := ⟨b, off + k * 2 + 1, none⟩) hbl).trans c2
      have htk : plL (swapL (zs.take (k + 1))) = plL (swapL (zs.take k)) ++ [.int .i64 (zs.getD k (0, 0)).2, .int .i64 (zs.getD k (0, 0)).1] := by
        rw [take_one zs k hkz, show swapL (zs.take k ++ [zs.getD k (0, 0)]) = swapL (zs.take k) ++ [swapQ (zs.getD k (0, 0))] from by simp [swapL], plL_append]; rfl
      have HT := Lib.hid htk
      have heq : eqB (zs.getD k (0, 0)) = ((zs.getD k (0, 0)).1 == (zs.getD k (0, 0)).2) := rfl
      clear htk c1 c2
      generalize cnt (fun i => eqB (zs.getD i (0, 0))) k = ne at *
      generalize eqB (zs.getD k (0, 0)) = eB at *
      generalize (zs.getD k (0, 0)).1 = o at *
      generalize (zs.getD k (0, 0)).2 = n at *
      have hsz := hb.size
      have hx : some wr.heap.size ≠ u7.ownBlock := fun e => by have := (hown.lt _ e.symm).2; omega
      cases eB with
      | true =>
        have heq' : (o == n) = true := heq.symm
        clear heq
        go_wp2_with (at_builtin; refine wpList_append_own _ rfl _ _ _ rfl w3.heap.size 55 i0 _ 2 16 Try.underlying51 hi0 hz0 hz1 hz2 rfl (by omega) _ _ _ rfl ((hown.alloc _).alloc _) ⟨wr.heap.size + 1, 0, none⟩ 1 1 [.int .i64 n, .int .i64 o] rfl rfl (World.news_of_block (cs := #[.int .i64 n, .int .i64 o]) (t := 55) (fr := (0, 0)) (heap_alloc2_new wr _ _)) (by simp [Value.oneCell']) (by unfold maxLen; omega) (by omega) (by simp; omega) ?_; intro v' w4 hown4 hgrow4 _; have t0 : w4.cell? ⟨wr.heap.size, 0, none⟩ = some (.int .i64 o) := (hgrow4.cell_far _ (by simp; omega) hx).trans (by simp [go_sem]); have t1 : w4.cell? ⟨wr.heap.size, 1, none⟩ = some (.int .i64 n) := (hgrow4.cell_far _ (by simp; omega) hx).trans (by simp [go_sem]); have hb4 := ((hb.alloc hb.size (.cells #[.int .i64 o, .int .i64 n] 55)).alloc (by simp; omega) (.cells #[.int .i64 n, .int .i64 o] 55)).grown hgrow4 (by simp; omega) (fun k hk => (hown.lt k hk).1); have hown5 := hown4; rw [← HT.out] at hown5; have HO := Lib.hid hown5; clear hown4 hown5 hgrow4)
        go_roundw
        case rel => exact ⟨k + 1, by omega, by go_num, by rw [CE.out]; simp, HO.out, hb4⟩
        case measure => simp [intOf]; omega
      | false =>
        have heq' : (o == n) = false := heq.symm
        clear heq
        go_wp2_with (at_builtin; refine wpList_append_own _ rfl _ _ _ rfl w3.heap.size 55 i0 _ 2 16 Try.underlying51 hi0 hz0 hz1 hz2 rfl (by omega) _ _ _ rfl ((hown.alloc _).alloc _) ⟨wr.heap.size + 1, 0, none⟩ 1 1 [.int .i64 n, .int .i64 o] rfl rfl (World.news_of_block (cs := #[.int .i64 n, .int .i64 o]) (t := 55) (fr := (0, 0)) (heap_alloc2_new wr _ _)) (by simp [Value.oneCell']) (by unfold maxLen; omega) (by omega) (by simp; omega) ?_; intro v' w4 hown4 hgrow4 _; have t0 : w4.cell? ⟨wr.heap.size, 0, none⟩ = some (.int .i64 o) := (hgrow4.cell_far _ (by simp; omega) hx).trans (by simp [go_sem]); have t1 : w4.cell? ⟨wr.heap.size, 1, none⟩ = some (.int .i64 n) := (hgrow4.cell_far _ (by simp; omega) hx).trans (by simp [go_sem]); have hb4 := ((hb.alloc hb.size (.cells #[.int .i64 o, .int .i64 n] 55)).alloc (by simp; omega) (.cells #[.int .i64 n, .int .i64 o] 55)).grown hgrow4 (by simp; omega) (fun k hk => (hown.lt k hk).1); have hown5 := hown4; rw [← HT.out] at hown5; have HO := Lib.hid hown5; clear hown4 hown5 hgrow4)
        go_roundw
        case rel => exact ⟨k + 1, by omega, by go_num, by rw [CE.out]; simp, HO.out, hb4⟩
        case measure => simp [intOf]; omega
    · obtain rfl : k = len := by omega
      have htl : zs.take k = zs := List.take_of_length_le (by have := HL.out; omega)
      rw [htl] at hown
      obtain ⟨a', cap', rfl, hn', hcap', _, hpl', _⟩ := PairsL.of_own hown
      have hlz : zs.length = k := HL.out
      have hns : (swapL zs).length = k := hn'.symm
      have hPA : PairsAt wr a k (fun i => zs.getD i (0, 0)) := by have h := HP.out; rw [← hlz]; exact PairsAt.below (q := fun i => zs.getD i (0, 0)) h hb
      have hPT : PairsAt wr a' k (fun i => (swapL zs).getD i (0, 0)) := by rw [← hns]; exact hpl'
      have hbd : ∀ i, i < k → 1000 ≤ (zs.getD i (0, 0)).1 ∧ (zs.getD i (0, 0)).1 < 1040 ∧ 1000 ≤ (zs.getD i (0, 0)).2 ∧ (zs.getD i (0, 0)).2 < 1060 := fun i hi => by
        refine HZ.out _ ?_
        have hi' : i < zs.length := by omega
        simp [List.getD, hi']
      have hM : allM (fun i => zs.getD i (0, 0)) k := fun i hi => by have := hbd i hi; simp only [meas, decide_eq_true_eq]; omega
      have hMT : allM (fun i => (swapL zs).getD i (0, 0)) k := fun i hi => by
        have := hbd i hi
        show meas ((swapL zs).getD i (0, 0)).1 = true ∧ meas ((swapL zs).getD i (0, 0)).2 = true
        rw [swapL_get zs i (by omega)]
        exact ⟨by show meas (zs.getD i (0, 0)).2 = true; simp only [meas, decide_eq_true_eq]; omega, by show meas (zs.getD i (0, 0)).1 = true; simp only [meas, decide_eq_true_eq]; omega⟩
      obtain ⟨ht1, ht2⟩ := plain_turn m zs
      rw [hlz] at ht1 ht2
      obtain ⟨hm1, hm2⟩ := plain_more m a1 b10 (fun i => zs.getD i (0, 0)) k (fun i hi => by have := hbd i hi; omega)
      have hz3 := plain_zero (fun i => zs.getD i (0, 0)) k
      obtain ⟨nA, hA⟩ : ∃ nA, cnt (fun i => betB m (zs.getD i (0, 0))) k = nA := ⟨_, rfl⟩
      obtain ⟨nB, hB⟩ : ∃ nB, cnt (fun i => wrsB m (zs.getD i (0, 0))) k = nB := ⟨_, rfl⟩
      obtain ⟨nX, hX⟩ : ∃ nX, cnt (fun i => betB (m + a1) (zs.getD i (0, 0))) k = nX := ⟨_, rfl⟩
      obtain ⟨nY, hY⟩ : ∃ nY, cnt (fun i => wrsB (m + a1) (zs.getD i (0, 0))) k = nY := ⟨_, rfl⟩
      obtain ⟨nP, hP⟩ : ∃ nP, cnt (fun i => betB 0 (zs.getD i (0, 0))) k = nP := ⟨_, rfl⟩
      obtain ⟨nQ, hQ⟩ : ∃ nQ, cnt (fun i => wrsB 0 (zs.getD i (0, 0))) k = nQ := ⟨_, rfl⟩
      obtain ⟨nE, hE⟩ : ∃ nE, cnt (fun i => eqB (zs.getD i (0, 0))) k = nE := ⟨_, rfl⟩
      have hA60 := cnt_le (fun i => betB m (zs.getD i (0, 0))) k
      have hB60 := cnt_le (fun i => wrsB m (zs.getD i (0, 0))) k
      rw [hA] at ht2 hm1 hA60
      rw [hB] at ht1 hm2 hB60
      rw [hX] at hm1
      rw [hY] at hm2
      rw [hP, hQ, hE] at hz3
      rw [hE] at hce ⊢
      rw [hns]
      have hE3 : ((nP : Int) + (nQ : Int) + (nE : Int) == (k : Int)) = true := by simp; omega
      have HA := Lib.hid hA
      have HB := Lib.hid hB
      have HXX := Lib.hid hX
      have HY := Lib.hid hY
      have HPP := Lib.hid hP
      have HQ := Lib.hid hQ
      have HT1 := Lib.hid ht1
      have HT2 := Lib.hid ht2
      have hpq : nP ≤ k ∧ nQ ≤ k ∧ nE ≤ k := by omega
      obtain ⟨hp60, hq60, he60⟩ := hpq
      have HPA := Lib.hid hPA
      have HPT := Lib.hid hPT
      have HM := Lib.hid hM
      have HMT := Lib.hid hMT
      clear hA hB hX hY hP hQ hE ht1 ht2 hz3 hPA hPT hM hMT hbd hpl' hlz hns hn' CE hown htl
      go_wp2_with fail
      refine (Signs_in a k cap _ m m0 (by omega) (by omega) _ HPA.out HM.out).mono ?_
      rw [HA.out, HB.out]
      rintro e w4 ⟨rfl, hb4⟩
      go_wp2_with fail
      refine (Signs_in a' k cap' _ m m0 (by omega) (by omega) _ (HPT.out.below hb4) HMT.out).mono ?_
      rw [HT1.out, HT2.out]
      rintro e w5 ⟨rfl, hb5⟩
      have hb45 := hb4.trans (hb5.mono hb4.size)
      go_wp2_with fail
      refine (Signs_in a k cap _ (m + a1) (by omega) (by omega) (by omega) _ (HPA.out.below hb45) HM.out).mono ?_
      rw [HXX.out, HY.out]
      rintro e w6 ⟨rfl, hb6⟩
      have hb46 := hb45.trans (hb6.mono hb45.size)
      go_wp2_with fail
      refine (Signs_in a k cap _ 0 (by omega) (by omega) (by omega) _ (HPA.out.below hb46) HM.out).mono ?_
      rw [HPP.out, HQ.out]
      rintro e w7 ⟨rfl, hb7⟩
      have hend : Below w.heap.size w w7 := hbw3.trans ((hb.trans ((hb46.trans (hb7.mono hb46.size)).mono hb.size)).mono hbw3.size)
      clear hb4 hb5 hb6 hb7 hb45 hb46
      go_wp2_with fail
      go_ret
      exact ⟨rfl, hend⟩

/-! ### THE ROW's STEP -/
set_option maxRecDepth 100000 in
theorem lifted (os : Os) (started : os.Started) (H : Type) (enc : TypeId × Value → H) :
    ReturnsInHanded {} Try.checked os 8 .any (Rows.statisticsMarginsSpec.pre6 enc Try.prog Try.f8 Rows.statisticsMarginsRow.domain false) (Rows.statisticsMarginsSpec.post enc Try.prog Try.f8 false true false false) := by
  refine returnsInHanded_of_change (C := Try.checked) own started (by kernel_rfl) Try.func8
    (ChangeSpec.witness6 (enc := enc) (C := Try.checked) false ⟨#[], #[.slice none 0 0, .int .u8 0], []⟩ 8 (by kernel_rfl) (by kernel_rfl) (by kernel_rfl) (by kernel_rfl)) ?_
  intro W base args ds gs before hval0 hW hcnd _
  have hval : ∀ (j : Nat) t v, Try.f8.params[j]? = some t → args[j]? = some v → Value.okWide Try.prog W .any base t v := hval0
  have hW' := hW
  obtain ⟨p, q, hA0, hV, rfl, hfz, hnd⟩ := hW
  have hA : DataW.TrodAll enc Try.prog W 0 (fun _ => true) true Try.f8.params.toList args.toList ds p := hA0
  rw [Try.params8] at hA hval
  obtain ⟨v0, vs0, d0, ds0, p0, q0, hargs, rfl, rfl, h0, r0⟩ := trodAll_cons hA
  obtain ⟨v1, vs1, d1, ds1, p1, q1, rfl, rfl, rfl, h1, r1⟩ := trodAll_cons r0
  obtain ⟨rfl, rfl, rfl⟩ := trodAll_nil r1
  obtain rfl : args = #[v0, v1] := by cases args; simp_all
  obtain ⟨rfl, rfl⟩ := trodVars_none hV
  have k0 := h0
  have lt0 : ∀ x ∈ p0, x.block < W.heap.size := by obtain ⟨m, hm⟩ := k0; exact DataW.trod_lt m _ _ _ hm
  obtain ⟨a0, len0, cap0, zs0, rfl, w0⟩ := in_ints (k := .u8) Try.underlying31 Try.underlying5 (by kernel_rfl) (hval 0 31 v0 rfl rfl) h0
  obtain ⟨a1, rfl, rfl, rfl, w1⟩ := open_int Try.underlying5 (hval 1 5 v1 rfl rfl) h1
  clear hA0 hval0
  refine (walk a0 len0 cap0 zs0 a1 W w0 w1).mono fun e W' ⟨he, bel⟩ => ?_
  subst he
  exact ⟨_, rfl, _, _, _, [], _, [], hW', trodAll_mk1 (shut_bool Try.underlying4 _), (trodAll_cons_mk (Below.trod laidOut (by kernel_rfl) (of_decide_eq_true (by kernel_rfl)) k0 bel lt0) (trodAll_cons_mk (shut_int Try.underlying5 w1) trodAll_mk0)), rfl, bel.frame _, fun h => by cases h⟩

theorem over : Rows.statisticsMarginsRow.holds Try.pinned (OpenSpec.ofChange Rows.statisticsMarginsSpec) :=
  OpenClaim.holds_of_wide 8 Try.f8 rfl rfl rfl rfl rfl rfl rfl ⟨rfl, rfl, rfl, rfl, rfl⟩ rfl rfl rfl rfl rfl (by kernel_rfl) Try.func8 (by kernel_rfl)
    (of_decide_eq_true (by kernel_rfl)) (by unfold Func.isWrapper; first | (rw [if_pos (by decide +kernel)]; kernel_rfl) | (rw [if_neg (by decide +kernel)]; exact ⟨rfl, rfl⟩))
    (fun os started H enc _ => lifted os started H enc)

/-- the statement -/
theorem proved : Rows.StatisticsMarginsSaid := over
#print axioms proved
end Go.Proofs.Ytjlalilhmadmcaa.statisticsMargins
