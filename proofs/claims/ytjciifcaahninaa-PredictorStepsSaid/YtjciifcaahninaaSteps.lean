/-
  What is proved: for every codes the law PredictorSteps of chapter 16 (predictor) returns true: counting is predicting and updating, branch by branch. No conditions.
-/
import Derived.Test.YtjciifcaahninaaAwake
namespace Go.Proofs.Ytjciifcaahninaa.predictorSteps
open Go.ChangeShapes Go.WideShapes Go.ChangeAt Go.RowKit
set_option linter.unusedVariables false

theorem own : ownKnob Try.prog.godebug = none := by kernel_rfl
theorem laidOut : laidOutB Try.prog = true := by kernel_rfl

theorem wrong_le (n : Int) (l : List Fet) : (counted n l).2 ≤ (counted n l).1 := by
  show tru (run (newT n) l).2 ≤ brs l
  suffices h : ∀ r : List Fet, tru (run (newT n) r.reverse).2 ≤ brs r.reverse by simpa using h l.reverse
  intro r
  induction r with
  | nil => exact Nat.le_refl _
  | cons f r ih =>
    rw [List.reverse_cons, run_snoc, brs_snoc]
    generalize r.reverse = l at *
    by_cases hb : 0 < (run (newT n) l).1.length ∧ br f = true
    · rw [stp_yes hb.1 hb.2, hb.2]
      show tru (_ ++ _) ≤ _
      rw [tru_snoc]; simp only [if_true]; split <;> omega
    · have : stp (run (newT n) l) f = ((run (newT n) l).1, (run (newT n) l).2 ++ [false]) := by unfold stp; rw [if_neg hb]
      rw [this]
      show tru (_ ++ _) ≤ _
      rw [tru_snoc]; simp only [Bool.false_eq_true, if_false]; omega
theorem predQ {w : World} {n : Nat} {ta : Option Addr} {tcap : Nat} {t : List Int} {y : Int} {p : Bool} (hy : 0 ≤ y) (hl : t.length = n + 1) (hc : Cells w ta (ints t)) (hp : prd t y = p) (x : Since w) (hn : n + 1 ≤ 4096) :
    Calls Try.prog 16 #[.slice ta (n + 1) tcap, .int .i64 y] x.val fun e w' => e = .returned (.bool p) ∧ w' = x.val :=
  (Predict_any ta (n + 1) tcap t y hy hl (by omega) hn x.val (hc.below x.property)).mono fun e w' ⟨h1, h2⟩ => ⟨by rw [h1, hp], h2.symm⟩
set_option maxRecDepth 100000 in
set_option maxHeartbeats 4000000 in
theorem walk (a0 : Option Addr) (len0 cap0 : Nat) (z0 : List Int) (w : World) (w0 : InInts .u8 w a0 len0 cap0 z0) :
    Calls Try.prog 5 #[.slice a0 len0 cap0] w fun e w' => e = .returned (.bool true) ∧ Below w.heap.size w w' := by
  have HI := Lib.hid w0
  clear w0
  go_enter Try.func5, Try.ntmps5
  go_wp2_with fail
  refine (awake_any _).mono ?_
  rintro e w1 ⟨rfl, hb1⟩
  go_wp2_with fail
  refine (New_any a0 len0 cap0 z0 300 (by omega) (by omega) _ (HI.out.below hb1)).mono ?_
  rintro e w2 ⟨g, rfl, hg, hcod, hb2⟩
  have hbw2 := hb1.trans (hb2.mono hb1.size)
  have hgw : w.heap.size ≤ g := by have := hb1.size; omega
  go_wp2_with fail
  refine (Next_any g 12 (by omega) _ hcod).mono ?_
  rintro e w3 ⟨n, rfl, n0, n1, hcod3, hg3⟩
  have hbw3 := below_grown1 hbw2 hg3 hbw2.size hgw
  have hgw3 := hbw3.size
  clear hb1 hb2 hcod hg3 hbw2
  go_wp2_with fail
  refine (Trace_any g 50 (by omega) (by omega) _ hcod3).mono ?_
  rintro e w4 ⟨a, cap, l, rfl, hl50, hlc, hcm, hcell, hba, hok, hcod4, hg4⟩
  have hbw4 := below_grown1 hbw3 hg4 hbw3.size hgw
  clear hcod3 hcod4 hg4 hbw3
  obtain ⟨n, rfl⟩ : ∃ m : Nat, n = (m : Int) := ⟨n.toNat, by omega⟩
  obtain ⟨len, hlen⟩ : ∃ len, l.length = len := ⟨_, rfl⟩
  have HL := Lib.hid hlen
  have HC := Lib.hid hcell
  have HOK := Lib.hid hok
  rw [hlen] at hl50 hlc ⊢
  clear hlen hcell hok
  go_wp2_with fail
  refine (New_any2 _ _).mono ?_
  rintro e w5 ⟨v, rfl, hown, hb5⟩
  obtain ⟨ta, tcap, rfl, _, htc, htm, hT0, _⟩ := Cells.of_own hown
  obtain ⟨T, hT⟩ : ∃ T, newT (1 + (n : Int)) = T := ⟨_, rfl⟩
  have htn : T.length = n + 1 := by rw [← hT, newT_len, if_pos (by omega)]; omega
  have hTab : Tab T := by rw [← hT]; exact newT_tab _
  rw [hT] at hT0 htc ⊢
  rw [htn] at htc ⊢
  have HT0 := Lib.hid hT0
  have HTN := Lib.hid htn
  have HTab := Lib.hid hTab
  have HT := Lib.hid hT
  have hsz5 := hb5.size
  clear hown hT0 htn hTab hT
  go_wp2_with fail
  go_loopw [6, 7, 8, 9] (fun v6 v7 v8 v9 wr => ∃ (k : Nat) (ta : Option Addr) (tcap : Nat), k ≤ len ∧ v9 = .int .i64 k ∧ v7 = .int .i64 (brs (l.take k) : Nat) ∧ v8 = .int .i64 (tru (run T (l.take k)).2 : Nat) ∧ v6 = .slice ta (n + 1) tcap ∧ Cells wr ta (ints (run T (l.take k)).1) ∧ Below w5.heap.size w5 wr) (fun _ _ _ v _ => len - (intOf v).toNat)
  case atStart => exact ⟨0, ta, tcap, by omega, rfl, rfl, rfl, rfl, HT0.out, Below.refl _ _⟩
  case round =>
    clear htc htm HT0
    obtain ⟨k, ta, tcap, hk, rfl, rfl, rfl, rfl, hcT, hb⟩ := hrel
    have hszr := hb.size
    have hbr := brs_le (l.take k)
    have htr := tru_le (run T (l.take k)).2
    rw [(run_len _ _).2] at htr
    rw [List.length_take] at hbr htr
    obtain ⟨B, hB⟩ : ∃ B, brs (l.take k) = B := ⟨_, rfl⟩
    obtain ⟨W, hW⟩ : ∃ W, tru (run T (l.take k)).2 = W := ⟨_, rfl⟩
    rw [hB] at hbr ⊢
    rw [hW] at htr ⊢
    have HB := Lib.hid hB
    have HW := Lib.hid hW
    have hB50 : B ≤ 50 := by omega
    have hW50 : W ≤ 50 := by omega
    by_cases hlt : k < len
    · have hkl : k < l.length := by have := HL.out; omega
      obtain ⟨b, off, rfl, hbl, hcel⟩ := HC.out.fet k hkl
      obtain ⟨c0, c1, c2⟩ := hcel k hkl
      have hbb := hb5.trans (hb.mono hb5.size)
      replace c0 := (hbb.cell (p := ⟨b, off + k * 3, none⟩) hbl).trans c0
      replace c2 := (hbb.cell (p := ⟨b, off + k * 3 + 2, none⟩) hbl).trans c2
      have hbl2 : b < wr.heap.size := by have := hbb.size; omega
      have hok := HOK.out.get k
      have h1 := brs_snoc (l.take k) (l.getD k (0, 0, 0))
      rw [← take_snoc l k (0, 0, 0) hkl] at h1
      have hst := run_take T l k hkl
      obtain ⟨S, hS⟩ : ∃ S, run T (l.take k) = S := ⟨_, rfl⟩
      obtain ⟨hl1, _⟩ := run_len T (l.take k)
      have hT1 := run_tab HTab.out (l.take k)
      have hw1 := HW.out
      rw [hS] at hst hl1 hT1 hcT hw1
      rw [HTN.out] at hl1
      obtain ⟨⟨y, s, q⟩, hf⟩ : ∃ f, l.getD k (0, 0, 0) = f := ⟨_, rfl⟩
      rw [hf] at hst c0 c2 hok h1
      obtain ⟨t1, o1⟩ := S
      simp only at hl1 hT1 c0 c2 hok hcT hw1
      obtain ⟨y0, y1, q0, q1⟩ := hok
      rw [HB.out] at h1
      have H1 := Lib.hid h1
      have HST := Lib.hid hst
      have HT1 := Lib.hid hT1
      have HL1 := Lib.hid hl1
      have HCT := Lib.hid hcT
      have HW1 := Lib.hid hw1
      clear hcel hS hf hst hT1 h1 hl1 hcT hB hW hw1 c1 HW HB hbr htr
      by_cases hno : q ≠ 1 ∧ q ≠ 2
      · obtain ⟨hq1, hq2⟩ := hno
        have hst2 : run T (l.take (k + 1)) = (t1, o1 ++ [false]) := by
          rw [HST.out]; exact stp_no (.inr (by simp [br, hq1, hq2]))
        have HS2 := Lib.hid hst2
        have hb2 : brs (l.take (k + 1)) = B := by rw [H1.out]; simp [br, hq1, hq2]
        have HB2 := Lib.hid hb2
        have e1 : (q != 1) = true := by simpa using hq1
        have e2 : (q != 2) = true := by simpa using hq2
        clear hst2 hq1 hq2 hb2
        go_wp2_with fail
        go_roundw
        case rel => exact ⟨k + 1, ta, tcap, by omega, by go_num, by rw [HB2.out], by rw [HS2.out]; show _ = Value.int .i64 ((tru (o1 ++ [false]) : Nat) : Int); rw [tru_snoc, HW1.out]; rfl, rfl, by rw [HS2.out]; exact HCT.out, hb⟩
        case measure => simp [intOf]; omega
      · have hq2 : q = 1 ∨ q = 2 := by omega
        clear hno
        have i0 : (0 : Int) ≤ (k : Int) := by omega
        have i1 : (k : Int) < (len : Int) := by omega
        obtain ⟨p, hp⟩ : ∃ p, prd t1 y = p := ⟨_, rfl⟩
        have HP := Lib.hid hp
        clear hp
        rcases hq2 with rfl | rfl
        · have hst2 : run T (l.take (k + 1)) = (upd t1 y true, o1 ++ [prd t1 y != true]) := by
            rw [HST.out]; exact stp_yes (show 0 < t1.length by have := HL1.out; omega) rfl
          have HS2 := Lib.hid hst2
          have hb2 : brs (l.take (k + 1)) = B + 1 := by rw [H1.out]; rfl
          have HB2 := Lib.hid hb2
          clear hst2 hb2
          cases p
          all_goals
            go_wp2_with fail
            refine wp_region_below (by kernel_rfl) (by kernel_rfl) ?_
            have s0 : ∀ x : Since wr, x.val.cell? ⟨b, off + k * 3, none⟩ = some (.int .i64 y) := fun x => (x.property.cell (p := ⟨b, off + k * 3, none⟩) hbl2).trans c0
            have s2 : ∀ x : Since wr, x.val.cell? ⟨b, off + k * 3 + 2, none⟩ = some (.int .i64 1) := fun x => (x.property.cell (p := ⟨b, off + k * 3 + 2, none⟩) hbl2).trans c2
            repeat (go_big_quiet_step ((first | (go_at_call 16; exact calls_since_same _ (predQ y0 HL1.out HCT.out HP.out _ (by omega))))))
            refine wpQuiet_nil ?_
            intro w6 hb6
            clear s0 s2
            have k0 := (hb6.cell (p := ⟨b, off + k * 3, none⟩) hbl2).trans c0
            have k2 := (hb6.cell (p := ⟨b, off + k * 3 + 2, none⟩) hbl2).trans c2
            go_wp2_with fail
            go_still_tail 12, (by kernel_rfl)
            change wpList _ _ _ _ _ w6.drew
            go_wp2_with fail
            refine (Update_any ta (n + 1) tcap t1 y true y0 HL1.out (by omega) (by omega) HT1.out _ (HCT.out.below hb6.drew)).mono ?_
            rintro e w7 ⟨ta', cap', rfl, _, _, hcell, hb7⟩
            have HC7 := Lib.hid hcell
            rw [upd_len, HL1.out]
            have hbn := hb.trans ((hb6.drew.trans (hb7.mono hb6.drew.size)).mono hszr)
            clear hcell hb7 hb6 k0 k2
            go_wp2_with fail
            go_roundw
            case rel => exact ⟨k + 1, ta', cap', by omega, by go_num, by rw [HB2.out]; go_num, by rw [HS2.out]; show _ = Value.int .i64 ((tru (o1 ++ [prd t1 y != true]) : Nat) : Int); rw [tru_snoc, HW1.out, HP.out]; rfl, rfl, by rw [HS2.out]; exact HC7.out, hbn⟩
            case measure => simp [intOf]; omega
        · have hst2 : run T (l.take (k + 1)) = (upd t1 y false, o1 ++ [prd t1 y != false]) := by
            rw [HST.out]; exact stp_yes (show 0 < t1.length by have := HL1.out; omega) rfl
          have HS2 := Lib.hid hst2
          have hb2 : brs (l.take (k + 1)) = B + 1 := by rw [H1.out]; rfl
          have HB2 := Lib.hid hb2
          clear hst2 hb2
          cases p
          all_goals
            go_wp2_with fail
            refine wp_region_below (by kernel_rfl) (by kernel_rfl) ?_
            have s0 : ∀ x : Since wr, x.val.cell? ⟨b, off + k * 3, none⟩ = some (.int .i64 y) := fun x => (x.property.cell (p := ⟨b, off + k * 3, none⟩) hbl2).trans c0
            have s2 : ∀ x : Since wr, x.val.cell? ⟨b, off + k * 3 + 2, none⟩ = some (.int .i64 2) := fun x => (x.property.cell (p := ⟨b, off + k * 3 + 2, none⟩) hbl2).trans c2
            repeat (go_big_quiet_step ((first | (go_at_call 16; exact calls_since_same _ (predQ y0 HL1.out HCT.out HP.out _ (by omega))))))
            refine wpQuiet_nil ?_
            intro w6 hb6
            clear s0 s2
            have k0 := (hb6.cell (p := ⟨b, off + k * 3, none⟩) hbl2).trans c0
            have k2 := (hb6.cell (p := ⟨b, off + k * 3 + 2, none⟩) hbl2).trans c2
            go_wp2_with fail
            go_still_tail 12, (by kernel_rfl)
            change wpList _ _ _ _ _ w6.drew
            go_wp2_with fail
            refine (Update_any ta (n + 1) tcap t1 y false y0 HL1.out (by omega) (by omega) HT1.out _ (HCT.out.below hb6.drew)).mono ?_
            rintro e w7 ⟨ta', cap', rfl, _, _, hcell, hb7⟩
            have HC7 := Lib.hid hcell
            rw [upd_len, HL1.out]
            have hbn := hb.trans ((hb6.drew.trans (hb7.mono hb6.drew.size)).mono hszr)
            clear hcell hb7 hb6 k0 k2
            go_wp2_with fail
            go_roundw
            case rel => exact ⟨k + 1, ta', cap', by omega, by go_num, by rw [HB2.out]; go_num, by rw [HS2.out]; show _ = Value.int .i64 ((tru (o1 ++ [prd t1 y != false]) : Nat) : Int); rw [tru_snoc, HW1.out, HP.out]; rfl, rfl, by rw [HS2.out]; exact HC7.out, hbn⟩
            case measure => simp [intOf]; omega
    · obtain rfl : k = len := by omega
      have htl : l.take k = l := List.take_of_length_le (by have := HL.out; omega)
      have e1 : (counted (1 + (n : Int)) l).1 = B := by rw [← HB.out, htl]; rfl
      have e2 : (counted (1 + (n : Int)) l).2 = W := by rw [← HW.out, htl, ← HT.out]; rfl
      have hle : W ≤ B := by rw [← e1, ← e2]; exact wrong_le _ l
      have E1 := Lib.hid e1
      have E2 := Lib.hid e2
      have hbb := hb5.trans (hb.mono hb5.size)
      clear e1 e2 hB hW
      go_wp2_with fail
      refine (Count_any _ a k cap l HL.out (by omega) HOK.out _ (HC.out.below hbb)).mono ?_
      rintro e w7 ⟨he, hb7⟩
      rw [E1.out, E2.out] at he
      subst he
      have hd : decide ((W : Int) ≤ (B : Int)) = true := by simp; omega
      have hfin := hbw4.trans ((hbb.trans (hb7.mono hbb.size)).mono hbw4.size)
      clear hb7
      go_wp2_with fail
      go_ret
      exact ⟨rfl, hfin⟩

/-! ### THE ROW's STEP -/
set_option maxRecDepth 100000 in
theorem lifted (os : Os) (started : os.Started) (H : Type) (enc : TypeId × Value → H) :
    ReturnsInHanded {} Try.checked os 5 .any (Rows.predictorStepsSpec.pre6 enc Try.prog Try.f5 Rows.predictorStepsRow.domain false) (Rows.predictorStepsSpec.post enc Try.prog Try.f5 false true false false) := by
  refine returnsInHanded_of_change (C := Try.checked) own started (by kernel_rfl) Try.func5
    (ChangeSpec.witness6 (enc := enc) (C := Try.checked) false ⟨#[], #[.slice none 0 0], []⟩ 8 (by kernel_rfl) (by kernel_rfl) (by kernel_rfl) (by kernel_rfl)) ?_
  intro W base args ds gs before hval0 hW hcnd _
  have hval : ∀ (j : Nat) t v, Try.f5.params[j]? = some t → args[j]? = some v → Value.okWide Try.prog W .any base t v := hval0
  have hW' := hW
  obtain ⟨p, q, hA0, hV, rfl, hfz, hnd⟩ := hW
  have hA : DataW.TrodAll enc Try.prog W 0 (fun _ => true) true Try.f5.params.toList args.toList ds p := hA0
  rw [Try.params5] at hA hval
  obtain ⟨v0, vs0, d0, ds0, p0, q0, hargs, rfl, rfl, h0, r0⟩ := trodAll_cons hA
  obtain ⟨rfl, rfl, rfl⟩ := trodAll_nil r0
  obtain rfl : args = #[v0] := by cases args; simp_all
  obtain ⟨rfl, rfl⟩ := trodVars_none hV
  have k0 := h0
  have lt0 : ∀ x ∈ p0, x.block < W.heap.size := by obtain ⟨m, hm⟩ := k0; exact DataW.trod_lt m _ _ _ hm
  obtain ⟨a0, len0, cap0, zs0, rfl, w0⟩ := in_ints (k := .u8) Try.underlying22 Try.underlying5 (by kernel_rfl) (hval 0 22 v0 rfl rfl) h0
  clear hA0 hval0
  refine (walk a0 len0 cap0 zs0 W w0).mono fun e W' ⟨he, bel⟩ => ?_
  subst he
  exact ⟨_, rfl, _, _, _, [], _, [], hW', trodAll_mk1 (shut_bool Try.underlying4 _), (trodAll_cons_mk (Below.trod laidOut (by kernel_rfl) (of_decide_eq_true (by kernel_rfl)) k0 bel lt0) trodAll_mk0), rfl, bel.frame _, fun h => by cases h⟩

theorem over : Rows.predictorStepsRow.holds Try.pinned (OpenSpec.ofChange Rows.predictorStepsSpec) :=
  OpenClaim.holds_of_wide 5 Try.f5 rfl rfl rfl rfl rfl rfl rfl ⟨rfl, rfl, rfl, rfl, rfl⟩ rfl rfl rfl rfl rfl (by kernel_rfl) Try.func5 (by kernel_rfl)
    (of_decide_eq_true (by kernel_rfl)) (by unfold Func.isWrapper; first | (rw [if_pos (by decide +kernel)]; kernel_rfl) | (rw [if_neg (by decide +kernel)]; exact ⟨rfl, rfl⟩))
    (fun os started H enc _ => lifted os started H enc)

/-- the statement -/
theorem proved : Rows.PredictorStepsSaid := over
#print axioms proved
end Go.Proofs.Ytjciifcaahninaa.predictorSteps
