/-
  What is proved: for every codes, taken and times the law PredictorSteady of chapter 16 (predictor) returns true: a branch that always goes one way is predicted wrong at most twice, from any table, and a branch that alternates at least every second time from a new one. No conditions.
-/
import Derived.Test.YtjciifcaahninaaAwake
namespace Go.Proofs.Ytjciifcaahninaa.predictorSteady
open Go.ChangeShapes Go.WideShapes Go.ChangeAt Go.RowKit
set_option linter.unusedVariables false

theorem own : ownKnob Try.prog.godebug = none := by kernel_rfl
theorem laidOut : laidOutB Try.prog = true := by kernel_rfl

/-- of a branch that always goes one way: how often it was predicted wrong, and its counter -/
def Inv (tk : Bool) (c : Int) (wrong : Nat) : Prop := wrong ≤ 2 ∧ if tk then (wrong : Int) ≤ c else (wrong : Int) ≤ 3 - c
theorem Inv.zero {t : List Int} (hT : Tab t) (tk : Bool) : Inv tk (t.getD (at_ t 5) 0) 0 := by
  have := hT.get (at_ t 5)
  unfold Inv
  generalize t.getD (at_ t 5) 0 = c at *
  cases tk <;> simp <;> omega
theorem Inv.step {t : List Int} (hT : Tab t) (h0 : 0 < t.length) {tk : Bool} {wrong : Nat} (h : Inv tk (t.getD (at_ t 5) 0) wrong) :
    Inv tk ((upd t 5 tk).getD (at_ (upd t 5 tk) 5) 0) (wrong + if (prd t 5 != tk) = true then 1 else 0) := by
  have hl := upd_len t 5 tk
  have ha : at_ (upd t 5 tk) 5 = at_ t 5 := by unfold at_; rw [hl]
  have hlt := at_lt (a := 5) h0
  have hg : (upd t 5 tk).getD (at_ t 5) 0 = aft (t.getD (at_ t 5) 0) tk := by unfold upd; simp [List.getD, hlt]
  have hb := hT.get (at_ t 5)
  rw [ha, hg]
  unfold prd
  generalize t.getD (at_ t 5) 0 = c at *
  unfold Inv aft at *
  cases tk
  · by_cases hc : 2 ≤ c <;> simp [hc] at h ⊢ <;> omega
  · by_cases hc : 2 ≤ c <;> simp [hc] at h ⊢ <;> omega
def alt (n : Nat) : List Fet := (List.range n).map fun (k : Nat) => ((0, 2, 1 + ((k : Nat) : Int) % 2) : Fet)
theorem alt_succ (n : Nat) : alt (n + 1) = alt n ++ [(0, 2, 1 + (n : Int) % 2)] := by simp [alt, List.range_succ]
theorem alt_len (n : Nat) : (alt n).length = n := by simp [alt]
theorem alt_ok (n : Nat) : FetOk (alt n) := by
  intro f hf
  simp [alt] at hf
  obtain ⟨k, _, rfl⟩ := hf
  simp; omega
theorem alt_wrong : ∀ n, n < 40 → n ≤ 2 * (counted 4 (alt n)).2 := by decide +kernel

set_option maxRecDepth 100000 in
set_option maxHeartbeats 4000000 in
theorem walk (a0 : Option Addr) (len0 cap0 : Nat) (z0 : List Int) (tk : Bool) (a2 : Int) (w : World) (w0 : InInts .u8 w a0 len0 cap0 z0) (w2 : (Lit.int .u8 a2).wf = true) :
    Calls Try.prog 6 #[.slice a0 len0 cap0, .bool tk, .int .u8 a2] w fun e w' => e = .returned (.bool true) ∧ Below w.heap.size w w' := by
  obtain ⟨b20, b21⟩ := bounds_u8 w2
  obtain ⟨i0, hi0, hz0, hz1, hz2⟩ := info_parts Try.info32
  have HI := Lib.hid w0
  clear w0 w2
  have hm0 := Int.emod_nonneg a2 (b := 40) (by omega)
  have hm1 := Int.emod_lt_of_pos a2 (b := 40) (by omega)
  obtain ⟨N, hN⟩ : ∃ N : Nat, a2 % 40 = (N : Int) := ⟨(a2 % 40).toNat, by omega⟩
  have hN40 : N < 40 := by omega
  go_enter Try.func6, Try.ntmps6
  go_wp2_with fail
  refine (awake_any _).mono ?_
  rintro e w1 ⟨rfl, hb1⟩
  go_wp2_with fail
  refine (New_any a0 len0 cap0 z0 20 (by omega) (by omega) _ (HI.out.below hb1)).mono ?_
  rintro e w2 ⟨g, rfl, hg, hcod, hb2⟩
  have hbw2 := hb1.trans (hb2.mono hb1.size)
  have hgw : w.heap.size ≤ g := by have := hb1.size; omega
  go_wp2_with fail
  refine (table_any g _ hcod).mono ?_
  rintro e w3 ⟨ta, cap, t, rfl, ht1, ht8, htc, htm, hcell, hba, hTab, hcod3, hg3⟩
  have hbw3 := below_grown1 hbw2 hg3 hbw2.size hgw
  clear hb1 hb2 hcod hg3 hbw2 hcod3
  obtain ⟨tn, htn⟩ : ∃ tn, t.length = tn := ⟨_, rfl⟩
  rw [htn] at ht1 ht8 htc ⊢
  have HN := Lib.hid hN
  go_wp2_with fail
  go_loopw [7, 8, 9] (fun v7 v8 v9 wr => ∃ (k wrong : Nat) (t : List Int) (ta : Option Addr) (cap : Nat), k ≤ N ∧ v9 = .int .i64 k ∧ v8 = .int .i64 wrong ∧ v7 = .slice ta tn cap ∧ t.length = tn ∧ Cells wr ta (ints t) ∧ Tab t ∧ Inv tk (t.getD (at_ t 5) 0) wrong ∧ Below w3.heap.size w3 wr) (fun _ _ v _ => N - (intOf v).toNat)
  case atStart => exact ⟨0, 0, t, ta, cap, by omega, rfl, rfl, rfl, htn, hcell, hTab, Inv.zero hTab tk, Below.refl _ _⟩
  case round =>
    clear hcell hTab htn
    obtain ⟨k, wrong, t, ta, cap, hk, rfl, rfl, rfl, htn, hcell, hTab, hinv, hb⟩ := hrel
    have HC := Lib.hid hcell
    have HT := Lib.hid hTab
    have HTN := Lib.hid htn
    have HV := Lib.hid hinv
    have hw2 := hinv.1
    have hst := hinv.step hTab (by omega)
    have HST := Lib.hid hst
    clear hcell hTab hinv hst htn
    by_cases hlt : k < N
    · obtain ⟨p, hp⟩ : ∃ p, prd t 5 = p := ⟨_, rfl⟩
      have HP := Lib.hid hp
      have hkd : decide ((k : Int) < a2 % 40) = true := by rw [hN]; simp; omega
      cases p
      all_goals
        cases tk
        all_goals
          go_wp2_with fail
          refine (Predict_any ta tn cap t 5 (by omega) HTN.out ht1 (by omega) _ HC.out).mono ?_
          rw [HP.out]
          rintro e w4 ⟨rfl, rfl⟩
          go_wp2_with fail
          refine (Update_any ta tn cap t 5 _ (by omega) HTN.out ht1 (by omega) HT.out _ HC.out).mono ?_
          rintro e w5 ⟨ta', cap', rfl, hc1, hc2, hcell, hb5⟩
          have hst := HST.out
          rw [HP.out] at hst
          have HST' := Lib.hid hst
          have HC' := Lib.hid hcell
          have hln := upd_len t 5 
          rw [hln, HTN.out]
          clear hst hcell hln hc1 hc2
          go_wp2_with fail
          go_roundw
          case rel => exact ⟨k + 1, _, upd t 5 _, ta', cap', by omega, by go_num, rfl, rfl, by rw [upd_len]; exact HTN.out, HC'.out, HT.out.upd _ _, HST'.out, hb.trans (hb5.mono hb.size)⟩
          case measure => simp [intOf]; omega
    · obtain rfl : k = N := by omega
      obtain ⟨wo, rfl⟩ : ∃ wo : World, wo = wr := ⟨_, rfl⟩
      have hkd : decide ((k : Int) < a2 % 40) = false := by rw [hN]; simp
      have hend := hbw3.trans (hb.mono hbw3.size)
      have HE := Lib.hid hend
      have hszr := hend.size
      clear hN hb hend
      go_wp2_with fail
      go_loopw [11, 12] (fun v11 v12 w' => ∃ j : Nat, j ≤ k ∧ v12 = .int .i64 j ∧ w'.ownsRow wo.heap.size 32 3 v11 j (fcs (alt j)) ∧ Below wo.heap.size wo w') (fun _ v _ => k - (intOf v).toNat)
      case atStart => exact ⟨0, by omega, rfl, World.ownsRow_nil _ _ _ _, Below.refl _ _⟩
      case round =>
        obtain ⟨j, hj, rfl, hown, hbj⟩ := hrel
        have hszj := hbj.size
        by_cases hlt2 : j < k
        · have hjd : decide ((j : Int) < a2 % 40) = true := by rw [HN.out]; simp; omega
          have ht : fcs (alt (j + 1)) = fcs (alt j) ++ [.int .i64 0, .int .i64 2, .int .i64 (1 + (j : Int) % 2)] := by rw [alt_succ, fcs_append]; rfl
          have HT := Lib.hid ht
          clear ht
          have hj0 := Int.emod_nonneg (j : Int) (b := 2) (by omega)
          have hj1 := Int.emod_lt_of_pos (j : Int) (b := 2) (by omega)
          go_wp2_with (at_builtin; refine wpList_append_own _ rfl _ _ _ rfl wo.heap.size 32 i0 _ 3 24 Try.underlying27 hi0 hz0 hz1 hz2 rfl (by omega) _ _ _ rfl (hown.alloc _) ⟨wr.heap.size, 0, none⟩ 1 1 [.int .i64 0, .int .i64 2, .int .i64 (1 + (j : Int) % 2)] rfl rfl (World.news_of_block (cs := #[.int .i64 0, .int .i64 2, .int .i64 (1 + (j : Int) % 2)]) (t := 32) (fr := (0, 0)) (heap_alloc_new wr _)) (by simp [Value.oneCell']) (by unfold maxLen; omega) (by omega) (by simp; omega) ?_; intro v' w7 hown7 hgrow7 _)
          have hb7 := (hbj.alloc hbj.size (.cells #[.int .i64 0, .int .i64 2, .int .i64 (1 + (j : Int) % 2)] 32)).grown hgrow7 (by simp; omega) (fun k hk => (hown.lt k hk).1)
          rw [← HT.out] at hown7
          have HO := Lib.hid hown7
          clear hown7 hgrow7 hown
          go_wp2_with fail
          go_roundw
          case rel => exact ⟨j + 1, by omega, by go_num, HO.out, hb7⟩
          case measure => simp [intOf]; omega
        · obtain rfl : j = k := by omega
          obtain ⟨pa, pcap, rfl, _, hpc, hpm, hpcell, _⟩ := Cells.of_own hown
          have HPC := Lib.hid hpcell
          have hcw := alt_wrong j hN40
          have hcl : (counted 4 (alt j)).2 ≤ j := by
            have := tru_le (run (newT 4) (alt j)).2; rw [(run_len _ _).2, alt_len] at this; exact this
          clear hpcell hown
          go_wp2_with fail
          refine (Count_any 4 pa j pcap (alt j) (alt_len j) (by omega) (alt_ok j) _ HPC.out).mono ?_
          rintro e w7 ⟨rfl, hb7⟩
          generalize (counted 4 (alt j)).2 = c2 at *
          generalize (counted 4 (alt j)).1 = c1 at *
          have hd1 : decide (wrong ≤ 2) = true := by simp; omega
          have hd2 : decide ((wrong : Int) ≤ 2) = true := by simp; omega
          have hd3 : decide (a2 % 40 ≤ 2 * (c2 : Int)) = true := by rw [HN.out]; simp; omega
          have hfin := HE.out.trans ((hbj.trans (hb7.mono hbj.size)).mono hszr)
          clear hb7 hbj
          go_wp2_with fail
          go_ret
          exact ⟨rfl, hfin⟩

/-! ### THE ROW's STEP -/
set_option maxRecDepth 100000 in
theorem lifted (os : Os) (started : os.Started) (H : Type) (enc : TypeId × Value → H) :
    ReturnsInHanded {} Try.checked os 6 .any (Rows.predictorSteadySpec.pre6 enc Try.prog Try.f6 Rows.predictorSteadyRow.domain false) (Rows.predictorSteadySpec.post enc Try.prog Try.f6 false true false false) := by
  refine returnsInHanded_of_change (C := Try.checked) own started (by kernel_rfl) Try.func6
    (ChangeSpec.witness6 (enc := enc) (C := Try.checked) false ⟨#[], #[.slice none 0 0, .bool false, .int .u8 0], []⟩ 8 (by kernel_rfl) (by kernel_rfl) (by kernel_rfl) (by kernel_rfl)) ?_
  intro W base args ds gs before hval0 hW hcnd _
  have hval : ∀ (j : Nat) t v, Try.f6.params[j]? = some t → args[j]? = some v → Value.okWide Try.prog W .any base t v := hval0
  have hW' := hW
  obtain ⟨p, q, hA0, hV, rfl, hfz, hnd⟩ := hW
  have hA : DataW.TrodAll enc Try.prog W 0 (fun _ => true) true Try.f6.params.toList args.toList ds p := hA0
  rw [Try.params6] at hA hval
  obtain ⟨v0, vs0, d0, ds0, p0, q0, hargs, rfl, rfl, h0, r0⟩ := trodAll_cons hA
  obtain ⟨v1, vs1, d1, ds1, p1, q1, rfl, rfl, rfl, h1, r1⟩ := trodAll_cons r0
  obtain ⟨v2, vs2, d2, ds2, p2, q2, rfl, rfl, rfl, h2, r2⟩ := trodAll_cons r1
  obtain ⟨rfl, rfl, rfl⟩ := trodAll_nil r2
  obtain rfl : args = #[v0, v1, v2] := by cases args; simp_all
  obtain ⟨rfl, rfl⟩ := trodVars_none hV
  have k0 := h0
  have lt0 : ∀ x ∈ p0, x.block < W.heap.size := by obtain ⟨m, hm⟩ := k0; exact DataW.trod_lt m _ _ _ hm
  obtain ⟨a0, len0, cap0, zs0, rfl, w0⟩ := in_ints (k := .u8) Try.underlying22 Try.underlying5 (by kernel_rfl) (hval 0 22 v0 rfl rfl) h0
  obtain ⟨a1, rfl, rfl, rfl⟩ := open_bool Try.underlying4 (hval 1 4 v1 rfl rfl) h1
  obtain ⟨a2, rfl, rfl, rfl, w2⟩ := open_int Try.underlying5 (hval 2 5 v2 rfl rfl) h2
  clear hA0 hval0
  refine (walk a0 len0 cap0 zs0 a1 a2 W w0 w2).mono fun e W' ⟨he, bel⟩ => ?_
  subst he
  exact ⟨_, rfl, _, _, _, [], _, [], hW', trodAll_mk1 (shut_bool Try.underlying4 _), (trodAll_cons_mk (Below.trod laidOut (by kernel_rfl) (of_decide_eq_true (by kernel_rfl)) k0 bel lt0) (trodAll_cons_mk (shut_bool Try.underlying4 a1) (trodAll_cons_mk (shut_int Try.underlying5 w2) trodAll_mk0))), rfl, bel.frame _, fun h => by cases h⟩

theorem over : Rows.predictorSteadyRow.holds Try.pinned (OpenSpec.ofChange Rows.predictorSteadySpec) :=
  OpenClaim.holds_of_wide 6 Try.f6 rfl rfl rfl rfl rfl rfl rfl ⟨rfl, rfl, rfl, rfl, rfl⟩ rfl rfl rfl rfl rfl (by kernel_rfl) Try.func6 (by kernel_rfl)
    (of_decide_eq_true (by kernel_rfl)) (by unfold Func.isWrapper; first | (rw [if_pos (by decide +kernel)]; kernel_rfl) | (rw [if_neg (by decide +kernel)]; exact ⟨rfl, rfl⟩))
    (fun os started H enc _ => lifted os started H enc)

/-- the statement -/
theorem proved : Rows.PredictorSteadySaid := over
#print axioms proved
end Go.Proofs.Ytjciifcaahninaa.predictorSteady
