/-
  The law SyntaxExpressions of chapter 4 holds of the given program at every input that can be read (the card's tied claim).
-/
import Derived.Test.YtlbjdglgnkajnaaDoorSyB
import Derived.Test.YtlbjdglgnkajnaaDoorLaidU
import Derived.ChangeMaps5
import Derived.Test.YtlbjdglgnkajnaaDoorTie
import Derived.Test.YtlbjdglgnkajnaaDoorCards
namespace Go.Proofs.YtlbjdglgnkajnaaDoor.syntaxExpressions
open Go.ChangeShapes Go.WideShapes Go.ChangeAt Go.RowKit
set_option linter.unusedVariables false

set_option linter.unusedVariables false
set_option linter.unusedSimpArgs false

/-- the texts of the law -/
def txE (S T : Bt) : List Bt := [S, T, 40 :: (T ++ [41]), 120 :: T, [49, 32, 43, 32] ++ T, T ++ [32, 45, 32, 50]]
theorem txE_len {S T : Bt} {j : Nat} {x : Bt} (h : (txE S T)[j]? = some x) (hS : S.length ≤ 500) (hT : T.length ≤ 70) : x.length ≤ 600 := by
  have hj : j < 6 := (List.getElem?_eq_some_iff.1 h).1
  match j, hj with
  | 0, _ => injection h with h; subst h; omega
  | 1, _ => injection h with h; subst h; omega
  | 2, _ => injection h with h; subst h; simp; omega
  | 3, _ => injection h with h; subst h; simp; omega
  | 4, _ => injection h with h; subst h; simp; omega
  | 5, _ => injection h with h; subst h; simp; omega
theorem wds_len {j : Nat} {x : Bt} (h : wds[j]? = some x) : x.length ≤ 4 := by
  have key : wds.all (fun x => decide (x.length ≤ 4)) = true := by decide
  rw [List.all_eq_true] at key
  exact of_decide_eq_true (key x (List.mem_of_getElem? h))
set_option maxRecDepth 100000 in
set_option maxHeartbeats 8000000 in
theorem walk (a0 : Option Addr) (len0 cap0 : Nat) (z0 : List Int) (s : ByteArray) (w : World) (w0 : InInts .u8 w a0 len0 cap0 z0) (w1 : s.size ≤ maxLen) (hw : Lad w) :
    Calls Tryd.prog 3 #[.slice a0 len0 cap0, .string s] w fun e w' => e = .returned (.bool true) ∧ Below w.heap.size w w' := by
  have HI := Lib.hid w0
  have HW := Lib.hid hw
  unfold maxLen at w1
  clear w0 hw
  obtain ⟨S, rfl⟩ := st_data' s
  by_cases hbig : 500 < S.length
  · have d0 : decide ((500 : Int) < (S.length : Int)) = true := by rw [decide_eq_true_iff]; omega
    have d1 : decide (500 < S.length) = true := by rw [decide_eq_true_iff]; omega
    clear hbig
    go_enter Tryd.func3, Tryd.ntmps3
    go_wp2_with fail
    refine (awake4_any w HW.out).mono ?_
    rintro e w2 ⟨rfl, hb2⟩
    go_wp2_with fail
    go_ret
    exact ⟨rfl, hb2⟩
  have d0 : decide ((500 : Int) < (S.length : Int)) = false := by rw [decide_eq_false_iff_not]; omega
  have d1 : decide (500 < S.length) = false := by rw [decide_eq_false_iff_not]; omega
  have HSZ : Hid (S.length ≤ 500) := Lib.hid (by omega)
  clear hbig w1
  go_enter Tryd.func3, Tryd.ntmps3
  go_wp2_with fail
  refine (awake4_any w HW.out).mono ?_
  rintro e w2 ⟨rfl, hb2⟩
  have HB2 := Lib.hid hb2
  have HI2 := Lib.hid (HI.out.below hb2)
  clear hb2
  go_wp2_with fail
  refine (New_any a0 len0 cap0 z0 60 (by omega) (by omega) _ HI2.out).mono ?_
  rintro e w3 ⟨gc, rfl, hgc, hcod, hb3⟩
  have HGC : Hid (w.heap.size ≤ gc) := Lib.hid (by have := HB2.out.size; omega)
  have HB3 := Lib.hid (HB2.out.trans (hb3.mono HB2.out.size))
  have HC3 := Lib.hid hcod
  clear hgc hcod hb3 HI2 d0 d1
  go_wp2_with fail
  refine (words4_any w3).mono ?_
  rintro e w4 ⟨gw, rfl, hgw, htx, hb4⟩
  have HB4 := Lib.hid (HB3.out.trans (hb4.mono HB3.out.size))
  have HC4 := Lib.hid (HC3.out.below hb4 HC3.out.lt)
  have HT4 := Lib.hid htx
  have HNE : Hid (gw ≠ gc) := Lib.hid (by have := HC3.out.lt; omega)
  clear hgw htx hb4
  go_wp2_with fail
  refine (Next_small gc 14 (by omega) w4 HC4.out).mono ?_
  rintro e w5 ⟨z, rfl, z0', z1', hcod, hg5⟩
  have HB5 := Lib.hid (below_grown1 HB4.out hg5 HB4.out.size HGC.out)
  have HC5 := Lib.hid hcod
  have HT5 := Lib.hid (HT4.out.gr hg5 HNE.out)
  have HZ : Hid (0 ≤ z ∧ z ≤ 13) := Lib.hid ⟨z0', by omega⟩
  clear hcod hg5 z0' z1'
  go_upto_block 0 with fail
  go_wp2_with fail
  go_loopw [7, 8] (fun v7 v8 wr => ∃ (T : Bt) (k : Int), v7 = .string (st T) ∧ v8 = .int .i64 k ∧ Hid (0 ≤ k ∧ k ≤ 13 ∧ (T.length : Int) + 5 * k ≤ 65 ∧ Below w.heap.size w wr ∧ Cod wr gc ∧ Txs wr gw wds)) (fun _ v8 _ => (intOf v8).toNat)
  case atStart => exact ⟨[], z, rfl, rfl, Lib.hid ⟨HZ.out.1, HZ.out.2, by have := HZ.out.2; simp; omega, HB5.out, HC5.out, HT5.out⟩⟩
  case round =>
    rename World => wa
    obtain ⟨T, k, rfl, rfl, HR⟩ := hrel
    by_cases hk : 0 < k
    · have dk : decide (0 < k) = true := decide_eq_true hk
      have HK := Lib.hid hk
      have hk13 : k ≤ 13 := HR.out.2.1
      go_wp2_with fail
      refine (Next_small gc 24 (by omega) wa HR.out.2.2.2.2.1).mono ?_
      rintro e wb ⟨y, rfl, y0, y1, hcod, hgb⟩
      obtain ⟨j, rfl⟩ : ∃ j : Nat, y = (j : Int) := ⟨y.toNat, by omega⟩
      have hj : (j : Int) < 24 := by omega
      have hj2 : j < 24 := by omega
      obtain ⟨x, hx⟩ : ∃ x, wds[j]? = some x := ⟨wds[j]'hj2, List.getElem?_eq_getElem _⟩
      have HTB := Lib.hid (HR.out.2.2.2.2.2.gr hgb HNE.out)
      have hcell := HTB.out.2 j x hx
      have hlg := HTB.out.1
      have HXL := Lib.hid (wds_len hx)
      have HBB := Lib.hid (below_grown1 HR.out.2.2.2.1 hgb HR.out.2.2.2.1.size HGC.out)
      have HCB := Lib.hid hcod
      have hst := st_cat
      have hxl : x.length ≤ 4 := HXL.out
      have htl : T.length ≤ 70 := by have := HR.out.2.2.1; have := HR.out.1; omega
      have hwk : IntKind.i64.wrap (k - 1) = k - 1 := by rw [IntKind.wrap_i64]; omega
      clear hcod hgb y1 hx
      go_wp2_with fail
      go_roundw
      case rel =>
        refine ⟨T ++ (x ++ [32]), k - 1, rfl, rfl, Lib.hid ⟨by omega, by omega, ?_, HBB.out, HCB.out, HTB.out⟩⟩
        have := HR.out.2.2.1
        have := HXL.out
        simp
        omega
      case measure => simp [intOf]; omega
    · have dk : decide (0 < k) = false := decide_eq_false hk
      have HTL : Hid (T.length ≤ 70) := Lib.hid (by have := HR.out.2.2.1; have := HR.out.1; omega)
      have hst := st_cat
      have htl : T.length ≤ 70 := HTL.out
      have HTX := Lib.hid (Txs.new wa (txE S T) 9)
      have HBA := Lib.hid (HR.out.2.2.2.1.alloc HR.out.2.2.2.1.size (.cells ((txE S T).map (fun x => Value.string (st x))).toArray 9))
      clear hk
      go_upto_block 2 with fail
      go_wp2_with fail
      go_loopw [59] (fun v59 wr => ∃ i : Nat, v59 = .int .i64 (i : Int) ∧ i ≤ 6 ∧ Hid (Below w.heap.size w wr ∧ Txs wr wa.heap.size (txE S T))) (fun v59 _ => 6 - natOf v59)
      case atStart => exact ⟨0, rfl, by omega, Lib.hid ⟨HBA.out, HTX.out⟩⟩
      case round =>
        rename World => wb
        obtain ⟨i, rfl, hi, HQ⟩ := hrel
        by_cases hi6 : i < 6
        · obtain ⟨x, hx⟩ : ∃ x, (txE S T)[i]? = some x := ⟨(txE S T)[i]'hi6, List.getElem?_eq_getElem _⟩
          have HXL := Lib.hid (txE_len hx HSZ.out HTL.out)
          have hcell := HQ.out.2.2 i x hx
          have hlg := HQ.out.2.1
          have hi7 : (i : Int) < 6 := by omega
          clear hx
          go_wp2_with fail
          refine (ParseExpr_any x (by have := HXL.out; omega) wb (HW.out.below HQ.out.1)).mono ?_
          intro e wc hp
          obtain ⟨h1, a1, n1, c1, ln, er, rfl⟩ := pe_form hp
          have HP := Lib.hid hp
          have HX1 := Lib.hid (Lc.new wc h1 (.slice a1 n1 c1))
          have HB1 := Lib.hid (below_alloc wc (.cells (ecs h1 (.slice a1 n1 c1)) 31))
          clear hp hcell hlg
          go_upto_region 14 with fail
          obtain ⟨wd, hwd⟩ : ∃ W, wc.alloc (.cells (ecs h1 (.slice a1 n1 c1)) 31) = W := ⟨_, rfl⟩
          obtain ⟨g1, hg1⟩ : ∃ x, wc.heap.size = x := ⟨_, rfl⟩
          have hwd2 := hwd
          simp only [ecs] at hwd2
          (try rw [hwd2])
          rw [hwd] at HX1 HB1
          rw [hg1] at HX1
          (try rw [hg1])
          clear hwd hwd2 hg1
          go_wp2_with fail
          refine (RParseExpr_any x (by have := HXL.out; omega) wd).mono ?_
          intro e2 we hq
          obtain ⟨h2, F1, F2, a2, n2, c2, rfl, k1, k2, heq⟩ := pe_next HP.out hq
          have HX2 := Lib.hid ((HX1.out.be hq.1).al (.cells (ecs h2 (.slice a2 n2 c2)) 31))
          have HY2 := Lib.hid (Lc.new we h2 (.slice a2 n2 c2))
          have HK1 := Lib.hid (args_mono (Q := fun _ => True) (args_al (.cells (ecs h2 (.slice a2 n2 c2)) 31) (k1.keep (Q := fun _ => True) (fun b hb hlt => ⟨(hq.1.block b (by have := HB1.out.size; omega)).trans (HB1.out.block b hlt), trivial⟩) (Nat.le_trans HB1.out.size hq.1.size))) (fun _ _ _ => trivial))
          have HK2 := Lib.hid (args_mono (Q := fun _ => True) (args_al (.cells (ecs h2 (.slice a2 n2 c2)) 31) k2) (fun _ _ _ => trivial))
          have HEQ := Lib.hid heq
          have HBE : Hid (Below wb.heap.size wb (we.alloc (.cells (ecs h2 (.slice a2 n2 c2)) 31))) := Lib.hid (by
            have b1 := HP.out.1
            have b2 := b1.trans (HB1.out.mono b1.size)
            have b3 := b2.trans (hq.1.mono b2.size)
            exact b3.alloc b3.size _)
          clear k1 k2 heq hq HP HX1 HB1
          go_upto_region 15 with fail
          obtain ⟨wf, hwf⟩ : ∃ W, we.alloc (.cells (ecs h2 (.slice a2 n2 c2)) 31) = W := ⟨_, rfl⟩
          obtain ⟨g2, hg2⟩ : ∃ x, we.heap.size = x := ⟨_, rfl⟩
          have hwf2 := hwf
          simp only [ecs] at hwf2
          (try rw [hwf2])
          rw [hwf] at HX2 HY2 HK1 HK2 HBE
          rw [hg2] at HY2
          (try rw [hg2])
          clear hwf hwf2 hg2
          obtain ⟨x0, x1, x2, x3, x4, x5⟩ := HX2.out.cells
          obtain ⟨y0, y1, y2, y3, y4, y5⟩ := HY2.out.cells
          have hl1 := HX2.out.lt
          have hl2 := HY2.out.lt
          go_wp2_with fail
          refine (EqualExpr_any h1 h2 F1 F2 _ _ a1 a2 n1 c1 n2 c2 wf HK1.out HK2.out).mono ?_
          rintro e3 wg ⟨rfl, hbg⟩
          have HBG := Lib.hid (HBE.out.trans (hbg.mono HBE.out.size))
          clear hbg
          rw [HEQ.out]
          go_wp2_with fail
          go_roundw
          case rel => exact ⟨i + 1, by go_num, by omega, Lib.hid ⟨HQ.out.1.trans (HBG.out.mono HQ.out.1.size), HQ.out.2.be HBG.out⟩⟩
          case measure => simp [natOf]; omega
        · obtain rfl : i = 6 := by omega
          go_wp2_with fail
          go_ret
          exact ⟨rfl, HQ.out.1⟩

/-! ### THE ROW's STEP -/
set_option maxRecDepth 100000 in
theorem lifted (os : Os) (started : os.Started) (H : Type) (enc : TypeId × Value → H) :
    ReturnsInHanded {} Tryd.checked os 3 .any (fun w args => (Rows.syntaxExpressionsSpec.pre enc Tryd.prog Tryd.f3 [] false w args ∧ laidMetH Tryd.prog [("math/bits.deBruijn32tab", Rows.laid_math_bits_deBruijn32tab), ("math/bits.deBruijn64tab", Rows.laid_math_bits_deBruijn64tab), ("internal/strconv.uint64pow10", Rows.laid_internal_strconv_uint64pow10), ("strconv.ErrRange", Rows.laid_strconv_ErrRange), ("strconv.ErrSyntax", Rows.laid_strconv_ErrSyntax)] w) ∧ sizedMet enc Tryd.prog Tryd.f3 (OpenSpec.ofChange Rows.syntaxExpressionsSpec) false w args)
      (Rows.syntaxExpressionsSpec.post enc Tryd.prog Tryd.f3 false true false false) := by
  refine returnsInHanded_of_change_and (C := Tryd.checked) (X := fun w _ => laidMetH Tryd.prog [("math/bits.deBruijn32tab", Rows.laid_math_bits_deBruijn32tab), ("math/bits.deBruijn64tab", Rows.laid_math_bits_deBruijn64tab), ("internal/strconv.uint64pow10", Rows.laid_internal_strconv_uint64pow10), ("strconv.ErrRange", Rows.laid_strconv_ErrRange), ("strconv.ErrSyntax", Rows.laid_strconv_ErrSyntax)] w) (fun _ _ _ hh h => h.of_heap hh) ownLd started (by kernel_rfl) Tryd.func3
    (ChangeSpec.witness_shaped (enc := enc) (C := Tryd.checked) (os := os) (X := fun w _ => laidMetH Tryd.prog [("math/bits.deBruijn32tab", Rows.laid_math_bits_deBruijn32tab), ("math/bits.deBruijn64tab", Rows.laid_math_bits_deBruijn64tab), ("internal/strconv.uint64pow10", Rows.laid_internal_strconv_uint64pow10), ("strconv.ErrRange", Rows.laid_strconv_ErrRange), ("strconv.ErrSyntax", Rows.laid_strconv_ErrSyntax)] w) false (World.doorLaid Tryd.prog 400 os) #[.slice none 0 0, .string ⟨#[]⟩] 8 rfl (World.shaped_of_RefB (by kernel_rfl) (by kernel_rfl)) (by kernel_rfl) (by kernel_rfl) (by kernel_rfl) (door_met os _)) ?_
  intro W base args ds gs before hval0 hW _ _ hL _
  have hval : ∀ (j : Nat) t v, Tryd.f3.params[j]? = some t → args[j]? = some v → Value.okWide Tryd.prog W .any base t v := hval0
  have hW' := hW
  obtain ⟨p, q, hA0, hV, rfl, hfz, hnd⟩ := hW
  have hA : DataW.TrodAll enc Tryd.prog W 0 (fun _ => true) true Tryd.f3.params.toList args.toList ds p := hA0
  rw [Tryd.params3] at hA hval
  obtain ⟨v0, vs0, d0, ds0, p0, q0, hargs, rfl, rfl, h0, r0⟩ := trodAll_cons hA
  obtain ⟨v1, vs1, d1, ds1, p1, q1, rfl, rfl, rfl, h1, r1⟩ := trodAll_cons r0
  obtain ⟨rfl, rfl, rfl⟩ := trodAll_nil r1
  obtain rfl : args = #[v0, v1] := by cases args; simp_all
  obtain ⟨rfl, rfl⟩ := trodVars_none hV
  have k0 := h0
  have lt0 : ∀ x ∈ p0, x.block < W.heap.size := by obtain ⟨m, hm⟩ := k0; exact DataW.trod_lt m _ _ _ hm
  obtain ⟨a0, len0, cap0, zs0, rfl, w0⟩ := in_ints (k := .u8) Tryd.underlying22 Tryd.underlying5 (by kernel_rfl) (hval 0 22 v0 rfl rfl) h0
  obtain ⟨s1, rfl, rfl, rfl, w1⟩ := Go.ChangeMaps.open_string Tryd.underlying9 (hval 1 9 v1 rfl rfl) h1
  clear hA0 hval0
  refine (walk a0 len0 cap0 zs0 s1 W w0 w1 (of_laid hL)).mono fun e W' ⟨he, bel⟩ => ?_
  subst he
  exact ⟨_, rfl, _, _, _, [], _, [], hW', trodAll_mk1 (shut_bool Tryd.underlying4 _), (trodAll_cons_mk (Below.trod laidOut (by kernel_rfl) (of_decide_eq_true (by kernel_rfl)) k0 bel lt0) (trodAll_cons_mk (Go.ChangeMaps.shut_string Tryd.underlying9 w1) trodAll_mk0)), rfl, bel.frame _, fun h => by cases h⟩

theorem over : Rows.SyntaxExpressionsSaid :=
  OpenClaim.holds_of_wide 3 Tryd.f3 rfl rfl rfl rfl rfl rfl rfl ⟨rfl, rfl, rfl, rfl, rfl⟩ rfl rfl rfl rfl rfl (by kernel_rfl) Tryd.func3 (by kernel_rfl)
    (of_decide_eq_true (by kernel_rfl)) (by unfold Func.isWrapper; first | (rw [if_pos (by decide +kernel)]; kernel_rfl) | (rw [if_neg (by decide +kernel)]; exact ⟨rfl, rfl⟩))
    (fun os started H enc _ => lifted os started H enc)

/-- the tied card -/
theorem proved : Rows.SyntaxExpressionsCardSaid :=
  Claim7.holds_tied_plain_at .later [] [.data, .data, .data, .sentinel, .sentinel] true (true, "21ef6a7ed233932e74bebf88a8fc0b313750c145eb44139f2e9ff4a4e9c85b15") true
    over (fun _ h => by cases h) (by kernel_rfl) (fun _ h => by cases h) syntaxExpressions_row_tie rfl ⟨rfl, rfl⟩ (by kernel_rfl) rfl
    (fun f fn hf hfn => by
      obtain rfl : f = 3 := Option.some.inj ((show Tryd.prog.funcNamed "warmpath/warmpathlaw04.SyntaxExpressions" = some 3 by kernel_rfl).symm.trans hf) |>.symm
      obtain rfl : fn = Tryd.f3 := (Option.some.inj (Tryd.func3.symm.trans hfn)).symm
      exact ⟨by kernel_rfl, fun j t ht => by
        rw [Tryd.params3] at ht
        have hm : t ∈ [22, 9] := by simpa using Array.mem_of_getElem? ht
        have hall : ([22, 9].all fun u => !Tryd.prog.wantsStandIn u) = true := by kernel_rfl
        exact (show Tryd.prog.wantsStandIn t = false by simpa using List.all_eq_true.1 hall t hm)⟩)
    (by kernel_rfl)
#print axioms proved
end Go.Proofs.YtlbjdglgnkajnaaDoor.syntaxExpressions
