/-
  The law SyntaxParses holds of the given program at every input that can be read (the card's tied claim).
-/
import Derived.Test.YtldgghnjminhiaaGreatDoorG5
import Derived.Test.YtldgghnjminhiaaGreatDoorG12
import Derived.Test.YtldgghnjminhiaaGreatDoorG17
import Derived.Test.YtldgghnjminhiaaGreatDoorLaidU
import Derived.ChangeMaps5
import Derived.Test.YtldgghnjminhiaaGreatDoorTie
import Derived.Test.YtldgghnjminhiaaGreatDoorCards
namespace Go.Proofs.YtldgghnjminhiaaGreatDoor.syntaxParses
open Go.ChangeShapes Go.WideShapes Go.ChangeAt Go.RowKit
set_option linter.unusedVariables false

set_option linter.unusedVariables false
set_option linter.unusedSimpArgs false

theorem Lo.new (w : World) (va vb : Value) : Lo (w.alloc (.cells #[va, vb] 29)) w.heap.size va vb := heap_alloc_new w _
set_option maxRecDepth 100000 in
set_option maxHeartbeats 8000000 in
theorem walk (a0 : Option Addr) (len0 cap0 : Nat) (z0 : List Int) (s : ByteArray) (w : World) (w0 : Ez .u8 w a0 len0 cap0 z0) (w1 : s.size ≤ maxLen) (hw : Lad w) :
  Calls Tryz.prog 5 #[.slice a0 len0 cap0, .string s] w fun e w' => e = .returned (.bool true) ∧ Below w.heap.size w w' := by
 have HI := Lib.hid w0
 have HW := Lib.hid hw
 unfold maxLen at w1
 clear w0 hw
 obtain ⟨S, rfl⟩ := Ah s
 by_cases hbig : 500 < S.length
 ·have d0 : decide ((500 : Int) < (S.length : Int)) = true := by rw [decide_eq_true_iff]; omega
  have d1 : decide (500 < S.length) = true := by rw [decide_eq_true_iff]; omega
  clear hbig
  go_enter Tryz.func5, Tryz.ntmps5
  go_wp2_with fail
  refine (Gp w HW.out).mono ?_
  rintro e w2 ⟨rfl, hb2⟩
  go_wp2_with fail
  go_ret
  exact ⟨rfl, hb2⟩
 have d0 : decide ((500 : Int) < (S.length : Int)) = false := by rw [decide_eq_false_iff_not]; omega
 have d1 : decide (500 < S.length) = false := by rw [decide_eq_false_iff_not]; omega
 have HSZ : Hid (S.length ≤ 500) := Lib.hid (by omega)
 clear hbig w1
 go_enter Tryz.func5, Tryz.ntmps5
 go_wp2_with fail
 refine (Gp w HW.out).mono ?_
 rintro e w2 ⟨rfl, hb2⟩
 have HB2 := Lib.hid hb2
 have HI2 := Lib.hid (HI.out.below hb2)
 clear hb2
 go_wp2_with fail
 refine (Ob a0 len0 cap0 z0 400 (by omega) (by omega) _ HI2.out).mono ?_
 rintro e w3 ⟨gc, rfl, hgc, hcod, hb3⟩
 have HGC : Hid (w.heap.size ≤ gc) := Lib.hid (by have := HB2.out.size; omega)
 have HB3 := Lib.hid (HB2.out.trans (hb3.mono HB2.out.size))
 have HC3 := Lib.hid hcod
 clear hgc hcod hb3 HI2 d0 d1
 go_wp2_with fail
 refine (My gc _ HC3.out).mono ?_
 rintro e w4 ⟨wx, gs, fs, Fs, aa, ca, ab, cb, rfl, hc4, hg4, hs4⟩
 have hTl := hs4.len
 obtain ⟨T, hT⟩ : ∃ T, Nn gs Fs = T := ⟨_, rfl⟩
 rw [hT] at hTl ⊢
 have HTL : Hid (T.length ≤ 40000) := Lib.hid (by omega)
 have HC4 := Lib.hid hc4
 have HB4 := Lib.hid (Vv HB3.out hg4 HB3.out.size HGC.out)
 clear hT hs4 hc4 hg4 hTl
 go_wp2_with fail
 refine (Ev gc _ HC4.out).mono ?_
 rintro e w5 ⟨X, rfl, hx5, hc5, hg5⟩
 have HXL := Lib.hid hx5
 have HC5 := Lib.hid hc5
 have HB5 := Lib.hid (Vv HB4.out hg5 HB4.out.size HGC.out)
 clear hx5 hc5 hg5
 go_wp2_with fail
 refine (Ev gc _ HC5.out).mono ?_
 rintro e w6 ⟨Y, rfl, hx6, hc6, hg6⟩
 have HYL := Lib.hid hx6
 have HB6 := Lib.hid (Vv HB5.out hg6 HB5.out.size HGC.out)
 clear hx6 hc6 hg6
 have HTX := Lib.hid (Txs.new w6 (txP S T X Y) 9)
 have HBA := Lib.hid (HB6.out.alloc HB6.out.size (.cells ((txP S T X Y).map (fun x => Value.string (st x))).toArray 9))
 have hst := Qq
 have hsl : S.length ≤ 500 := HSZ.out
 go_upto_block 0 with fail
 go_wp2_with fail
 go_loopw [41] (fun v41 wr => ∃ i : Nat, v41 = .int .i64 (i : Int) ∧ i ≤ 6 ∧ Hid (Below w.heap.size w wr ∧ Txs wr w6.heap.size (txP S T X Y))) (fun v41 _ => 6 - Jt v41)
 case atStart => exact ⟨0, rfl, by omega, Lib.hid ⟨HBA.out, HTX.out⟩⟩
 case round =>
  rename World => wb
  obtain ⟨i, rfl, hi, HQ⟩ := hrel
  by_cases hi6 : i < 6
  ·obtain ⟨x, hx⟩ : ∃ x, (txP S T X Y)[i]? = some x := ⟨(txP S T X Y)[i]'hi6, List.getElem?_eq_getElem _⟩
   have HXX := Lib.hid (Fd hx HSZ.out HTL.out HXL.out HYL.out)
   have hcell := HQ.out.2.2 i x hx
   have hlg := HQ.out.2.1
   have hi7 : (i : Int) < 6 := by omega
   clear hx
   go_wp2_with fail
   refine (Aw x (by have := HXX.out; omega) wb (HW.out.below HQ.out.1)).mono ?_
   intro e wc hp
   obtain ⟨ga, gn, gcc, fa, fn, fcc, ln, er, rfl⟩ := Is hp
   have HP := Lib.hid hp
   have HX1 := Lib.hid (Lo.new wc (.slice ga gn gcc) (.slice fa fn fcc))
   have HB1 := Lib.hid (Xw wc (.cells #[.slice ga gn gcc, .slice fa fn fcc] 29))
   clear hp hcell hlg
   go_upto_region 8 with fail
   obtain ⟨wd, hwd⟩ : ∃ W, wc.alloc (.cells #[.slice ga gn gcc, .slice fa fn fcc] 29) = W := ⟨_, rfl⟩
   obtain ⟨g1, hg1⟩ : ∃ x, wc.heap.size = x := ⟨_, rfl⟩
   (try rw [hwd])
   rw [hwd] at HX1 HB1
   rw [hg1] at HX1
   (try rw [hg1])
   clear hwd hg1
   go_wp2_with fail
   refine (Rw x (by have := HXX.out; omega) wd).mono ?_
   intro e2 we hq
   obtain ⟨ga2, gn2, gc2, fa2, fn2, fc2, gs2, fs2, rfl, k1, k2⟩ := Ir HP.out hq
   have HX2 := Lib.hid ((HX1.out.be hq.1).al (.cells #[.slice ga2 gn2 gc2, .slice fa2 fn2 fc2] 29))
   have HY2 := Lib.hid (Lo.new we (.slice ga2 gn2 gc2) (.slice fa2 fn2 fc2))
   have HA2 := Lib.hid (Xw we (.cells #[.slice ga2 gn2 gc2, .slice fa2 fn2 fc2] 29))
   have HK1 := Lib.hid ((((k1.be HB1.out).be hq.1)).be HA2.out)
   have HK2 := Lib.hid (k2.be HA2.out)
   have HBE : Hid (Below wb.heap.size wb (we.alloc (.cells #[.slice ga2 gn2 gc2, .slice fa2 fn2 fc2] 29))) := Lib.hid (by
    have b1 := HP.out.1
    have b2 := b1.trans (HB1.out.mono b1.size)
    have b3 := b2.trans (hq.1.mono b2.size)
    exact b3.alloc b3.size _)
   clear k1 k2 hq HP HX1 HB1
   go_upto_region 9 with fail
   obtain ⟨wf, hwf⟩ : ∃ W, we.alloc (.cells #[.slice ga2 gn2 gc2, .slice fa2 fn2 fc2] 29) = W := ⟨_, rfl⟩
   obtain ⟨g2, hg2⟩ : ∃ x, we.heap.size = x := ⟨_, rfl⟩
   (try rw [hwf])
   rw [hwf] at HX2 HY2 HK1 HK2 HBE
   rw [hg2] at HY2
   (try rw [hg2])
   clear hwf hg2 HA2
   obtain ⟨x0, x1⟩ := HX2.out.cells
   obtain ⟨y0, y1⟩ := HY2.out.cells
   have hl1 := HX2.out.lt
   have hl2 := HY2.out.lt
   go_wp2_with fail
   refine (Ap true _ _ gs2 fs2 gs2 fs2 (.slice ga gn gcc) (.slice fa fn fcc) (.slice ga2 gn2 gc2) (.slice fa2 fn2 fc2) wf HK1.out HK2.out).mono ?_
   rintro e3 wg ⟨rfl, hbg⟩
   have HBG := Lib.hid (HBE.out.trans (hbg.mono HBE.out.size))
   clear hbg
   rw [Iw]
   go_wp2_with fail
   go_roundw
   case rel => exact ⟨i + 1, by go_num, by omega, Lib.hid ⟨HQ.out.1.trans (HBG.out.mono HQ.out.1.size), HQ.out.2.be HBG.out⟩⟩
   case measure => simp [Jt]; omega
  ·obtain rfl : i = 6 := by omega
   go_wp2_with fail
   go_ret
   exact ⟨rfl, HQ.out.1⟩

/-! ### THE ROW's STEP -/
set_option maxRecDepth 100000 in
theorem lifted (os : Os) (started : os.Started) (H : Type) (enc : TypeId × Value → H) :
    ReturnsInHanded {} Tryz.checked os 5 .any (fun w args => (Rows.syntaxParsesSpec.pre enc Tryz.prog Tryz.f5 [] false w args ∧ laidMetH Tryz.prog [("math/bits.deBruijn32tab", Rows.laid_math_bits_deBruijn32tab), ("math/bits.deBruijn64tab", Rows.laid_math_bits_deBruijn64tab), ("internal/strconv.uint64pow10", Rows.laid_internal_strconv_uint64pow10), ("strconv.ErrRange", Rows.laid_strconv_ErrRange), ("strconv.ErrSyntax", Rows.laid_strconv_ErrSyntax)] w) ∧ sizedMet enc Tryz.prog Tryz.f5 (OpenSpec.ofChange Rows.syntaxParsesSpec) false w args)
      (Rows.syntaxParsesSpec.post enc Tryz.prog Tryz.f5 false true false false) := by
  refine returnsInHanded_of_change_and (C := Tryz.checked) (X := fun w _ => laidMetH Tryz.prog [("math/bits.deBruijn32tab", Rows.laid_math_bits_deBruijn32tab), ("math/bits.deBruijn64tab", Rows.laid_math_bits_deBruijn64tab), ("internal/strconv.uint64pow10", Rows.laid_internal_strconv_uint64pow10), ("strconv.ErrRange", Rows.laid_strconv_ErrRange), ("strconv.ErrSyntax", Rows.laid_strconv_ErrSyntax)] w) (fun _ _ _ hh h => h.of_heap hh) ownLd started (by kernel_rfl) Tryz.func5
    (ChangeSpec.witness_shaped (enc := enc) (C := Tryz.checked) (os := os) (X := fun w _ => laidMetH Tryz.prog [("math/bits.deBruijn32tab", Rows.laid_math_bits_deBruijn32tab), ("math/bits.deBruijn64tab", Rows.laid_math_bits_deBruijn64tab), ("internal/strconv.uint64pow10", Rows.laid_internal_strconv_uint64pow10), ("strconv.ErrRange", Rows.laid_strconv_ErrRange), ("strconv.ErrSyntax", Rows.laid_strconv_ErrSyntax)] w) false (World.doorLaid Tryz.prog 400 os) #[.slice none 0 0, .string ⟨#[]⟩] 8 rfl (World.shaped_of_RefB (by kernel_rfl) (by kernel_rfl)) (by kernel_rfl) (by kernel_rfl) (by kernel_rfl) (door_met os _)) ?_
  intro W base args ds gs before hval0 hW _ _ hL _
  have hval : ∀ (j : Nat) t v, Tryz.f5.params[j]? = some t → args[j]? = some v → Value.okWide Tryz.prog W .any base t v := hval0
  have hW' := hW
  obtain ⟨p, q, hA0, hV, rfl, hfz, hnd⟩ := hW
  have hA : DataW.TrodAll enc Tryz.prog W 0 (fun _ => true) true Tryz.f5.params.toList args.toList ds p := hA0
  rw [Tryz.params5] at hA hval
  obtain ⟨v0, vs0, d0, ds0, p0, q0, hargs, rfl, rfl, h0, r0⟩ := trodAll_cons hA
  obtain ⟨v1, vs1, d1, ds1, p1, q1, rfl, rfl, rfl, h1, r1⟩ := trodAll_cons r0
  obtain ⟨rfl, rfl, rfl⟩ := trodAll_nil r1
  obtain rfl : args = #[v0, v1] := by cases args; simp_all
  obtain ⟨rfl, rfl⟩ := trodVars_none hV
  have k0 := h0
  have lt0 : ∀ x ∈ p0, x.block < W.heap.size := by obtain ⟨m, hm⟩ := k0; exact DataW.trod_lt m _ _ _ hm
  obtain ⟨a0, len0, cap0, zs0, rfl, w0⟩ := Ld (k := .u8) Tryz.underlying22 Tryz.underlying5 (by kernel_rfl) (hval 0 22 v0 rfl rfl) h0
  obtain ⟨s1, rfl, rfl, rfl, w1⟩ := Go.ChangeMaps.open_string Tryz.underlying9 (hval 1 9 v1 rfl rfl) h1
  clear hA0 hval0
  refine (walk a0 len0 cap0 zs0 s1 W w0 w1 (of_laid hL)).mono fun e W' ⟨he, bel⟩ => ?_
  subst he
  exact ⟨_, rfl, _, _, _, [], _, [], hW', trodAll_mk1 (shut_bool Tryz.underlying4 _), (trodAll_cons_mk (Below.trod laidOut (by kernel_rfl) (of_decide_eq_true (by kernel_rfl)) k0 bel lt0) (trodAll_cons_mk (Go.ChangeMaps.shut_string Tryz.underlying9 w1) trodAll_mk0)), rfl, bel.frame _, fun h => by cases h⟩

theorem over : Rows.SyntaxParsesSaid :=
  OpenClaim.holds_of_wide 5 Tryz.f5 rfl rfl rfl rfl rfl rfl rfl ⟨rfl, rfl, rfl, rfl, rfl⟩ rfl rfl rfl rfl rfl (by kernel_rfl) Tryz.func5 (by kernel_rfl)
    (of_decide_eq_true (by kernel_rfl)) (by unfold Func.isWrapper; first | (rw [if_pos (by decide +kernel)]; kernel_rfl) | (rw [if_neg (by decide +kernel)]; exact ⟨rfl, rfl⟩))
    (fun os started H enc _ => lifted os started H enc)

/-- the tied card -/
theorem proved : Rows.SyntaxParsesCardSaid :=
  Claim7.holds_tied_plain_at .later [] [.data, .data, .data, .sentinel, .sentinel] true (true, "a3db093cac5306058e55fb603508202bee0051a466cb6eb0cc1b6b1f729ed927") true
    over (fun _ h => by cases h) (by kernel_rfl) (fun _ h => by cases h) syntaxParses_row_tie rfl ⟨rfl, rfl⟩ (by kernel_rfl) rfl
    (fun f fn hf hfn => by
      obtain rfl : f = 5 := Option.some.inj ((show Tryz.prog.funcNamed "warmpath/warmpathlaw04.SyntaxParses" = some 5 by kernel_rfl).symm.trans hf) |>.symm
      obtain rfl : fn = Tryz.f5 := (Option.some.inj (Tryz.func5.symm.trans hfn)).symm
      exact ⟨by kernel_rfl, fun j t ht => by
        rw [Tryz.params5] at ht
        have hm : t ∈ [22, 9] := by simpa using Array.mem_of_getElem? ht
        have hall : ([22, 9].all fun u => !Tryz.prog.wantsStandIn u) = true := by kernel_rfl
        exact (show Tryz.prog.wantsStandIn t = false by simpa using List.all_eq_true.1 hall t hm)⟩)
    (by kernel_rfl)
#print axioms proved
end Go.Proofs.YtldgghnjminhiaaGreatDoor.syntaxParses
