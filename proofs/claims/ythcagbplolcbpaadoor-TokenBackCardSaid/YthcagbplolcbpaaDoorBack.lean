/-
  The law TokenBack of chapter 3 holds of the given program at every input that can be read (the card's tied claim).
-/
import Derived.Test.YthcagbplolcbpaaDoorTlP
import Derived.Test.YthcagbplolcbpaaDoorLaidU
import Derived.ChangeMaps5
import Derived.Test.YthcagbplolcbpaaDoorTie
import Derived.Test.YthcagbplolcbpaaDoorCards
namespace Go.Proofs.YthcagbplolcbpaaDoor.tokenBack
open Go.ChangeShapes Go.WideShapes Go.ChangeAt Go.RowKit
set_option linter.unusedVariables false

set_option linter.unusedVariables false
set_option linter.unusedSimpArgs false

set_option maxRecDepth 100000 in
set_option maxHeartbeats 8000000 in
theorem walk (a0 : Option Addr) (len0 cap0 : Nat) (z0 : List Int) (s : ByteArray) (w : World) (w0 : InInts .u8 w a0 len0 cap0 z0) (w1 : s.size ≤ maxLen) (hw : Lad w) :
    Calls Tryd.prog 6 #[.slice a0 len0 cap0, .string s] w fun e w' => e = .returned (.bool true) ∧ Below w.heap.size w w' := by
  have HI := Lib.hid w0
  have HW := Lib.hid hw
  unfold maxLen at w1
  clear w0 hw
  by_cases hbig : 500 < s.size
  · have d0 : decide ((500 : Int) < (s.size : Int)) = true := by rw [decide_eq_true_iff]; omega
    have d1 : decide (500 < s.size) = true := by rw [decide_eq_true_iff]; omega
    clear hbig
    go_enter Tryd.func6, Tryd.ntmps6
    go_wp2_with fail
    refine (awake_any w HW.out).mono ?_
    rintro e w2 ⟨rfl, hb2⟩
    go_wp2_with fail
    go_ret
    exact ⟨rfl, hb2⟩
  have d0 : decide ((500 : Int) < (s.size : Int)) = false := by rw [decide_eq_false_iff_not]; omega
  have d1 : decide (500 < s.size) = false := by rw [decide_eq_false_iff_not]; omega
  have HSZ : Hid (s.size ≤ 500) := Lib.hid (by omega)
  clear hbig
  go_enter Tryd.func6, Tryd.ntmps6
  go_wp2_with fail
  refine (awake_any w HW.out).mono ?_
  rintro e w2 ⟨rfl, hb2⟩
  have HB2 := Lib.hid hb2
  have HI2 := Lib.hid (HI.out.below hb2)
  clear hb2
  go_wp2_with fail
  refine (New_any a0 len0 cap0 z0 300 (by omega) (by omega) _ HI2.out).mono ?_
  rintro e w3 ⟨gc, rfl, hgc, hcod, hb3⟩
  have HGC : Hid (w.heap.size ≤ gc) := Lib.hid (by have := HB2.out.size; omega)
  have HG3 := Lib.hid (grownBy_of_below (HB2.out.trans (hb3.mono HB2.out.size)) (some gc))
  have HC3 := Lib.hid hcod
  clear hgc hcod hb3 HI2
  go_wp2_with fail
  refine (OddText_any gc _ HC3.out).mono ?_
  rintro e w4 ⟨L, rfl, hL, hc4, hg4⟩
  have HG4 := Lib.hid (grownBy_trans HG3.out hg4)
  have HBB4 : Hid (Below w.heap.size w w4) := Lib.hid ((Below.refl w.heap.size w).grown HG4.out (Nat.le_refl _) (fun k e => by injection e with e; have := HGC.out; omega))
  clear hc4 hg4 HG3 HG4 HC3 HB2
  have hb5 := below_alloc w4 (.cells #[.string (st L), .string s] 9)
  have hr5 := heap_alloc_new w4 (.cells #[.string (st L), .string s] 9)
  go_upto_region 5 with fail
  obtain ⟨w5, hw5⟩ : ∃ W, w4.alloc (.cells #[.string (st L), .string s] 9) = W := ⟨_, rfl⟩
  obtain ⟨gt, hgt⟩ : ∃ x, w4.heap.size = x := ⟨_, rfl⟩
  rw [hw5] at hb5 hr5 ⊢
  rw [hgt] at hr5
  (try rw [hgt])
  have HB5 := Lib.hid (HBB4.out.trans (hb5.mono HBB4.out.size))
  have HTAB : Hid (∀ i : Nat, i < 2 → ∃ X : Bt, X.length ≤ 40000 ∧ ∀ W, Below w5.heap.size w5 W → W.cell? ⟨gt, i, none⟩ = some (.string (st X))) := Lib.hid (fun i hi => by
    have hs2 := HSZ.out
    have : i = 0 ∨ i = 1 := by omega
    rcases this with rfl | rfl
    · exact ⟨L, hL, fun W hW => (cell_of_row W gt 0 _ _ _ ((hW.block gt (heap_lt hr5)).trans hr5)).trans rfl⟩
    · exact ⟨s.data.toList, by rw [st_len]; omega, fun W hW => (cell_of_row W gt 1 _ _ _ ((hW.block gt (heap_lt hr5)).trans hr5)).trans (by rw [st_data]; rfl)⟩)
  clear hw5 hb5 hr5 hgt HBB4 hL
  go_loopw [32] (fun v32 wr => ∃ i : Nat, i ≤ 2 ∧ v32 = .int .i64 i ∧ Hid (Below w5.heap.size w5 wr)) (fun v32 _ => 2 - (intOf v32).toNat)
  case atStart => exact ⟨0, by omega, rfl, Lib.hid (Below.refl _ _)⟩
  case round =>
    obtain ⟨i, hi, rfl, HR⟩ := hrel
    by_cases hlt : i < 2
    · obtain ⟨X, hX, hXc⟩ := HTAB.out i hlt
      have hc := hXc _ HR.out
      have HLW := Lib.hid (HW.out.below (HB5.out.trans (HR.out.mono HB5.out.size)))
      have HXL := Lib.hid hX
      clear hXc hX
      go_wp2_with fail
      refine (Scan_any (st X) (by have := HXL.out; show X.length ≤ _; omega) _ HLW.out).mono ?_
      rintro e w6 ⟨hb6, hp⟩
      have HR6 := Lib.hid (HR.out.trans (hb6.mono HR.out.size))
      have HLW6 := Lib.hid (HLW.out.below hb6)
      have ed : (st X).data.toList = X := by simp
      rw [ed] at hp
      rcases hp with ⟨h, _⟩ | ⟨_, h, rfl⟩ | ⟨_, ts, v, h1, rfl, hown⟩
      · have := HXL.out; omega
      · clear h hb6
        obtain ⟨q, hq⟩ : ∃ q, (scan X).2 = q := ⟨_, rfl⟩
        rw [hq]
        clear hq
        go_wp2_with fail
        go_roundw
        case rel => exact ⟨i + 1, by omega, by go_num, HR6⟩
        case measure => simp [intOf]; omega
      · have hsc : scan X = (some ts, (scan X).2) := by rw [← h1]
        obtain ⟨f1, f2, f3⟩ := scan_facts hsc
        obtain ⟨b1, zs, b2, b3⟩ := scan_back hsc
        obtain ⟨av, cv, rfl, _, c1, c2, hts, _⟩ := Tks.of_own hown
        have HTS := Lib.hid hts
        have HF := Lib.hid (And.intro f1 (And.intro f2 f3))
        have HZ := Lib.hid (And.intro b1 (And.intro b2 b3))
        clear hsc f1 f2 f3 b1 b2 b3 hown hts h1 hb6 ed
        go_wp2_with fail
        refine (FJoin_any ts (by have := HF.out; have := HXL.out; omega) _ av cv (by have := HF.out; have := HXL.out; omega) HTS.out).mono ?_
        rintro e w7 ⟨rfl, hb7⟩
        have HR7 := Lib.hid (HR6.out.trans (hb7.mono HR6.out.size))
        have HLW7 := Lib.hid (HLW6.out.below hb7)
        have HTS7 := Lib.hid (HTS.out.below hb7)
        clear hb7
        obtain ⟨J, hJ⟩ : ∃ J, joinB (nonE ts) = J := ⟨_, rfl⟩
        rw [hJ] at HZ ⊢
        clear hJ
        go_wp2_with fail
        refine (Scan_any (st J) (by have := HZ.out.1; have := HXL.out; show J.length ≤ _; omega) _ HLW7.out).mono ?_
        rintro e w8 ⟨hb8, hp⟩
        have HR8 := Lib.hid (HR7.out.trans (hb8.mono HR7.out.size))
        have HTS8 := Lib.hid (HTS7.out.below hb8)
        have ed : (st J).data.toList = J := by simp
        rw [ed, HZ.out.2.1] at hp
        rcases hp with ⟨h, rfl⟩ | ⟨_, h, _⟩ | ⟨hjl, zs2, v2, h1, rfl, hown⟩
        · have dj : decide ((65536 : Int) < (J.length : Int)) = true := by rw [decide_eq_true_iff]; omega
          have dj1 : decide (65536 < J.length) = true := by rw [decide_eq_true_iff]; omega
          clear h hb8 ed
          go_wp2_with fail
          go_roundw
          case rel => exact ⟨i + 1, by omega, by go_num, HR8⟩
          case measure => simp [intOf]; omega
        · cases h
        · injection h1 with h1
          subst h1
          have dj : decide ((65536 : Int) < (J.length : Int)) = false := by rw [decide_eq_false_iff_not]; omega
          have dj1 : decide (65536 < J.length) = false := by rw [decide_eq_false_iff_not]; omega
          obtain ⟨av2, cv2, rfl, _, _, _, hts2, _⟩ := Tks.of_own hown
          have HTS2 := Lib.hid hts2
          obtain ⟨u1, u2⟩ := unl_get HZ.out.2.2
          have HU := Lib.hid u2
          have HUL := Lib.hid u1
          clear hjl hown hts2 u1 u2 hb8 ed
          go_wp2_with fail
          refine (Same_true ts zs false HUL.out.symm (by have := HF.out; have := HXL.out; omega) (fun j x y hx hy => by
            obtain ⟨q1, q2, q3⟩ := HU.out j y x hy hx
            exact ⟨q1.symm, q2.symm, q3.symm, fun e => by cases e⟩) _ _ _ cv cv2 HTS8.out HTS2.out).mono ?_
          rintro e w9 ⟨rfl, hb9⟩
          go_wp2_with fail
          go_roundw
          case rel => exact ⟨i + 1, by omega, by go_num, Lib.hid (HR8.out.trans (hb9.mono HR8.out.size))⟩
          case measure => simp [intOf]; omega
    · obtain rfl : i = 2 := by omega
      go_wp2_with fail
      go_ret
      exact ⟨rfl, HB5.out.trans (HR.out.mono HB5.out.size)⟩

/-! ### THE ROW's STEP -/
set_option maxRecDepth 100000 in
theorem lifted (os : Os) (started : os.Started) (H : Type) (enc : TypeId × Value → H) :
    ReturnsInHanded {} Tryd.checked os 6 .any (fun w args => (Rows.tokenBackSpec.pre enc Tryd.prog Tryd.f6 [] false w args ∧ laidMetH Tryd.prog [("math/bits.deBruijn32tab", Rows.laid_math_bits_deBruijn32tab), ("math/bits.deBruijn64tab", Rows.laid_math_bits_deBruijn64tab), ("internal/strconv.uint64pow10", Rows.laid_internal_strconv_uint64pow10), ("strconv.ErrRange", Rows.laid_strconv_ErrRange), ("strconv.ErrSyntax", Rows.laid_strconv_ErrSyntax)] w) ∧ sizedMet enc Tryd.prog Tryd.f6 (OpenSpec.ofChange Rows.tokenBackSpec) false w args)
      (Rows.tokenBackSpec.post enc Tryd.prog Tryd.f6 false true false false) := by
  refine returnsInHanded_of_change_and (C := Tryd.checked) (X := fun w _ => laidMetH Tryd.prog [("math/bits.deBruijn32tab", Rows.laid_math_bits_deBruijn32tab), ("math/bits.deBruijn64tab", Rows.laid_math_bits_deBruijn64tab), ("internal/strconv.uint64pow10", Rows.laid_internal_strconv_uint64pow10), ("strconv.ErrRange", Rows.laid_strconv_ErrRange), ("strconv.ErrSyntax", Rows.laid_strconv_ErrSyntax)] w) (fun _ _ _ hh h => h.of_heap hh) ownLd started (by kernel_rfl) Tryd.func6
    (ChangeSpec.witness_shaped (enc := enc) (C := Tryd.checked) (os := os) (X := fun w _ => laidMetH Tryd.prog [("math/bits.deBruijn32tab", Rows.laid_math_bits_deBruijn32tab), ("math/bits.deBruijn64tab", Rows.laid_math_bits_deBruijn64tab), ("internal/strconv.uint64pow10", Rows.laid_internal_strconv_uint64pow10), ("strconv.ErrRange", Rows.laid_strconv_ErrRange), ("strconv.ErrSyntax", Rows.laid_strconv_ErrSyntax)] w) false (World.doorLaid Tryd.prog 400 os) #[.slice none 0 0, .string ⟨#[]⟩] 8 rfl (World.shaped_of_RefB (by kernel_rfl) (by kernel_rfl)) (by kernel_rfl) (by kernel_rfl) (by kernel_rfl) (door_met os _)) ?_
  intro W base args ds gs before hval0 hW _ _ hL _
  have hval : ∀ (j : Nat) t v, Tryd.f6.params[j]? = some t → args[j]? = some v → Value.okWide Tryd.prog W .any base t v := hval0
  have hW' := hW
  obtain ⟨p, q, hA0, hV, rfl, hfz, hnd⟩ := hW
  have hA : DataW.TrodAll enc Tryd.prog W 0 (fun _ => true) true Tryd.f6.params.toList args.toList ds p := hA0
  rw [Tryd.params6] at hA hval
  obtain ⟨v0, vs0, d0, ds0, p0, q0, hargs, rfl, rfl, h0, r0⟩ := trodAll_cons hA
  obtain ⟨v1, vs1, d1, ds1, p1, q1, rfl, rfl, rfl, h1, r1⟩ := trodAll_cons r0
  obtain ⟨rfl, rfl, rfl⟩ := trodAll_nil r1
  obtain rfl : args = #[v0, v1] := by cases args; simp_all
  obtain ⟨rfl, rfl⟩ := trodVars_none hV
  have k0 := h0
  have lt0 : ∀ x ∈ p0, x.block < W.heap.size := by obtain ⟨m, hm⟩ := k0; exact DataW.trod_lt m _ _ _ hm
  obtain ⟨a0, len0, cap0, zs0, rfl, w0⟩ := in_ints (k := .u8) Tryd.underlying22 Tryd.underlying5 (by kernel_rfl) (hval 0 22 v0 rfl rfl) h0
  obtain ⟨s1, rfl, rfl, rfl, w1⟩ := Go.ChangeMaps.open_string Tryd.underlying9 (hval 1 9 v1 rfl rfl) h1
  clear hA0 hval0
  refine (walk a0 len0 cap0 zs0 s1 W w0 w1 (of_laid hL)).mono fun e W' ⟨he, bel⟩ => ?_
  subst he
  exact ⟨_, rfl, _, _, _, [], _, [], hW', trodAll_mk1 (shut_bool Tryd.underlying4 _), (trodAll_cons_mk (Below.trod laidOut (by kernel_rfl) (of_decide_eq_true (by kernel_rfl)) k0 bel lt0) (trodAll_cons_mk (Go.ChangeMaps.shut_string Tryd.underlying9 w1) trodAll_mk0)), rfl, bel.frame _, fun h => by cases h⟩

theorem over : Rows.TokenBackSaid :=
  OpenClaim.holds_of_wide 6 Tryd.f6 rfl rfl rfl rfl rfl rfl rfl ⟨rfl, rfl, rfl, rfl, rfl⟩ rfl rfl rfl rfl rfl (by kernel_rfl) Tryd.func6 (by kernel_rfl)
    (of_decide_eq_true (by kernel_rfl)) (by unfold Func.isWrapper; first | (rw [if_pos (by decide +kernel)]; kernel_rfl) | (rw [if_neg (by decide +kernel)]; exact ⟨rfl, rfl⟩))
    (fun os started H enc _ => lifted os started H enc)

/-- the tied card -/
theorem proved : Rows.TokenBackCardSaid :=
  Claim7.holds_tied_plain_at .later [] [.data, .data, .data, .sentinel, .sentinel] true (true, "62c0e0e96b186542d320bd5fe24d4da4f1519c46bb236dad17c4b7e9d6b54aa8") true
    over (fun _ h => by cases h) (by kernel_rfl) (fun _ h => by cases h) tokenBack_row_tie rfl ⟨rfl, rfl⟩ (by kernel_rfl) rfl
    (fun f fn hf hfn => by
      obtain rfl : f = 6 := Option.some.inj ((show Tryd.prog.funcNamed "warmpath/warmpathlaw03.TokenBack" = some 6 by kernel_rfl).symm.trans hf) |>.symm
      obtain rfl : fn = Tryd.f6 := (Option.some.inj (Tryd.func6.symm.trans hfn)).symm
      exact ⟨by kernel_rfl, fun j t ht => by
        rw [Tryd.params6] at ht
        have hm : t ∈ [22, 9] := by simpa using Array.mem_of_getElem? ht
        have hall : ([22, 9].all fun u => !Tryd.prog.wantsStandIn u) = true := by kernel_rfl
        exact (show Tryd.prog.wantsStandIn t = false by simpa using List.all_eq_true.1 hall t hm)⟩)
    (by kernel_rfl)
#print axioms proved
end Go.Proofs.YthcagbplolcbpaaDoor.tokenBack
