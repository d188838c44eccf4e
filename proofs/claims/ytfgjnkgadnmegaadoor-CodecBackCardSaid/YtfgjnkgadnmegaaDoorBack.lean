/-
  For all inputs codec's numbers are read back whatever follows, and a shorter encoding is a smaller number; no condition beyond the listed table, which is tied.
-/
import Derived.Test.YtfgjnkgadnmegaaDoorAwake
import Derived.Test.YtfgjnkgadnmegaaDoorLaidT
import Derived.Test.YtfgjnkgadnmegaaDoorTie
import Derived.Test.YtfgjnkgadnmegaaDoorCards
namespace Go.Proofs.YtfgjnkgadnmegaaDoor.codecBack
open Go.ChangeShapes Go.WideShapes Go.ChangeAt Go.RowKit
set_option linter.unusedVariables false


set_option maxRecDepth 100000 in
set_option maxHeartbeats 4000000 in
theorem walk (x0 x1 x2 : Int) (a : Option Addr) (len cap : Nat) (zs : List Int) (w : World) (w0 : (Lit.int .u64 x0).wf = true) (w1 : (Lit.int .u64 x1).wf = true) (w2 : (Lit.int .i64 x2).wf = true) (w3 : InInts .u8 w a len cap zs) (hl : Laid w) :
    Calls Tryd.prog 4 #[.int .u64 x0, .int .u64 x1, .int .i64 x2, .slice a len cap] w fun e w' => e = .returned (.bool true) ∧ Below w.heap.size w w' := by
  obtain ⟨i0, hi0, hz0, hz1, hz2⟩ := info_parts Tryd.info5
  obtain ⟨N, hN, rfl⟩ : ∃ N : Nat, N < 18446744073709551616 ∧ x0 = N := ⟨x0.toNat, by have := bounds_u64 w0; omega, by have := bounds_u64 w0; omega⟩
  obtain ⟨M, hM, rfl⟩ : ∃ N : Nat, N < 18446744073709551616 ∧ x1 = N := ⟨x1.toNat, by have := bounds_u64 w1; omega, by have := bounds_u64 w1; omega⟩
  have hi := bounds_i64 w2
  have hi1 : -9223372036854775808 ≤ x2 := by omega
  have hi2 : x2 ≤ 9223372036854775807 := by omega
  obtain ⟨ns, hns, hnb, hbs⟩ := in_byts w3
  have HL := Lib.hid hl
  have HB := Lib.hid hbs
  have HNB := Lib.hid hnb
  have hlc := hbs.2.1
  have hcm := hbs.2.2.1
  clear w0 w1 w2 w3 hl hbs hnb hi
  by_cases hbig : 200 < len
  · go_enter Tryd.func4, Tryd.ntmps4
    go_wp2_with fail
    refine (awake_any _ HL.out).mono ?_
    rintro e w1 ⟨rfl, hb1⟩
    go_wp2_with fail
    go_ret
    exact ⟨rfl, hb1⟩
  · go_enter Tryd.func4, Tryd.ntmps4
    go_wp2_with fail
    refine (awake_any _ HL.out).mono ?_
    rintro e w1 ⟨rfl, hb1⟩
    go_wp2_with fail
    have hu1 := uenc_len10 hN
    have hu2 := uenc_len10 hM
    have hu3 := uenc_len10 (zig_lt hi1 hi2)
    have hp3 := uenc_pos (zig x2)
    have hmono := uenc_mono N M
    have hd1 := ud_enc hN ns
    have hd2 := ud_enc (zig_lt hi1 hi2) ns
    have hby1 : Byt (uenc N ++ ns) := Byt.append (uenc_byt N) HNB.out
    have hby2 : Byt (uenc (zig x2) ++ ns) := Byt.append (uenc_byt _) HNB.out
    have hzz := zag_zig x2
    obtain ⟨z, hz⟩ : ∃ z, zig x2 = z := ⟨_, rfl⟩
    rw [hz] at hu3 hd2 hby2 hzz hp3
    refine (PutUint_any none 0 0 N [] (by omega) hN _ (nil_bs _)).mono ?_
    rintro e w2 ⟨v2, rfl, hown2, hb2⟩
    rw [List.nil_append] at hown2
    obtain ⟨a2, cap2, rfl, hbs2⟩ := Bs.of_own hown2
    obtain ⟨p, hp⟩ : ∃ p, (uenc N).length = p := ⟨_, rfl⟩
    rw [hp] at hbs2 hu1 hd1 hmono ⊢
    clear hown2
    go_wp2_with fail
    refine (PutUint_any none 0 0 M [] (by omega) hM _ (nil_bs _)).mono ?_
    rintro e w3 ⟨v3, rfl, hown3, hb3⟩
    rw [List.nil_append] at hown3
    obtain ⟨a3, cap3, rfl, hbs3⟩ := Bs.of_own hown3
    obtain ⟨q, hq⟩ : ∃ p, (uenc M).length = p := ⟨_, rfl⟩
    rw [hq] at hbs3 hu2 hmono ⊢
    have hb13 := (hb1.trans (hb2.mono hb1.size)).trans (hb3.mono (by have := hb1.size; have := hb2.size; omega))
    have H2 := Lib.hid (hbs2.below hb3)
    have HM := Lib.hid hmono
    have HD1 := Lib.hid hd1
    have HD2 := Lib.hid hd2
    have HY1 := Lib.hid hby1
    have HY2 := Lib.hid hby2
    have HZ := Lib.hid hz
    have HZZ := Lib.hid hzz
    have HZB := Lib.hid (show z < 18446744073709551616 by rw [← hz]; exact zig_lt hi1 hi2)
    have HP := Lib.hid hp
    clear hown3 hbs2 hbs3 hb1 hb2 hb3 hmono hd1 hd2 hby1 hby2 hz hzz hp hq hM hN
    go_wp2_with (first | (at_builtin; refine wpList_append_src rfl _ _ _ rfl w3.heap.size 5 i0 _ 1 1 Tryd.underlying22 hi0 hz0 hz1 hz2 rfl (by omega) _ _ _ rfl (World.ownsRow_nil _ _ _ _) a2 p cap2 (byts (uenc N)) rfl H2.out.2.1 H2.out.2.2.2.1 (by simp [H2.out.1]) H2.out.2.2.2.2 (byts_one _) (by unfold maxLen; omega) (by omega) (Nat.le_refl _) ?_; intro v4 w4 hown4 hgr4; have hb4 := (Below.refl w3.heap.size w3).grown hgr4 (Nat.le_refl _) (fun k e => by cases e); clear hgr4; rw [Nat.zero_add, List.nil_append] at hown4; have hsz4 := hb4.size; have H4 := Lib.hid (HB.out.below (hb13.trans (hb4.mono hb13.size)))) | (at_builtin; refine wpList_append_src rfl _ _ _ rfl w3.heap.size 5 i0 _ 1 1 Tryd.underlying22 hi0 hz0 hz1 hz2 rfl (by omega) _ _ _ rfl hown4 a len cap (byts ns) rfl H4.out.2.1 H4.out.2.2.2.1 (by simp [H4.out.1]) H4.out.2.2.2.2 (byts_one _) (by unfold maxLen; omega) (by omega) (by omega) ?_; intro v5 w5 hown5 hgr5; have hb5 := hb4.grown hgr5 (by omega) (fun k e => (hown4.lt k e).1); clear hgr5))
    rw [← byts_append] at hown5
    obtain ⟨a5, cap5, rfl, hbs5⟩ := Bs.of_own hown5
    have H5 := Lib.hid hbs5
    clear hown4 hown5 hbs5
    go_wp2_with fail
    refine (Uint_any a5 (p + len) cap5 (uenc N ++ ns) (by omega) HY1.out _ H5.out).mono ?_
    rintro e w6 ⟨he, rfl⟩
    rw [HD1.out] at he
    subst he
    have hb15 := hb13.trans (hb5.mono hb13.size)
    have hsz5 := hb5.size
    clear hb4 hb5
    go_wp2_with fail
    refine (PutInt_any none 0 0 x2 [] (by omega) hi1 hi2 _ (nil_bs _)).mono ?_
    rintro e w7 ⟨v7, rfl, hown7, hb7⟩
    rw [List.nil_append, HZ.out] at hown7
    obtain ⟨a7, cap7, rfl, hbs7⟩ := Bs.of_own hown7
    obtain ⟨r, hr⟩ : ∃ p, (uenc z).length = p := ⟨_, rfl⟩
    have HR := Lib.hid hr
    rw [hr] at hu3 hp3 hbs7 ⊢
    have H7 := Lib.hid hbs7
    have hb17 := hb15.trans (hb7.mono hb15.size)
    clear hown7 hbs7 hr
    go_wp2_with (first | (at_builtin; refine wpList_append_src rfl _ _ _ rfl w7.heap.size 5 i0 _ 1 1 Tryd.underlying22 hi0 hz0 hz1 hz2 rfl (by omega) _ _ _ rfl (World.ownsRow_nil _ _ _ _) a7 r cap7 (byts (uenc z)) rfl H7.out.2.1 H7.out.2.2.2.1 (by simp [H7.out.1]) H7.out.2.2.2.2 (byts_one _) (by unfold maxLen; omega) (by omega) (Nat.le_refl _) ?_; intro v8 w8 hown8 hgr8; have hb8 := (Below.refl w7.heap.size w7).grown hgr8 (Nat.le_refl _) (fun k e => by cases e); clear hgr8; rw [Nat.zero_add, List.nil_append] at hown8; have hsz8 := hb8.size; have H8 := Lib.hid (HB.out.below (hb17.trans (hb8.mono hb17.size)))) | (at_builtin; refine wpList_append_src rfl _ _ _ rfl w7.heap.size 5 i0 _ 1 1 Tryd.underlying22 hi0 hz0 hz1 hz2 rfl (by omega) _ _ _ rfl hown8 a len cap (byts ns) rfl H8.out.2.1 H8.out.2.2.2.1 (by simp [H8.out.1]) H8.out.2.2.2.2 (byts_one _) (by unfold maxLen; omega) (by omega) (by omega) ?_; intro v9 w9 hown9 hgr9; have hb9 := hb8.grown hgr9 (by omega) (fun k e => (hown8.lt k e).1); clear hgr9))
    rw [← byts_append] at hown9
    obtain ⟨a9, cap9, rfl, hbs9⟩ := Bs.of_own hown9
    have H9 := Lib.hid hbs9
    have hb19 := hb17.trans (hb9.mono hb17.size)
    clear hown8 hown9 hbs9 hb8 hb9 hb17 hb15 hb13 hb7
    go_wp2_with fail
    refine (Int_any a9 (r + len) cap9 (uenc z ++ ns) (by omega) HY2.out _ H9.out).mono ?_
    rintro e w10 ⟨he, rfl⟩
    rw [HD2.out, HR.out] at he
    simp only [HZZ.out] at he
    subst he
    have d0 : ((N : Int) == (N : Int)) = true := by simp
    have d1 : ((p : Int) == (p : Int)) = true := by simp
    have d2 : (x2 == x2) = true := by simp
    have d3 : decide ((0 : Int) < (r : Int)) = true := by simp; omega
    have HQ := Lib.hid (show (decide (q ≤ p) || decide (N < M)) = true by
      by_cases hpq : q ≤ p
      · simp [hpq]
      · have := HM.out (by omega); simp [this])
    go_wp2_with fail
    all_goals go_ret
    all_goals first | exact ⟨rfl, hb19⟩ | exact ⟨congrArg (fun b => Ending.returned (Value.bool b)) HQ.out, hb19⟩

/-! ### THE ROW's STEP -/
set_option maxRecDepth 100000 in
theorem lifted (os : Os) (started : os.Started) (H : Type) (enc : TypeId × Value → H) :
    ReturnsInHanded {} Tryd.checked os 4 .any (fun w args => (Rows.codecBackSpec.pre enc Tryd.prog Tryd.f4 [] false w args ∧ laidMetH Tryd.prog [("warmpath/codec.remainders", Rows.laid_warmpath_codec_remainders)] w) ∧ sizedMet enc Tryd.prog Tryd.f4 (OpenSpec.ofChange Rows.codecBackSpec) false w args)
      (Rows.codecBackSpec.post enc Tryd.prog Tryd.f4 false true false false) := by
  refine returnsInHanded_of_change_and (C := Tryd.checked) (X := fun w _ => laidMetH Tryd.prog [("warmpath/codec.remainders", Rows.laid_warmpath_codec_remainders)] w) (fun _ _ _ hh h => h.of_heap hh) own started (by kernel_rfl) Tryd.func4
    (ChangeSpec.witness_shaped (enc := enc) (C := Tryd.checked) (os := os) (X := fun w _ => laidMetH Tryd.prog [("warmpath/codec.remainders", Rows.laid_warmpath_codec_remainders)] w) false (World.doorLaid Tryd.prog 400 os) #[.int .u64 0, .int .u64 0, .int .i64 0, .slice none 0 0] 8 rfl (World.shaped_of_RefB (by kernel_rfl) (by kernel_rfl)) (by kernel_rfl) (by kernel_rfl) (by kernel_rfl) (door_met os _)) ?_
  intro W base args ds gs before hval0 hW _ _ hL _
  have hval : ∀ (j : Nat) t v, Tryd.f4.params[j]? = some t → args[j]? = some v → Value.okWide Tryd.prog W .any base t v := hval0
  have hW' := hW
  obtain ⟨p, q, hA0, hV, rfl, hfz, hnd⟩ := hW
  have hA : DataW.TrodAll enc Tryd.prog W 0 (fun _ => true) true Tryd.f4.params.toList args.toList ds p := hA0
  rw [Tryd.params4] at hA hval
  obtain ⟨v0, vs0, d0, ds0, p0, q0, hargs, rfl, rfl, h0, r0⟩ := trodAll_cons hA
  obtain ⟨v1, vs1, d1, ds1, p1, q1, rfl, rfl, rfl, h1, r1⟩ := trodAll_cons r0
  obtain ⟨v2, vs2, d2, ds2, p2, q2, rfl, rfl, rfl, h2, r2⟩ := trodAll_cons r1
  obtain ⟨v3, vs3, d3, ds3, p3, q3, rfl, rfl, rfl, h3, r3⟩ := trodAll_cons r2
  obtain ⟨rfl, rfl, rfl⟩ := trodAll_nil r3
  obtain rfl : args = #[v0, v1, v2, v3] := by cases args; simp_all
  obtain ⟨rfl, rfl⟩ := trodVars_none hV
  obtain ⟨a0, rfl, rfl, rfl, w0⟩ := open_int Tryd.underlying23 (hval 0 23 v0 rfl rfl) h0
  obtain ⟨a1, rfl, rfl, rfl, w1⟩ := open_int Tryd.underlying23 (hval 1 23 v1 rfl rfl) h1
  obtain ⟨a2, rfl, rfl, rfl, w2⟩ := open_int Tryd.underlying3 (hval 2 3 v2 rfl rfl) h2
  have k3 := h3
  have lt3 : ∀ x ∈ p3, x.block < W.heap.size := by obtain ⟨m, hm⟩ := k3; exact DataW.trod_lt m _ _ _ hm
  obtain ⟨a3, len3, cap3, zs3, rfl, w3⟩ := in_ints (k := .u8) Tryd.underlying22 Tryd.underlying5 (by kernel_rfl) (hval 3 22 v3 rfl rfl) h3
  clear hA0 hval0
  refine (walk a0 a1 a2 a3 len3 cap3 zs3 W w0 w1 w2 w3 (of_laid hL)).mono fun e W' ⟨he, bel⟩ => ?_
  subst he
  exact ⟨_, rfl, _, _, _, [], _, [], hW', trodAll_mk1 (shut_bool Tryd.underlying4 _), (trodAll_cons_mk (shut_int Tryd.underlying23 w0) (trodAll_cons_mk (shut_int Tryd.underlying23 w1) (trodAll_cons_mk (shut_int Tryd.underlying3 w2) (trodAll_cons_mk (Below.trod laidOut (by kernel_rfl) (of_decide_eq_true (by kernel_rfl)) k3 bel lt3) trodAll_mk0)))), rfl, bel.frame _, fun h => by cases h⟩

theorem over : Rows.CodecBackSaid :=
  OpenClaim.holds_of_wide 4 Tryd.f4 rfl rfl rfl rfl rfl rfl rfl ⟨rfl, rfl, rfl, rfl, rfl⟩ rfl rfl rfl rfl rfl (by kernel_rfl) Tryd.func4 (by kernel_rfl)
    (of_decide_eq_true (by kernel_rfl)) (by unfold Func.isWrapper; first | (rw [if_pos (by decide +kernel)]; kernel_rfl) | (rw [if_neg (by decide +kernel)]; exact ⟨rfl, rfl⟩))
    (fun os started H enc _ => lifted os started H enc)

/-- the tied card -/
theorem proved : Rows.CodecBackCardSaid :=
  Claim7.holds_tied_plain_at .later [] [.data] true (true, "61aeac0dd48ce8b2014925adcdba2620fba36b42f97a5ce8af2eb1bcb5960bdd") false
    over (fun _ h => by cases h) (by kernel_rfl) (fun _ h => by cases h) codecBack_row_tie rfl ⟨rfl, rfl⟩ (by kernel_rfl) rfl
    (fun f fn hf hfn => by
      obtain rfl : f = 4 := Option.some.inj ((show Tryd.prog.funcNamed "warmpath/warmpathlaw01.CodecBack" = some 4 by kernel_rfl).symm.trans hf) |>.symm
      obtain rfl : fn = Tryd.f4 := (Option.some.inj (Tryd.func4.symm.trans hfn)).symm
      exact ⟨by kernel_rfl, fun j t ht => by
        rw [Tryd.params4] at ht
        have hm : t ∈ [23, 23, 3, 22] := by simpa using Array.mem_of_getElem? ht
        have hall : ([23, 23, 3, 22].all fun u => !Tryd.prog.wantsStandIn u) = true := by kernel_rfl
        exact (show Tryd.prog.wantsStandIn t = false by simpa using List.all_eq_true.1 hall t hm)⟩)
    (by kernel_rfl)
#print axioms proved
end Go.Proofs.YtfgjnkgadnmegaaDoor.codecBack
