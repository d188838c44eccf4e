/-
  For all inputs a changed byte of a payload or of its checksum is noticed as a wrong sum; no condition beyond the listed table, which is tied.
-/
import Derived.Test.YtfgjnkgadnmegaaDoorAwake
import Derived.Test.YtfgjnkgadnmegaaDoorLaidT
import Derived.Test.YtfgjnkgadnmegaaDoorTie
import Derived.Test.YtfgjnkgadnmegaaDoorCards
namespace Go.Proofs.YtfgjnkgadnmegaaDoor.codecDamage
open Go.ChangeShapes Go.WideShapes Go.ChangeAt Go.RowKit
set_option linter.unusedVariables false


theorem le4_inj {c d : Nat} (h : le4 c = le4 d) : c = d := by
  unfold le4 at h
  injection h with h0 h
  injection h with h1 h
  injection h with h2 h
  injection h with h3 h
  omega
theorem damage {ps : List Nat} {L j y : Nat} (hl : ps.length = L) (hL : L ≤ 1000) (hps : Byt ps) (hj : j < L + 4) (hy : y < 256) (hne : y ≠ (ps ++ le4 (crc ps)).getD j 0) :
    fd (uenc L ++ (ps ++ le4 (crc ps)).set j y) = ([], 0, 4) := by
  obtain ⟨c, hc⟩ : ∃ c, crc ps = c := ⟨_, rfl⟩
  rw [hc] at hne ⊢
  have hu := ud_enc (n := L) (by omega) ((ps ++ le4 c).set j y)
  unfold fd
  rw [hu]
  simp only
  rw [if_neg (by simp), if_neg (by omega), if_neg (by simp [le4]; omega), if_neg]
  have hd : ∀ m, (uenc L ++ (ps ++ le4 c).set j y).drop ((uenc L).length + m) = ((ps ++ le4 c).set j y).drop m := by
    intro m; rw [List.drop_append, List.drop_eq_nil_of_le (by omega), Nat.add_sub_cancel_left, List.nil_append]
  have hd0 := hd 0
  rw [Nat.add_zero, List.drop_zero] at hd0
  rw [hd L, hd0]
  by_cases hjL : j < L
  · rw [List.set_append_left _ _ (by omega)]
    rw [List.take_left' (by simp [hl]), List.drop_left' (by simp [hl])]
    intro e
    have e1 : (le4 c).take 4 = le4 c := rfl
    rw [e1] at e
    have e2 := le4_inj e
    rw [← hc] at e2
    have hj' : j < ps.length := by omega
    have hx : ps = ps.take j ++ ps[j] :: ps.drop (j + 1) := by rw [← List.drop_eq_getElem_cons hj', List.take_append_drop]
    have hs : ps.set j y = ps.take j ++ y :: ps.drop (j + 1) := by rw [List.set_eq_take_append_cons_drop]; simp [hj']
    have hg : (ps ++ le4 c).getD j 0 = ps[j] := by simp [List.getD, List.getElem?_append_left hj', hj']
    rw [hg] at hne
    rw [hs] at e2
    conv at e2 => lhs; rw [hx]
    exact crc_change (hps.take j) (hps.drop (j + 1)) (hps _ (List.getElem_mem hj')) hy (fun e => hne e.symm) e2
  · rw [List.set_append_right _ _ (by omega)]
    rw [List.take_left' hl, List.drop_left' hl, hc]
    intro e
    have e1 : ((le4 c).set (j - ps.length) y).take 4 = (le4 c).set (j - ps.length) y := List.take_of_length_le (by simp [le4])
    rw [e1] at e
    apply hne
    have hg : (ps ++ le4 c).getD j 0 = (le4 c).getD (j - ps.length) 0 := by simp [List.getD, List.getElem?_append_right (show ps.length ≤ j by omega)]
    rw [hg, ← e]
    simp [List.getD, le4, show j - ps.length < 4 by omega]
theorem frame_byt {ps : List Nat} (h : Byt ps) : Byt (frame ps) := by
  unfold frame
  refine Byt.append (Byt.append (uenc_byt _) h) ?_
  have := crc_lt h
  intro x hx
  simp only [le4, List.mem_cons, List.not_mem_nil, or_false] at hx
  rcases hx with rfl | rfl | rfl | rfl <;> omega
theorem byts_set (zs : List Nat) (j y : Nat) : byts (zs.set j y) = (byts zs).set j (.int .u8 ((y : Nat) : Int)) := by simp
theorem xor_ne {x b : Nat} (h : b ≠ 0) : x ^^^ b ≠ x := by
  intro e
  apply h
  have : x ^^^ b = x ^^^ 0 := by rw [e, Nat.xor_zero]
  exact xor_left this
set_option maxRecDepth 100000 in
set_option maxHeartbeats 4000000 in
theorem walk (a : Option Addr) (len cap : Nat) (zs : List Int) (x1 x2 : Int) (w : World) (w0 : InInts .u8 w a len cap zs) (w1 : (Lit.int .u16 x1).wf = true) (w2 : (Lit.int .u8 x2).wf = true) (hl : Laid w) :
    Calls Tryd.prog 6 #[.slice a len cap, .int .u16 x1, .int .u8 x2] w fun e w' => e = .returned (.bool true) ∧ Below w.heap.size w w' := by
  obtain ⟨i0, hi0, hz0, hz1, hz2⟩ := info_parts Tryd.info5
  obtain ⟨K, hK, rfl⟩ : ∃ N : Nat, N < 65536 ∧ x1 = N := ⟨x1.toNat, by have := bounds_u16 w1; omega, by have := bounds_u16 w1; omega⟩
  obtain ⟨B, hB, rfl⟩ : ∃ N : Nat, N < 256 ∧ x2 = N := ⟨x2.toNat, by have := bounds_u8 w2; omega, by have := bounds_u8 w2; omega⟩
  obtain ⟨ps, hps, hpb, hbs⟩ := in_byts w0
  have HL := Lib.hid hl
  have HB := Lib.hid hbs
  have HPB := Lib.hid hpb
  have hlc := hbs.2.1
  have hcm := hbs.2.2.1
  clear w0 w1 w2 hl hbs hpb
  by_cases hbig : 1000 < len
  · go_enter Tryd.func6, Tryd.ntmps6
    go_wp2_with fail
    refine (awake_any _ HL.out).mono ?_
    rintro e w1 ⟨rfl, hb1⟩
    go_wp2_with fail
    go_ret
    exact ⟨rfl, hb1⟩
  · by_cases hB0 : B = 0
    · subst hB0
      go_enter Tryd.func6, Tryd.ntmps6
      go_wp2_with fail
      refine (awake_any _ HL.out).mono ?_
      rintro e w1 ⟨rfl, hb1⟩
      go_wp2_with fail
      go_ret
      exact ⟨rfl, hb1⟩
    · have d0 : ((B : Int) == 0) = false := by simp; omega
      have HB0 := Lib.hid hB0
      clear hB0
      go_enter Tryd.func6, Tryd.ntmps6
      go_wp2_with fail
      refine (awake_any _ HL.out).mono ?_
      rintro e w1 ⟨rfl, hb1⟩
      go_wp2_with fail
      refine (PutFrame_any none a 0 0 len cap [] ps (by omega) (by omega) HPB.out _ (nil_bs _) (HB.out.below hb1) (HL.out.below hb1)).mono ?_
      rintro e w2 (⟨hx, _⟩ | ⟨_, v2, rfl, hown2, hb2⟩)
      · omega
      rw [List.nil_append] at hown2
      have hlf : (frame ps).length = (uenc len).length + len + 4 := by unfold frame; rw [hps]; simp [le4]; omega
      have hu := uenc_len10 (n := len) (by omega)
      obtain ⟨h, hh⟩ : ∃ h, (uenc len).length = h := ⟨_, rfl⟩
      rw [hh] at hlf hu
      rw [hlf] at hown2
      obtain ⟨a2, cap2, rfl, hbs2⟩ := Bs.of_own hown2
      have hb12 := hb1.trans (hb2.mono hb1.size)
      have HH := Lib.hid hh
      have HLF := Lib.hid hlf
      clear hown2 hb1 hb2 hh hlf
      go_wp2_with fail
      refine (PutUint_any none 0 0 len [] (by omega) (by omega) _ (nil_bs _)).mono ?_
      rintro e w3 ⟨v3, rfl, hown3, hb3⟩
      rw [List.nil_append, HH.out] at hown3
      obtain ⟨a3, cap3, rfl, hbs3⟩ := Bs.of_own hown3
      have hb13 := hb12.trans (hb3.mono hb12.size)
      have H2 := Lib.hid (hbs2.below hb3)
      obtain ⟨j, hj⟩ : ∃ j, K % (len + 4) = j := ⟨_, rfl⟩
      have hjl : j < len + 4 := by rw [← hj]; exact Nat.mod_lt _ (by omega)
      have er : (K : Int) % ((h : Int) + (len : Int) + 4 - (h : Int)) = (j : Int) := by
        rw [← hj, show (h : Int) + (len : Int) + 4 - (h : Int) = ((len + 4 : Nat) : Int) by omega]; exact (Int.natCast_emod K (len + 4)).symm
      obtain ⟨x, hxx⟩ : ∃ x, (frame ps).getD (h + j) 0 = x := ⟨_, rfl⟩
      have hfb : Byt (frame ps) := frame_byt HPB.out
      have hxl : x < 256 := by rw [← hxx]; exact hfb.get _
      obtain ⟨y, hy⟩ : ∃ y, x ^^^ B = y := ⟨_, rfl⟩
      have hyl : y < 256 := by rw [← hy]; exact Nat.xor_lt_two_pow (n := 8) hxl hB
      have ex := u8_xor_nat x B hxl hB
      rw [hy] at ex
      have hyx : y ≠ x := by rw [← hy]; exact xor_ne HB0.out
      have hfe : frame ps = uenc len ++ (ps ++ le4 (crc ps)) := by unfold frame; rw [hps, List.append_assoc]
      have hfd : fd ((frame ps).set (h + j) y) = ([], 0, 4) := by
        rw [hfe, List.set_append_right _ _ (by rw [HH.out]; omega), HH.out, Nat.add_sub_cancel_left]
        refine damage hps (by omega) HPB.out hjl hyl ?_
        rw [hfe] at hxx
        have := getD_append_right (uenc len) (ps ++ le4 (crc ps)) j 0
        rw [HH.out] at this
        rw [← this, hxx]; exact hyx
      have hfb2 : Byt ((frame ps).set (h + j) y) := by
        intro z hz
        rcases List.mem_or_eq_of_mem_set hz with hz | rfl
        · exact hfb z hz
        · exact hyl
      have HFD := Lib.hid hfd
      have HFB := Lib.hid hfb2
      clear hown3 hbs2 hbs3 hb12 hb3 hj hfb hy hyx hfe hfd hfb2
      go_wp2_with (at_builtin; refine wpList_append_src rfl _ _ _ rfl w3.heap.size 5 i0 _ 1 1 Tryd.underlying22 hi0 hz0 hz1 hz2 rfl (by omega) _ _ _ rfl (World.ownsRow_nil _ _ _ _) a2 (h + len + 4) cap2 (byts (frame ps)) rfl H2.out.2.1 H2.out.2.2.2.1 (by simp [H2.out.1]) H2.out.2.2.2.2 (byts_one _) (by unfold maxLen; omega) (by omega) (Nat.le_refl _) ?_; intro v4 w4 hown4 hgr4; have hb4 := (Below.refl w3.heap.size w3).grown hgr4 (Nat.le_refl _) (fun k e => by cases e); rw [Nat.zero_add, List.nil_append] at hown4; clear hgr4; obtain ⟨g4, cap4, rfl, hg1, hg2, hg3, hg4, hg5, hg6⟩ := own_block hown4 (byts_ne _ 0 (by rw [HLF.out]; omega)); have cj := hg6 (h + j) _ (byts_get (frame ps) (h + j) (by rw [HLF.out]; omega)); have fj := World.ownsRow.frozenAt hown4 (h + j); have HST := Lib.hid (World.ownsRow.stored hown4 (h + j) (.int .u8 y)).1; rw [hxx] at cj; clear hown4 hg5 hg6)
      have HST2 : Hid ((w4.setCell ⟨g4, h + j, none⟩ (.int .u8 (y : Int))).ownsRow w3.heap.size 5 1 (.slice (some ⟨g4, 0, none⟩) (h + len + 4) cap4) (h + len + 4) (byts ((frame ps).set (h + j) y))) := Lib.hid (by
        have := HST.out
        rw [← byts_set] at this
        exact this)
      have hb5 := hb4.setCell (p := ⟨g4, h + j, none⟩) hg1 (.int .u8 (y : Int))
      have hb15 := hb13.trans (hb5.mono hb13.size)
      obtain ⟨w5, hw5⟩ : ∃ w5, w4.setCell ⟨g4, h + j, none⟩ (.int .u8 (y : Int)) = w5 := ⟨_, rfl⟩
      rw [hw5] at HST2 hb15
      try rw [hw5]
      obtain ⟨a5, cap5, he5, hbs5⟩ := Bs.of_own HST2.out
      injection he5 with he5 _ he6
      subst he5 he6
      have H5 := Lib.hid hbs5
      clear hbs5 hb5 hb4 HST2 HST hb13 cj fj
      refine (Frame_any _ (h + len + 4) cap4 ((frame ps).set (h + j) y) (by omega) HFB.out _ H5.out (HL.out.below hb15)).mono ?_
      rintro e w6 ⟨v6, rfl, hown6, hb6⟩
      rw [HFD.out]
      clear hown6
      have hend := hb15.trans (hb6.mono hb15.size)
      clear hb6 hb15
      go_wp2_with fail
      go_ret
      exact ⟨rfl, hend⟩

/-! ### THE ROW's STEP -/
set_option maxRecDepth 100000 in
theorem lifted (os : Os) (started : os.Started) (H : Type) (enc : TypeId × Value → H) :
    ReturnsInHanded {} Tryd.checked os 6 .any (fun w args => (Rows.codecDamageSpec.pre enc Tryd.prog Tryd.f6 [] false w args ∧ laidMetH Tryd.prog [("warmpath/codec.remainders", Rows.laid_warmpath_codec_remainders)] w) ∧ sizedMet enc Tryd.prog Tryd.f6 (OpenSpec.ofChange Rows.codecDamageSpec) false w args)
      (Rows.codecDamageSpec.post enc Tryd.prog Tryd.f6 false true false false) := by
  refine returnsInHanded_of_change_and (C := Tryd.checked) (X := fun w _ => laidMetH Tryd.prog [("warmpath/codec.remainders", Rows.laid_warmpath_codec_remainders)] w) (fun _ _ _ hh h => h.of_heap hh) own started (by kernel_rfl) Tryd.func6
    (ChangeSpec.witness_shaped (enc := enc) (C := Tryd.checked) (os := os) (X := fun w _ => laidMetH Tryd.prog [("warmpath/codec.remainders", Rows.laid_warmpath_codec_remainders)] w) false (World.doorLaid Tryd.prog 400 os) #[.slice none 0 0, .int .u16 0, .int .u8 0] 8 rfl (World.shaped_of_RefB (by kernel_rfl) (by kernel_rfl)) (by kernel_rfl) (by kernel_rfl) (by kernel_rfl) (door_met os _)) ?_
  intro W base args ds gs before hval0 hW _ _ hL _
  have hval : ∀ (j : Nat) t v, Tryd.f6.params[j]? = some t → args[j]? = some v → Value.okWide Tryd.prog W .any base t v := hval0
  have hW' := hW
  obtain ⟨p, q, hA0, hV, rfl, hfz, hnd⟩ := hW
  have hA : DataW.TrodAll enc Tryd.prog W 0 (fun _ => true) true Tryd.f6.params.toList args.toList ds p := hA0
  rw [Tryd.params6] at hA hval
  obtain ⟨v0, vs0, d0, ds0, p0, q0, hargs, rfl, rfl, h0, r0⟩ := trodAll_cons hA
  obtain ⟨v1, vs1, d1, ds1, p1, q1, rfl, rfl, rfl, h1, r1⟩ := trodAll_cons r0
  obtain ⟨v2, vs2, d2, ds2, p2, q2, rfl, rfl, rfl, h2, r2⟩ := trodAll_cons r1
  obtain ⟨rfl, rfl, rfl⟩ := trodAll_nil r2
  obtain rfl : args = #[v0, v1, v2] := by cases args; simp_all
  obtain ⟨rfl, rfl⟩ := trodVars_none hV
  have k0 := h0
  have lt0 : ∀ x ∈ p0, x.block < W.heap.size := by obtain ⟨m, hm⟩ := k0; exact DataW.trod_lt m _ _ _ hm
  obtain ⟨a0, len0, cap0, zs0, rfl, w0⟩ := in_ints (k := .u8) Tryd.underlying22 Tryd.underlying5 (by kernel_rfl) (hval 0 22 v0 rfl rfl) h0
  obtain ⟨a1, rfl, rfl, rfl, w1⟩ := open_int Tryd.underlying47 (hval 1 47 v1 rfl rfl) h1
  obtain ⟨a2, rfl, rfl, rfl, w2⟩ := open_int Tryd.underlying5 (hval 2 5 v2 rfl rfl) h2
  clear hA0 hval0
  refine (walk a0 len0 cap0 zs0 a1 a2 W w0 w1 w2 (of_laid hL)).mono fun e W' ⟨he, bel⟩ => ?_
  subst he
  exact ⟨_, rfl, _, _, _, [], _, [], hW', trodAll_mk1 (shut_bool Tryd.underlying4 _), (trodAll_cons_mk (Below.trod laidOut (by kernel_rfl) (of_decide_eq_true (by kernel_rfl)) k0 bel lt0) (trodAll_cons_mk (shut_int Tryd.underlying47 w1) (trodAll_cons_mk (shut_int Tryd.underlying5 w2) trodAll_mk0))), rfl, bel.frame _, fun h => by cases h⟩

theorem over : Rows.CodecDamageSaid :=
  OpenClaim.holds_of_wide 6 Tryd.f6 rfl rfl rfl rfl rfl rfl rfl ⟨rfl, rfl, rfl, rfl, rfl⟩ rfl rfl rfl rfl rfl (by kernel_rfl) Tryd.func6 (by kernel_rfl)
    (of_decide_eq_true (by kernel_rfl)) (by unfold Func.isWrapper; first | (rw [if_pos (by decide +kernel)]; kernel_rfl) | (rw [if_neg (by decide +kernel)]; exact ⟨rfl, rfl⟩))
    (fun os started H enc _ => lifted os started H enc)

/-- the tied card -/
theorem proved : Rows.CodecDamageCardSaid :=
  Claim7.holds_tied_plain_at .later [] [.data] true (true, "61aeac0dd48ce8b2014925adcdba2620fba36b42f97a5ce8af2eb1bcb5960bdd") false
    over (fun _ h => by cases h) (by kernel_rfl) (fun _ h => by cases h) codecDamage_row_tie rfl ⟨rfl, rfl⟩ (by kernel_rfl) rfl
    (fun f fn hf hfn => by
      obtain rfl : f = 6 := Option.some.inj ((show Tryd.prog.funcNamed "warmpath/warmpathlaw01.CodecDamage" = some 6 by kernel_rfl).symm.trans hf) |>.symm
      obtain rfl : fn = Tryd.f6 := (Option.some.inj (Tryd.func6.symm.trans hfn)).symm
      exact ⟨by kernel_rfl, fun j t ht => by
        rw [Tryd.params6] at ht
        have hm : t ∈ [22, 47, 5] := by simpa using Array.mem_of_getElem? ht
        have hall : ([22, 47, 5].all fun u => !Tryd.prog.wantsStandIn u) = true := by kernel_rfl
        exact (show Tryd.prog.wantsStandIn t = false by simpa using List.all_eq_true.1 hall t hm)⟩)
    (by kernel_rfl)
#print axioms proved
end Go.Proofs.YtfgjnkgadnmegaaDoor.codecDamage
