/-
  It is proved that TokenLimits returns true for every input: names, numbers and texts at their limits are right, and one more is refused, in its line, under the card that ties the five listed variables of the library to the text that lays them.
-/
import Derived.Test.YthcagbplolcbpaaDoorTkK
import Derived.Test.YthcagbplolcbpaaDoorTkL
import Derived.Test.YthcagbplolcbpaaDoorLaidT
import Derived.Test.YthcagbplolcbpaaDoorTie
import Derived.Test.YthcagbplolcbpaaDoorCards
namespace Go.Proofs.YthcagbplolcbpaaDoor.tokenLimits
open Go.ChangeShapes Go.WideShapes Go.ChangeAt Go.RowKit
set_option linter.unusedVariables false

set_option linter.unusedVariables false
set_option linter.unusedSimpArgs false

theorem u8_bounds {z : Int} (h : (Lit.int .u8 z).wf = true) : 0 ≤ z ∧ z ≤ 255 := by
  have h : (decide (IntKind.u8.min ≤ z) && decide (z ≤ IntKind.u8.max)) = true := h
  rw [Bool.and_eq_true, decide_eq_true_iff, decide_eq_true_iff] at h
  have e1 : IntKind.u8.min = 0 := by decide
  have e2 : IntKind.u8.max = 255 := by decide
  omega
theorem sp_some {l : Bt} {w w' : World} {e : Ending} {ts : List Tk} {x : Int} (h : ScanPost l w e w') (hs : scan l = (some ts, x)) (hl : l.length ≤ 65536) : ∃ (a : Option Addr) (cap : Nat), e = .returned (.tuple #[.slice a ts.length cap, .int .i64 0, .int .i64 0]) ∧ Below w.heap.size w w' := by
  obtain ⟨hb, h⟩ := h
  rcases h with ⟨h, _⟩ | ⟨_, h, _⟩ | ⟨_, ts', v, h1, rfl, hown⟩
  · omega
  · rw [hs] at h; cases h
  · rw [hs] at h1
    injection h1 with h1
    subst h1
    obtain ⟨a, cap, rfl, _⟩ := Tks.of_own hown
    exact ⟨a, cap, rfl, hb⟩
theorem sp_none {l : Bt} {w w' : World} {e : Ending} {x : Int} (h : ScanPost l w e w') (hs : scan l = (none, x)) (hl : l.length ≤ 65536) : e = .returned (.tuple #[.slice none 0 0, .int .i64 x, .int .i64 6]) ∧ Below w.heap.size w w' := by
  obtain ⟨hb, h⟩ := h
  rcases h with ⟨h, _⟩ | ⟨_, h, h2⟩ | ⟨_, ts', v, h1, _⟩
  · omega
  · rw [hs] at h2; exact ⟨h2, hb⟩
  · rw [hs] at h1; cases h1
theorem sp_long {l : Bt} {w w' : World} {e : Ending} (h : ScanPost l w e w') (hl : 65536 < l.length) : e = .returned (.tuple #[.slice none 0 0, .int .i64 0, .int .i64 5]) ∧ Below w.heap.size w w' := by
  obtain ⟨hb, h⟩ := h
  rcases h with ⟨_, h⟩ | ⟨h, _⟩ | ⟨h, _⟩
  · exact ⟨h, hb⟩
  · omega
  · omega
theorem st_app (a b : Bt) : st a ++ st b = st (a ++ b) := ByteArray.mk_append_mk a b
set_option maxRecDepth 100000 in
set_option maxHeartbeats 1000000 in
theorem walk (a0 a1 : Int) (a2 : Bool) (w : World) (w0 : (Lit.int .u8 a0).wf = true) (w1 : (Lit.int .u8 a1).wf = true) (hw : Lad w) :
    Calls Tryd.prog 4 #[.int .u8 a0, .int .u8 a1, .bool a2] w fun e w' => e = .returned (.bool true) ∧ Below w.heap.size w w' := by
  obtain ⟨b0, b1⟩ := u8_bounds w0
  obtain ⟨c0, c1⟩ := u8_bounds w1
  obtain ⟨k, rfl⟩ := Int.eq_ofNat_of_zero_le b0
  obtain ⟨n1, rfl⟩ := Int.eq_ofNat_of_zero_le c0
  have HW := Lib.hid hw
  clear hw w0 w1 b0 c0
  go_enter Tryd.func4, Tryd.ntmps4
  go_wp2_with fail
  refine (awake_any w HW.out).mono ?_
  rintro e w2 ⟨rfl, hb2⟩
  have HB2 := Lib.hid hb2
  have HW2 := Lib.hid (HW.out.below hb2)
  clear hb2
  have he : ((n1 : Int) % 20) = ((n1 % 20 : Nat) : Int) := by omega
  obtain ⟨h, hh⟩ : ∃ h, n1 % 20 = h := ⟨_, rfl⟩
  have hh20 : h < 20 := by omega
  rw [hh] at he
  have hrl : (rep [10] h).length = h := by rw [rep_len]; simp
  clear hh
  obtain ⟨hd, hhd⟩ : ∃ hd, rep [10] h = hd := ⟨_, rfl⟩
  have HHD := Lib.hid hhd
  rw [hhd] at hrl
  have HRL := Lib.hid hrl
  clear hhd hrl
  have hk3 : (k : Int) % 3 = 0 ∨ (k : Int) % 3 = 1 ∨ (k : Int) % 3 = 2 := by omega
  cases a2
  · go_wp2_with fail
    refine (times_any [10] h (by simp) (by omega) _).mono ?_
    rintro e w3 ⟨rfl, hb3⟩
    rw [HHD.out]
    have hdl : hd.length ≤ 20 := by have := HRL.out; omega
    have HB3 := Lib.hid (HB2.out.trans (hb3.mono HB2.out.size))
    have HW3 := Lib.hid (HW2.out.below hb3)
    clear hb3
    rcases hk3 with hm | hm | hm
    · obtain ⟨nm, hnm, hnl, hsc⟩ : ∃ nm : Bt, (ByteArray.mk #[120]) ++ st (rep [121] 31) = st nm ∧ nm.length = 32 ∧ scan (hd ++ nm) = (some [⟨1, 1 + h, 0, nm⟩, ⟨0, 1 + h, 0, []⟩], 0) := ⟨120 :: List.replicate 31 121, by rw [rep_one]; exact st_app [120] _, by simp, by rw [← HHD.out]; exact lim_name h⟩
      have HSC := Lib.hid hsc
      clear hsc
      go_wp2_with fail
      refine (times_any [121] 31 (by simp) (by omega) _).mono ?_
      rintro e w4 ⟨rfl, hb4⟩
      have HB4 := Lib.hid (HB3.out.trans (hb4.mono HB3.out.size))
      have HW4 := Lib.hid (HW3.out.below hb4)
      clear hb4
      obtain ⟨ys, hys⟩ : ∃ ys, rep [121] 31 = ys := ⟨_, rfl⟩
      have hyl : ys.length = 31 := by rw [← hys, rep_len]; rfl
      rw [hys] at hnm ⊢
      clear hys
      have hx2 : st hd ++ st nm = st (hd ++ nm) := st_app _ _
      go_wp2_with fail
      refine (Scan_any (st (hd ++ nm)) (by have hrl := HRL.out; show (hd ++ nm).length ≤ _; have hrl0 := HRL.out; rw [List.length_append]; omega) _ HW4.out).mono ?_
      rintro e w5 hp
      obtain ⟨av, cv, rfl, hb5⟩ := sp_some (l := hd ++ nm) hp HSC.out (by have hrl := HRL.out; rw [List.length_append]; omega)
      have HB5 := Lib.hid (HB4.out.trans (hb5.mono HB4.out.size))
      clear hb5 hp
      (try simp only [List.length_cons, List.length_nil, Nat.zero_add, Nat.reduceAdd])
      go_wp2_with fail
      go_ret
      exact ⟨by first | rfl | simp, HB5.out⟩
    · have HSC : Hid (scan (hd ++ digs7) = (some [⟨2, 1 + h, 9223372036854775807, digs7⟩, ⟨0, 1 + h, 0, []⟩], 0)) := Lib.hid (by rw [← HHD.out]; exact lim_num h)
      have hx2 : st hd ++ (ByteArray.mk #[57, 50, 50, 51, 51, 55, 50, 48, 51, 54, 56, 53, 52, 55, 55, 53, 56, 48, 55]) = st (hd ++ digs7) := st_app _ _
      have hnl : digs7.length = 19 := by decide
      go_upto_region 15 with fail
      obtain ⟨w4, hw4⟩ : ∃ w4, w4 = w3.alloc (.cells #[.string (ByteArray.mk #[57, 50, 50, 51, 51, 55, 50, 48, 51, 54, 56, 53, 52, 55, 55, 53, 56, 48, 55]), .string (ByteArray.mk #[57, 50, 50, 51, 51, 55, 50, 48, 51, 54, 56, 53, 52, 55, 55, 53, 56, 48, 56])] 9) := ⟨_, rfl⟩
      rw [← hw4]
      have hb4 : Below w3.heap.size w3 w4 := by rw [hw4]; exact (Below.refl _ _).alloc (Nat.le_refl _) _
      have HB4 := Lib.hid (HB3.out.trans (hb4.mono HB3.out.size))
      have HW4 := Lib.hid (HW3.out.below hb4)
      clear hb4 hw4
      go_wp2_with fail
      refine (Scan_any (st (hd ++ digs7)) (by show (hd ++ digs7).length ≤ _; have hrl := HRL.out; rw [List.length_append]; omega) _ HW4.out).mono ?_
      rintro e w5 hp
      obtain ⟨av, cv, rfl, hb5⟩ := sp_some (l := hd ++ digs7) hp HSC.out (by have hrl := HRL.out; rw [List.length_append]; omega)
      have HB5 := Lib.hid (HB4.out.trans (hb5.mono HB4.out.size))
      clear hb5 hp
      (try simp only [List.length_cons, List.length_nil, Nat.zero_add, Nat.reduceAdd])
      go_wp2_with fail
      go_ret
      exact ⟨by first | rfl | simp, HB5.out⟩
    · obtain ⟨sp, hsp⟩ : ∃ sp, rep [32] 65536 = sp := ⟨_, rfl⟩
      have hnl : sp.length = 65536 := by rw [← hsp, rep_len]; rfl
      have HSC : Hid (scan sp = (some [⟨0, 1, 0, []⟩], 0)) := Lib.hid (by rw [← hsp]; exact lim_space)
      have HT : Hid (∀ W, Calls Tryd.prog 13 #[.string (st [32]), .int .i64 65536] W fun e w' => e = .returned (.string (st sp)) ∧ Below W.heap.size W w') := Lib.hid (fun W => by have h := times_any [32] 65536 (by simp) (by omega) W; rw [hsp] at h; exact h)
      clear hsp
      go_wp2_with fail
      refine (HT.out _).mono ?_
      rintro e w4 ⟨rfl, hb4⟩
      have HB4 := Lib.hid (HB3.out.trans (hb4.mono HB3.out.size))
      have HW4 := Lib.hid (HW3.out.below hb4)
      clear hb4
      go_wp2_with fail
      refine (Scan_any (st (sp)) (by show sp.length ≤ _; omega) _ HW4.out).mono ?_
      rintro e w5 hp
      obtain ⟨av, cv, rfl, hb5⟩ := sp_some (l := sp) hp HSC.out (by omega)
      have HB5 := Lib.hid (HB4.out.trans (hb5.mono HB4.out.size))
      clear hb5 hp
      (try simp only [List.length_cons, List.length_nil, Nat.zero_add, Nat.reduceAdd])
      go_wp2_with fail
      go_ret
      exact ⟨by first | rfl | simp, HB5.out⟩
  · go_wp2_with fail
    refine (times_any [10] h (by simp) (by omega) _).mono ?_
    rintro e w3 ⟨rfl, hb3⟩
    rw [HHD.out]
    have hdl : hd.length ≤ 20 := by have := HRL.out; omega
    have HB3 := Lib.hid (HB2.out.trans (hb3.mono HB2.out.size))
    have HW3 := Lib.hid (HW2.out.below hb3)
    clear hb3
    rcases hk3 with hm | hm | hm
    · obtain ⟨nm, hnm, hnl, hsc⟩ : ∃ nm : Bt, (ByteArray.mk #[120]) ++ st (rep [121] 32) = st nm ∧ nm.length = 33 ∧ scan (hd ++ nm) = (none, (h : Int) + 1) := ⟨120 :: List.replicate 32 121, by rw [rep_one]; exact st_app [120] _, by simp, by rw [← HHD.out, lim_name1 h, Int.add_comm]⟩
      have HSC := Lib.hid hsc
      clear hsc
      go_wp2_with fail
      refine (times_any [121] 32 (by simp) (by omega) _).mono ?_
      rintro e w4 ⟨rfl, hb4⟩
      have HB4 := Lib.hid (HB3.out.trans (hb4.mono HB3.out.size))
      have HW4 := Lib.hid (HW3.out.below hb4)
      clear hb4
      obtain ⟨ys, hys⟩ : ∃ ys, rep [121] 32 = ys := ⟨_, rfl⟩
      have hyl : ys.length = 32 := by rw [← hys, rep_len]; rfl
      rw [hys] at hnm ⊢
      clear hys
      have hx2 : st hd ++ st nm = st (hd ++ nm) := st_app _ _
      go_wp2_with fail
      refine (Scan_any (st (hd ++ nm)) (by have hrl := HRL.out; show (hd ++ nm).length ≤ _; have hrl0 := HRL.out; rw [List.length_append]; omega) _ HW4.out).mono ?_
      rintro e w5 hp
      obtain ⟨rfl, hb5⟩ := sp_none (l := hd ++ nm) hp HSC.out (by have hrl := HRL.out; rw [List.length_append]; omega)
      have HB5 := Lib.hid (HB4.out.trans (hb5.mono HB4.out.size))
      clear hb5 hp
      have hrl := HRL.out
      (try simp only [List.length_cons, List.length_nil, Nat.zero_add, Nat.reduceAdd])
      go_wp2_with fail
      go_ret
      exact ⟨by first | rfl | simp, HB5.out⟩
    · have HSC : Hid (scan (hd ++ digs8) = (none, (h : Int) + 1)) := Lib.hid (by rw [← HHD.out, lim_num1 h, Int.add_comm])
      have hx2 : st hd ++ (ByteArray.mk #[57, 50, 50, 51, 51, 55, 50, 48, 51, 54, 56, 53, 52, 55, 55, 53, 56, 48, 56]) = st (hd ++ digs8) := st_app _ _
      have hnl : digs8.length = 19 := by decide
      go_upto_region 15 with fail
      obtain ⟨w4, hw4⟩ : ∃ w4, w4 = w3.alloc (.cells #[.string (ByteArray.mk #[57, 50, 50, 51, 51, 55, 50, 48, 51, 54, 56, 53, 52, 55, 55, 53, 56, 48, 55]), .string (ByteArray.mk #[57, 50, 50, 51, 51, 55, 50, 48, 51, 54, 56, 53, 52, 55, 55, 53, 56, 48, 56])] 9) := ⟨_, rfl⟩
      rw [← hw4]
      have hb4 : Below w3.heap.size w3 w4 := by rw [hw4]; exact (Below.refl _ _).alloc (Nat.le_refl _) _
      have HB4 := Lib.hid (HB3.out.trans (hb4.mono HB3.out.size))
      have HW4 := Lib.hid (HW3.out.below hb4)
      clear hb4 hw4
      go_wp2_with fail
      refine (Scan_any (st (hd ++ digs8)) (by show (hd ++ digs8).length ≤ _; have hrl := HRL.out; rw [List.length_append]; omega) _ HW4.out).mono ?_
      rintro e w5 hp
      obtain ⟨rfl, hb5⟩ := sp_none (l := hd ++ digs8) hp HSC.out (by have hrl := HRL.out; rw [List.length_append]; omega)
      have HB5 := Lib.hid (HB4.out.trans (hb5.mono HB4.out.size))
      clear hb5 hp
      have hrl := HRL.out
      (try simp only [List.length_cons, List.length_nil, Nat.zero_add, Nat.reduceAdd])
      go_wp2_with fail
      go_ret
      exact ⟨by first | rfl | simp, HB5.out⟩
    · obtain ⟨sp, hsp⟩ : ∃ sp, rep [32] 65537 = sp := ⟨_, rfl⟩
      have hnl : sp.length = 65537 := by rw [← hsp, rep_len]; rfl
      have HT : Hid (∀ W, Calls Tryd.prog 13 #[.string (st [32]), .int .i64 65537] W fun e w' => e = .returned (.string (st sp)) ∧ Below W.heap.size W w') := Lib.hid (fun W => by have h := times_any [32] 65537 (by simp) (by omega) W; rw [hsp] at h; exact h)
      clear hsp
      go_wp2_with fail
      refine (HT.out _).mono ?_
      rintro e w4 ⟨rfl, hb4⟩
      have HB4 := Lib.hid (HB3.out.trans (hb4.mono HB3.out.size))
      have HW4 := Lib.hid (HW3.out.below hb4)
      clear hb4
      go_wp2_with fail
      refine (Scan_any (st (sp)) (by show sp.length ≤ _; omega) _ HW4.out).mono ?_
      rintro e w5 hp
      obtain ⟨rfl, hb5⟩ := sp_long (l := sp) hp (by omega)
      have HB5 := Lib.hid (HB4.out.trans (hb5.mono HB4.out.size))
      clear hb5 hp
      have hrl := HRL.out
      (try simp only [List.length_cons, List.length_nil, Nat.zero_add, Nat.reduceAdd])
      go_wp2_with fail
      go_ret
      exact ⟨by first | rfl | simp, HB5.out⟩

/-! ### THE ROW's STEP -/
set_option maxRecDepth 100000 in
theorem lifted (os : Os) (started : os.Started) (H : Type) (enc : TypeId × Value → H) :
    ReturnsInHanded {} Tryd.checked os 4 .any (fun w args => (Rows.tokenLimitsSpec.pre enc Tryd.prog Tryd.f4 [] false w args ∧ laidMetH Tryd.prog [("math/bits.deBruijn32tab", Rows.laid_math_bits_deBruijn32tab), ("math/bits.deBruijn64tab", Rows.laid_math_bits_deBruijn64tab), ("internal/strconv.uint64pow10", Rows.laid_internal_strconv_uint64pow10), ("strconv.ErrRange", Rows.laid_strconv_ErrRange), ("strconv.ErrSyntax", Rows.laid_strconv_ErrSyntax)] w) ∧ sizedMet enc Tryd.prog Tryd.f4 (OpenSpec.ofChange Rows.tokenLimitsSpec) false w args)
      (Rows.tokenLimitsSpec.post enc Tryd.prog Tryd.f4 false true false false) := by
  refine returnsInHanded_of_change_and (C := Tryd.checked) (X := fun w _ => laidMetH Tryd.prog [("math/bits.deBruijn32tab", Rows.laid_math_bits_deBruijn32tab), ("math/bits.deBruijn64tab", Rows.laid_math_bits_deBruijn64tab), ("internal/strconv.uint64pow10", Rows.laid_internal_strconv_uint64pow10), ("strconv.ErrRange", Rows.laid_strconv_ErrRange), ("strconv.ErrSyntax", Rows.laid_strconv_ErrSyntax)] w) (fun _ _ _ hh h => h.of_heap hh) own started (by kernel_rfl) Tryd.func4
    (ChangeSpec.witness_shaped (enc := enc) (C := Tryd.checked) (os := os) (X := fun w _ => laidMetH Tryd.prog [("math/bits.deBruijn32tab", Rows.laid_math_bits_deBruijn32tab), ("math/bits.deBruijn64tab", Rows.laid_math_bits_deBruijn64tab), ("internal/strconv.uint64pow10", Rows.laid_internal_strconv_uint64pow10), ("strconv.ErrRange", Rows.laid_strconv_ErrRange), ("strconv.ErrSyntax", Rows.laid_strconv_ErrSyntax)] w) false (World.doorLaid Tryd.prog 400 os) #[.int .u8 0, .int .u8 0, .bool false] 8 rfl (World.shaped_of_RefB (by kernel_rfl) (by kernel_rfl)) (by kernel_rfl) (by kernel_rfl) (by kernel_rfl) (door_met os _)) ?_
  intro W base args ds gs before hval0 hW _ _ hL _
  have hval : ∀ (j : Nat) t v, Tryd.f4.params[j]? = some t → args[j]? = some v → Value.okWide Tryd.prog W .any base t v := hval0
  have hW' := hW
  obtain ⟨p, q, hA0, hV, rfl, hfz, hnd⟩ := hW
  have hA : DataW.TrodAll enc Tryd.prog W 0 (fun _ => true) true Tryd.f4.params.toList args.toList ds p := hA0
  rw [Tryd.params4] at hA hval
  obtain ⟨v0, vs0, d0, ds0, p0, q0, hargs, rfl, rfl, h0, r0⟩ := trodAll_cons hA
  obtain ⟨v1, vs1, d1, ds1, p1, q1, rfl, rfl, rfl, h1, r1⟩ := trodAll_cons r0
  obtain ⟨v2, vs2, d2, ds2, p2, q2, rfl, rfl, rfl, h2, r2⟩ := trodAll_cons r1
  obtain ⟨rfl, rfl, rfl⟩ := trodAll_nil r2
  obtain rfl : args = #[v0, v1, v2] := by cases args; simp_all
  obtain ⟨rfl, rfl⟩ := trodVars_none hV
  obtain ⟨a0, rfl, rfl, rfl, w0⟩ := open_int Tryd.underlying5 (hval 0 5 v0 rfl rfl) h0
  obtain ⟨a1, rfl, rfl, rfl, w1⟩ := open_int Tryd.underlying5 (hval 1 5 v1 rfl rfl) h1
  obtain ⟨a2, rfl, rfl, rfl⟩ := open_bool Tryd.underlying4 (hval 2 4 v2 rfl rfl) h2
  clear hA0 hval0
  refine (walk a0 a1 a2 W w0 w1 (of_laid hL)).mono fun e W' ⟨he, bel⟩ => ?_
  subst he
  exact ⟨_, rfl, _, _, _, [], _, [], hW', trodAll_mk1 (shut_bool Tryd.underlying4 _), (trodAll_cons_mk (shut_int Tryd.underlying5 w0) (trodAll_cons_mk (shut_int Tryd.underlying5 w1) (trodAll_cons_mk (shut_bool Tryd.underlying4 a2) trodAll_mk0))), rfl, bel.frame _, fun h => by cases h⟩

theorem over : Rows.TokenLimitsSaid :=
  OpenClaim.holds_of_wide 4 Tryd.f4 rfl rfl rfl rfl rfl rfl rfl ⟨rfl, rfl, rfl, rfl, rfl⟩ rfl rfl rfl rfl rfl (by kernel_rfl) Tryd.func4 (by kernel_rfl)
    (of_decide_eq_true (by kernel_rfl)) (by unfold Func.isWrapper; first | (rw [if_pos (by decide +kernel)]; kernel_rfl) | (rw [if_neg (by decide +kernel)]; exact ⟨rfl, rfl⟩))
    (fun os started H enc _ => lifted os started H enc)

/-- the tied card -/
theorem proved : Rows.TokenLimitsCardSaid :=
  Claim7.holds_tied_plain_at .later [] [.data, .data, .data, .sentinel, .sentinel] true (true, "62c0e0e96b186542d320bd5fe24d4da4f1519c46bb236dad17c4b7e9d6b54aa8") true
    over (fun _ h => by cases h) (by kernel_rfl) (fun _ h => by cases h) tokenLimits_row_tie rfl ⟨rfl, rfl⟩ (by kernel_rfl) rfl
    (fun f fn hf hfn => by
      obtain rfl : f = 4 := Option.some.inj ((show Tryd.prog.funcNamed "warmpath/warmpathlaw03.TokenLimits" = some 4 by kernel_rfl).symm.trans hf) |>.symm
      obtain rfl : fn = Tryd.f4 := (Option.some.inj (Tryd.func4.symm.trans hfn)).symm
      exact ⟨by kernel_rfl, fun j t ht => by
        rw [Tryd.params4] at ht
        have hm : t ∈ [5, 5, 4] := by simpa using Array.mem_of_getElem? ht
        have hall : ([5, 5, 4].all fun u => !Tryd.prog.wantsStandIn u) = true := by kernel_rfl
        exact (show Tryd.prog.wantsStandIn t = false by simpa using List.all_eq_true.1 hall t hm)⟩)
    (by kernel_rfl)
#print axioms proved
end Go.Proofs.YthcagbplolcbpaaDoor.tokenLimits
