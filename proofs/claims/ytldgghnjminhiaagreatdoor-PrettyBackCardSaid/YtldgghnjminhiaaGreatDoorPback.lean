/-
  The law PrettyBack holds of the given program at every input that can be read (the card's tied claim).
-/
import Derived.Test.YtldgghnjminhiaaGreatDoorG15
import Derived.Test.YtldgghnjminhiaaGreatDoorG17
import Derived.Test.YtldgghnjminhiaaGreatDoorG0
import Derived.Test.YtldgghnjminhiaaGreatDoorLaidU
import Derived.ChangeMaps5
import Derived.Test.YtldgghnjminhiaaGreatDoorTie
import Derived.Test.YtldgghnjminhiaaGreatDoorCards
namespace Go.Proofs.YtldgghnjminhiaaGreatDoor.prettyBack
open Go.ChangeShapes Go.WideShapes Go.ChangeAt Go.RowKit
set_option linter.unusedVariables false

set_option linter.unusedVariables false
set_option linter.unusedSimpArgs false

set_option maxRecDepth 100000 in
set_option maxHeartbeats 8000000 in
theorem walk (a0 : Option Addr) (len0 cap0 : Nat) (z0 : List Int) (w : World) (w0 : Ew .u8 w a0 len0 cap0 z0) (hw : Lad w) :
  Calls Tryz.prog 7 #[.slice a0 len0 cap0] w fun e w' => e = .returned (.bool true) ∧ Below w.heap.size w w' := by
 have HI := Lib.hid w0
 have HW := Lib.hid hw
 clear w0 hw
 go_enter Tryz.func7, Tryz.ntmps7
 go_wp2_with fail
 refine (Rl w HW.out).mono ?_
 rintro e w2 ⟨rfl, hb2⟩
 have HB2 := Lib.hid hb2
 have HI2 := Lib.hid (HI.out.below hb2)
 clear hb2
 go_wp2_with fail
 refine (xzw a0 len0 cap0 z0 400 (by omega) (by omega) _ HI2.out).mono ?_
 rintro e w3 ⟨gc, rfl, hgc, hcod, hb3⟩
 have HGC : Hid (w.heap.size ≤ gc) := Lib.hid (by have := HB2.out.size; omega)
 have HB3 := Lib.hid (HB2.out.trans (hb3.mono HB2.out.size))
 have HC3 := Lib.hid hcod
 clear hgc hcod hb3 HI2
 go_wp2_with fail
 refine (Rn gc w3 HC3.out).mono ?_
 intro e w4 hp
 obtain ⟨gs, fs, Fs, aa, ca, ab, cb, rfl, hcod, hg4, hsrc⟩ := Jk.of_post hp
 have HB4 := Lib.hid (Nz HB3.out hg4 HB3.out.size HGC.out)
 obtain ⟨ys, ln, hs1, hs2, hs3, _, _⟩ := hsrc.scan
 have hso := hsrc.so
 have HPR := Lib.hid hsrc.prs
 have hfu := hsrc.fmtU
 have hlen := hsrc.len
 have hgok := hsrc.gok
 have hwf : ∀ F ∈ Fs, F.bd.wf := fun F hF => (hsrc.fn F hF).2.2.1
 have hne : fmtU gs (Fs.map fnU) ≠ [] := by
  rw [hfu]
  intro e
  rw [e] at hs1
  have : ys = [] := by
   have h0 : scan [] = (some [⟨0, 1, 0, []⟩], 0) := rfl
   rw [h0] at hs1
   injection hs1 with hs1
   injection hs1 with hs1
   cases ys with
   | nil => rfl
   | cons y r => simp at hs1
  subst this
  have ht : Hu gs Fs = [] := hs2.symm
  obtain ⟨F, r, hF⟩ : ∃ F r, Fs = F :: r := by
   have h3 := hsrc.fns.len
   have h5 := hsrc.f1
   cases Fs with
   | nil => rw [List.length_nil] at h3; omega
   | cons F r => exact ⟨F, r, rfl⟩
  subst hF
  unfold Hu at ht
  rw [List.flatMap_cons] at ht
  have h1 := (List.append_eq_nil_iff.1 ht).2
  have h2 := (List.append_eq_nil_iff.1 h1).1
  unfold Wq at h2
  cases h2
 rw [← hfu] at hs1 hlen
 have HNE := Lib.hid hne
 have HLE : Hid ((fmtU gs (Fs.map fnU)).length ≤ 37000) := Lib.hid hlen
 have HGO : Hid (∀ x ∈ gs, 0 ≤ x.2 ∧ x.2 ≤ 9223372036854775807) := Lib.hid (fun x hx => by have := (hgok x hx).2; omega)
 have HPO : Hid (∀ (wa wb : World) (e : Ending), Rs (fmtU gs (Fs.map fnU)) wa e wb → Below wa.heap.size wa wb ∧ ∃ (fs : List Fu) (va vb : Value), e = .returned (.tuple #[sov va vb, .int .i64 0, .int .i64 0]) ∧ Jy wb (fun _ => True) gs fs va vb ∧ Jq false fs (Fs.map fnU) = true) := Lib.hid (fun wa wb e h => xvl h (by omega) (fun x hx => (hgok x hx).2) hwf hs1 hs2)
 obtain ⟨n1, hn1⟩ : ∃ z, gs.length = z := ⟨_, rfl⟩
 obtain ⟨n2, hn2⟩ : ∃ z, fs.length = z := ⟨_, rfl⟩
 rw [hn1, hn2] at hso
 (try rw [hn1, hn2])
 have hb5 := Xw w4 (.cells #[.slice aa n1 ca, .slice ab n2 cb] 29)
 have hr5 := heap_alloc_new w4 (.cells #[.slice aa n1 ca, .slice ab n2 cb] 29)
 have HS5 := Lib.hid (hso.keep (Q := fun _ => True) (fun b hb hlt => ⟨hb5.block b hlt, trivial⟩) hb5.size)
 have HB5 := Lib.hid (HB4.out.trans (hb5.mono HB4.out.size))
 clear hp hcod hg4 hsrc hs1 hs2 hs3 hso hfu hlen hgok hwf hne hn1 hn2
 go_upto_region 5 with fail
 obtain ⟨w5, hw5⟩ : ∃ W, w4.alloc (.cells #[.slice aa n1 ca, .slice ab n2 cb] 29) = W := ⟨_, rfl⟩
 obtain ⟨g, hg⟩ : ∃ z, w4.heap.size = z := ⟨_, rfl⟩
 (try rw [hw5])
 rw [hw5] at hr5 HS5 HB5
 rw [hg] at hr5
 (try rw [hg])
 have HR5 := Lib.hid hr5
 have p0 := cell_of_row _ _ 0 _ _ _ hr5
 have p1 := cell_of_row _ _ 1 _ _ _ hr5
 clear hw5 hg hb5 hr5
 go_wp2_with fail
 refine (Em gs (Fs.map fnU) HGO.out HPR.out (by have := HLE.out; omega) HNE.out w5 _ _ HS5.out (HW.out.below HB5.out)).mono ?_
 rintro e w6 ⟨rfl, hb6⟩
 have HB6 := Lib.hid (HB5.out.trans (hb6.mono HB5.out.size))
 have HS6 := Lib.hid (HS5.out.keep (Q := fun _ => True) (fun b hb hlt => ⟨hb6.block b hlt, trivial⟩) hb6.size)
 have HR6 := Lib.hid ((hb6.block _ (Xv HR5.out)).trans HR5.out)
 clear hb6 p0 p1
 obtain ⟨T, hT⟩ : ∃ z, fmtU gs (Fs.map fnU) = z := ⟨_, rfl⟩
 rw [hT] at HPO HLE HNE ⊢
 have HT := Lib.hid hT
 clear hT
 go_wp2_with fail
 refine (Cj T (by have := HLE.out; omega) w6 (HW.out.below HB6.out)).mono ?_
 intro e w7 hq
 obtain ⟨hb7, fs2, va, vb, rfl, hs7, heq⟩ := HPO.out _ _ _ hq
 obtain ⟨q1, qc1, q2, qc2, rfl, rfl, -⟩ := Wz hs7
 have HEQ := Lib.hid heq
 have hb8 := Xw w7 (.cells #[.slice q1 gs.length qc1, .slice q2 fs2.length qc2] 29)
 have hr8 := heap_alloc_new w7 (.cells #[.slice q1 gs.length qc1, .slice q2 fs2.length qc2] 29)
 have hbb := hb7.trans (hb8.mono hb7.size)
 have HS8 := Lib.hid (hs7.keep (Q := fun _ => True) (fun b hb hlt => ⟨hb8.block b hlt, trivial⟩) hb8.size)
 have HP8 := Lib.hid (HS6.out.keep (Q := fun _ => True) (fun b hb hlt => ⟨hbb.block b hlt, trivial⟩) hbb.size)
 have HR8 := Lib.hid ((hbb.block _ (Xv HR6.out)).trans HR6.out)
 have HB8 := Lib.hid (HB6.out.trans (hbb.mono HB6.out.size))
 obtain ⟨m1, hm1⟩ : ∃ z, gs.length = z := ⟨_, rfl⟩
 obtain ⟨m2, hm2⟩ : ∃ z, fs2.length = z := ⟨_, rfl⟩
 rw [hm1, hm2] at hr8 HS8 HP8 HR8 HB8
 (try rw [hm1, hm2])
 clear hq hb7 hs7 heq hbb hm1 hm2 HS6
 go_upto_region 7 with fail
 obtain ⟨w8, hw8⟩ : ∃ W, w7.alloc (.cells #[.slice q1 m1 qc1, .slice q2 m2 qc2] 29) = W := ⟨_, rfl⟩
 obtain ⟨g2, hg2⟩ : ∃ z, w7.heap.size = z := ⟨_, rfl⟩
 (try rw [hw8])
 rw [hw8] at hr8 HS8 HP8 HR8 HB8
 rw [hg2] at hr8
 (try rw [hg2])
 have HQ8 := Lib.hid hr8
 have p0 := cell_of_row _ _ 0 _ _ _ HR8.out
 have p1 := cell_of_row _ _ 1 _ _ _ HR8.out
 have q0 := cell_of_row _ _ 0 _ _ _ hr8
 have q1 := cell_of_row _ _ 1 _ _ _ hr8
 have HSA : Hid (xqh false gs (Fs.map fnU) gs fs2 = true) := Lib.hid (by unfold xqh; rw [decide_eq_true rfl, Bj HEQ.out]; rfl)
 have HF2 : Hid (fmtU gs fs2 = T) := Lib.hid (by rw [← HT.out]; unfold fmtU; rw [Lk HEQ.out])
 clear hw8 hg2 hb8 hr8
 go_wp2_with fail
 refine (Bf (fun _ => True) (fun _ => True) gs gs (Fs.map fnU) fs2 _ _ _ _ w8 HP8.out HS8.out).mono ?_
 rintro e w9 ⟨rfl, hb9⟩
 rw [HSA.out]
 have HB9 := Lib.hid (HB8.out.trans (hb9.mono HB8.out.size))
 have HS9 := Lib.hid (HS8.out.keep (Q := fun _ => True) (fun b hb hlt => ⟨hb9.block b hlt, trivial⟩) hb9.size)
 have hr9 := (hb9.block _ (Xv HQ8.out)).trans HQ8.out
 clear hb9 p0 p1 q0 q1
 have q0 := cell_of_row _ _ 0 _ _ _ hr9
 have q1 := cell_of_row _ _ 1 _ _ _ hr9
 clear hr9
 go_wp2_with fail
 refine (Em gs fs2 HGO.out (xqr HEQ.out HPR.out) (by rw [HF2.out]; have := HLE.out; omega) (by rw [HF2.out]; exact HNE.out) w9 _ _ HS9.out (HW.out.below HB9.out)).mono ?_
 rintro e w10 ⟨rfl, hb10⟩
 rw [HF2.out]
 have HB10 := Lib.hid (HB9.out.trans (hb10.mono HB9.out.size))
 clear hb10 q0 q1
 go_wp2_with fail
 go_ret
 exact ⟨rfl, HB10.out⟩

/-! ### THE ROW's STEP -/
set_option maxRecDepth 100000 in
theorem lifted (os : Os) (started : os.Started) (H : Type) (enc : TypeId × Value → H) :
    ReturnsInHanded {} Tryz.checked os 7 .any (fun w args => (Rows.prettyBackSpec.pre enc Tryz.prog Tryz.f7 [] false w args ∧ laidMetH Tryz.prog [("math/bits.deBruijn32tab", Rows.laid_math_bits_deBruijn32tab), ("math/bits.deBruijn64tab", Rows.laid_math_bits_deBruijn64tab), ("internal/strconv.uint64pow10", Rows.laid_internal_strconv_uint64pow10), ("strconv.ErrRange", Rows.laid_strconv_ErrRange), ("strconv.ErrSyntax", Rows.laid_strconv_ErrSyntax)] w) ∧ sizedMet enc Tryz.prog Tryz.f7 (OpenSpec.ofChange Rows.prettyBackSpec) false w args)
      (Rows.prettyBackSpec.post enc Tryz.prog Tryz.f7 false true false false) := by
  refine returnsInHanded_of_change_and (C := Tryz.checked) (X := fun w _ => laidMetH Tryz.prog [("math/bits.deBruijn32tab", Rows.laid_math_bits_deBruijn32tab), ("math/bits.deBruijn64tab", Rows.laid_math_bits_deBruijn64tab), ("internal/strconv.uint64pow10", Rows.laid_internal_strconv_uint64pow10), ("strconv.ErrRange", Rows.laid_strconv_ErrRange), ("strconv.ErrSyntax", Rows.laid_strconv_ErrSyntax)] w) (fun _ _ _ hh h => h.of_heap hh) ownLd started (by kernel_rfl) Tryz.func7
    (ChangeSpec.witness_shaped (enc := enc) (C := Tryz.checked) (os := os) (X := fun w _ => laidMetH Tryz.prog [("math/bits.deBruijn32tab", Rows.laid_math_bits_deBruijn32tab), ("math/bits.deBruijn64tab", Rows.laid_math_bits_deBruijn64tab), ("internal/strconv.uint64pow10", Rows.laid_internal_strconv_uint64pow10), ("strconv.ErrRange", Rows.laid_strconv_ErrRange), ("strconv.ErrSyntax", Rows.laid_strconv_ErrSyntax)] w) false (World.doorLaid Tryz.prog 400 os) #[.slice none 0 0] 8 rfl (World.shaped_of_RefB (by kernel_rfl) (by kernel_rfl)) (by kernel_rfl) (by kernel_rfl) (by kernel_rfl) (door_met os _)) ?_
  intro W base args ds gs before hval0 hW _ _ hL _
  have hval : ∀ (j : Nat) t v, Tryz.f7.params[j]? = some t → args[j]? = some v → Value.okWide Tryz.prog W .any base t v := hval0
  have hW' := hW
  obtain ⟨p, q, hA0, hV, rfl, hfz, hnd⟩ := hW
  have hA : DataW.TrodAll enc Tryz.prog W 0 (fun _ => true) true Tryz.f7.params.toList args.toList ds p := hA0
  rw [Tryz.params7] at hA hval
  obtain ⟨v0, vs0, d0, ds0, p0, q0, hargs, rfl, rfl, h0, r0⟩ := trodAll_cons hA
  obtain ⟨rfl, rfl, rfl⟩ := trodAll_nil r0
  obtain rfl : args = #[v0] := by cases args; simp_all
  obtain ⟨rfl, rfl⟩ := trodVars_none hV
  have k0 := h0
  have lt0 : ∀ x ∈ p0, x.block < W.heap.size := by obtain ⟨m, hm⟩ := k0; exact DataW.trod_lt m _ _ _ hm
  obtain ⟨a0, len0, cap0, zs0, rfl, w0⟩ := xqx (k := .u8) Tryz.underlying22 Tryz.underlying5 (by kernel_rfl) (hval 0 22 v0 rfl rfl) h0
  clear hA0 hval0
  refine (walk a0 len0 cap0 zs0 W w0 (of_laid hL)).mono fun e W' ⟨he, bel⟩ => ?_
  subst he
  exact ⟨_, rfl, _, _, _, [], _, [], hW', trodAll_mk1 (shut_bool Tryz.underlying4 _), (trodAll_cons_mk (Below.trod laidOut (by kernel_rfl) (of_decide_eq_true (by kernel_rfl)) k0 bel lt0) trodAll_mk0), rfl, bel.frame _, fun h => by cases h⟩

theorem over : Rows.PrettyBackSaid :=
  OpenClaim.holds_of_wide 7 Tryz.f7 rfl rfl rfl rfl rfl rfl rfl ⟨rfl, rfl, rfl, rfl, rfl⟩ rfl rfl rfl rfl rfl (by kernel_rfl) Tryz.func7 (by kernel_rfl)
    (of_decide_eq_true (by kernel_rfl)) (by unfold Func.isWrapper; first | (rw [if_pos (by decide +kernel)]; kernel_rfl) | (rw [if_neg (by decide +kernel)]; exact ⟨rfl, rfl⟩))
    (fun os started H enc _ => lifted os started H enc)

/-- the tied card -/
theorem proved : Rows.PrettyBackCardSaid :=
  Claim7.holds_tied_plain_at .later [] [.data, .data, .data, .sentinel, .sentinel] true (true, "a3db093cac5306058e55fb603508202bee0051a466cb6eb0cc1b6b1f729ed927") true
    over (fun _ h => by cases h) (by kernel_rfl) (fun _ h => by cases h) prettyBack_row_tie rfl ⟨rfl, rfl⟩ (by kernel_rfl) rfl
    (fun f fn hf hfn => by
      obtain rfl : f = 7 := Option.some.inj ((show Tryz.prog.funcNamed "warmpath/warmpathlaw05.PrettyBack" = some 7 by kernel_rfl).symm.trans hf) |>.symm
      obtain rfl : fn = Tryz.f7 := (Option.some.inj (Tryz.func7.symm.trans hfn)).symm
      exact ⟨by kernel_rfl, fun j t ht => by
        rw [Tryz.params7] at ht
        have hm : t ∈ [22] := by simpa using Array.mem_of_getElem? ht
        have hall : ([22].all fun u => !Tryz.prog.wantsStandIn u) = true := by kernel_rfl
        exact (show Tryz.prog.wantsStandIn t = false by simpa using List.all_eq_true.1 hall t hm)⟩)
    (by kernel_rfl)
#print axioms proved
end Go.Proofs.YtldgghnjminhiaaGreatDoor.prettyBack
