/-
  For all inputs a drawn profile is decoded from its bytes, and what is decoded is encoded as these bytes; no condition beyond the listed table, which is tied.
-/
import Derived.Test.YtkgdogccnkjcgaaDoorDec
import Derived.Test.YtkgdogccnkjcgaaDoorLaidT
import Derived.Test.YtkgdogccnkjcgaaDoorTie
import Derived.Test.YtkgdogccnkjcgaaDoorCards
namespace Go.Proofs.YtkgdogccnkjcgaaDoor.recordBack
open Go.ChangeShapes Go.WideShapes Go.ChangeAt Go.RowKit
set_option linter.unusedVariables false

set_option maxRecDepth 100000 in
set_option maxHeartbeats 16000000 in
theorem walk (a : Option Addr) (len cap : Nat) (zs : List Int) (w : World) (w0 : InInts .u8 w a len cap zs) (hl : Laid w) :
    Calls Tryd.prog 5 #[.slice a len cap] w fun e w' => e = .returned (.bool true) ∧ Below w.heap.size w w' := by
  have HL := Lib.hid hl
  have H0 := Lib.hid w0
  clear hl w0
  go_enter Tryd.func5, Tryd.ntmps5
  go_wp2_with fail
  refine (awake_any _ HL.out).mono ?_
  rintro e w1 ⟨rfl, hb1⟩
  have H1 := Lib.hid (H0.out.below hb1)
  go_wp2_with fail
  refine (New_any a len cap zs 500 (by omega) (by omega) _ H1.out).mono ?_
  rintro e w2 ⟨g, rfl, hg1, hcod2, hb2⟩
  have hb12 := hb1.trans (hb2.mono hb1.size)
  have hgw : w.heap.size ≤ g := by have := hb1.size; omega
  clear hb1 hb2 H1 hg1
  go_wp2_with fail
  refine (Shard_any g 12 (by omega) _ hcod2).mono ?_
  rintro e w3 ⟨h, v, wh, ls, rfl, _, hown3, hch3, hls, hgd, hck, hpr, hcod3, hgr3⟩
  obtain ⟨sa, sc, rfl, hrs3⟩ := Rs.of_own hown3 hch3
  have hb3 := below_grown1 hb12 hgr3 hb12.size hgw
  obtain ⟨rs, hrs⟩ : ∃ rs, ls.map (·.1) = rs := ⟨_, rfl⟩
  have hgd' : ∀ r ∈ rs, Good r ∧ r.kind ≠ 3 ∧ r.chain.length ≤ 5 := by
    rw [← hrs]; intro r hr; obtain ⟨p, hp, rfl⟩ := List.mem_map.1 hr; exact hgd p hp
  have hrl : ls.length = rs.length := by rw [← hrs]; simp
  rw [hrs] at hrs3
  rw [hrl] at hls hrs3 ⊢
  have hal := (Below.refl w3.heap.size w3).alloc (Nat.le_refl _) (.cells #[.int .i64 h.rel, .int .i64 h.mach, .int .i64 h.num, .int .i64 h.per, .int .u64 ((h.print : Nat) : Int), .slice sa rs.length sc, .bool wh] 32)
  have hb4 := hb3.alloc hb3.size (.cells #[.int .i64 h.rel, .int .i64 h.mach, .int .i64 h.num, .int .i64 h.per, .int .u64 ((h.print : Nat) : Int), .slice sa rs.length sc, .bool wh] 32)
  have hT4 : (w3.alloc (.cells #[.int .i64 h.rel, .int .i64 h.mach, .int .i64 h.num, .int .i64 h.per, .int .u64 ((h.print : Nat) : Int), .slice sa rs.length sc, .bool wh] 32)).heap[w3.heap.size]? = some (.cells #[.int .i64 h.rel, .int .i64 h.mach, .int .i64 h.num, .int .i64 h.per, .int .u64 ((h.print : Nat) : Int), .slice sa rs.length sc, .bool wh] 32 (0, 0)) := heap_alloc_new _ _
  have HRS4 := Lib.hid (hrs3.below hal)
  have HGD := Lib.hid hgd'
  clear hcod2 hb12 hrs3 hgd hcod3 hgr3 hb3 hal hown3 hch3 hrs hrl hgd'
  go_upto_region 5 with fail
  generalize (w3.alloc (.cells #[.int .i64 h.rel, .int .i64 h.mach, .int .i64 h.num, .int .i64 h.per, .int .u64 ((h.print : Nat) : Int), .slice sa rs.length sc, .bool wh] 32)) = w4 at *
  generalize w3.heap.size = S at *
  have c0 : w4.cell? ⟨S, 0, none⟩ = some (.int .i64 h.rel) := cell_of_row _ _ 0 _ _ _ hT4
  have c1 : w4.cell? ⟨S, 1, none⟩ = some (.int .i64 h.mach) := cell_of_row _ _ 1 _ _ _ hT4
  have c2 : w4.cell? ⟨S, 2, none⟩ = some (.int .i64 h.num) := cell_of_row _ _ 2 _ _ _ hT4
  have c3 : w4.cell? ⟨S, 3, none⟩ = some (.int .i64 h.per) := cell_of_row _ _ 3 _ _ _ hT4
  have c4 : w4.cell? ⟨S, 4, none⟩ = some (.int .u64 ((h.print : Nat) : Int)) := cell_of_row _ _ 4 _ _ _ hT4
  have c5 : w4.cell? ⟨S, 5, none⟩ = some (.slice sa rs.length sc) := cell_of_row _ _ 5 _ _ _ hT4
  have c6 : w4.cell? ⟨S, 6, none⟩ = some (.bool wh) := cell_of_row _ _ 6 _ _ _ hT4
  have hSl := (Array.getElem?_eq_some_iff.1 hT4).1
  have hls2 : rs.length ≤ 4096 := by omega
  go_wp2_with fail
  have hgi : ∀ i, i < rs.length → Good (rs.getD i default) ∧ (rs.getD i default).kind ≠ 3 := fun i hi => by
    have := HGD.out (rs.getD i default) (by simp [List.getD, hi])
    exact ⟨this.1, this.2.1⟩
  have hrl8 : (recs rs).length ≤ 80000 := by have := recs_le (fun r hr => (HGD.out r hr).1); omega
  have hel := enc_le (wh := wh) hck hpr (fun r hr => (HGD.out r hr).1) (by omega)
  obtain ⟨E, hE⟩ : ∃ E, encB h rs wh = E := ⟨_, rfl⟩
  refine (Encode_good h sa rs.length sc rs wh hck hpr hgi hrl8 (by omega) _ HRS4.out (HL.out.below hb4)).mono ?_
  have HGI := Lib.hid hgi
  clear hgi
  rintro e w5 (⟨h9, _⟩ | ⟨_, v5, rfl, hown5, hb5⟩)
  · omega
  rw [hE] at hown5 hel
  obtain ⟨a5, cap5, rfl, hbs5⟩ := Bs.of_own hown5
  obtain ⟨ne, hne⟩ : ∃ ne, E.length = ne := ⟨_, rfl⟩
  rw [hne] at hbs5 hel ⊢
  have hT5 := (hb5.block S hSl).trans hT4
  have hb45 := hb4.trans (hb5.mono hb4.size)
  have hS5 : S < w5.heap.size := Nat.lt_of_lt_of_le hSl hb5.size
  have HE := Lib.hid hE
  have HNE := Lib.hid hne
  have HB5 := Lib.hid hbs5
  have HRS5 := Lib.hid (HRS4.out.below hb5)
  clear c0 c1 c2 c3 c4 c5 c6 hT4 hSl hb4 hb5 hown5 hbs5 hE hne HRS4
  go_wp2_with fail
  refine (Decode_good h hck hpr rs (fun r hr => ⟨(HGD.out r hr).1, (HGD.out r hr).2.1⟩) hls2 wh a5 ne cap5 _ (by omega) (by rw [HE.out]; exact HB5.out) (HL.out.below hb45)).mono ?_
  rintro e w6 ⟨ls6, v6, rfl, hown6, hch6, hls6, hb6⟩
  obtain ⟨sa6, sc6, rfl, hrs6⟩ := Rs.of_own hown6 hch6
  have hrl6 : ls6.length = rs.length := by rw [← hls6]; simp
  rw [hls6] at hrs6
  rw [hrl6] at hrs6 ⊢
  have hal := (Below.refl w6.heap.size w6).alloc (Nat.le_refl _) (.cells #[.int .i64 h.rel, .int .i64 h.mach, .int .i64 h.num, .int .i64 h.per, .int .u64 ((h.print : Nat) : Int), .slice sa6 rs.length sc6, .bool wh] 32)
  have hb67 := hb6.trans (hal.mono hb6.size)
  have hb7 := hb45.trans (hb67.mono hb45.size)
  have hT7 : (w6.alloc (.cells #[.int .i64 h.rel, .int .i64 h.mach, .int .i64 h.num, .int .i64 h.per, .int .u64 ((h.print : Nat) : Int), .slice sa6 rs.length sc6, .bool wh] 32)).heap[w6.heap.size]? = some (.cells #[.int .i64 h.rel, .int .i64 h.mach, .int .i64 h.num, .int .i64 h.per, .int .u64 ((h.print : Nat) : Int), .slice sa6 rs.length sc6, .bool wh] 32 (0, 0)) := heap_alloc_new _ _
  have hU7 := (hb67.block S hS5).trans hT5
  have HRS7 := Lib.hid (HRS5.out.below hb67)
  have HRT7 := Lib.hid (hrs6.below hal)
  have HB7 := Lib.hid (HB5.out.below hb67)
  have hS6 : S < w6.heap.size := Nat.lt_of_lt_of_le hS5 hb6.size
  have hs7 : (w6.alloc (.cells #[.int .i64 h.rel, .int .i64 h.mach, .int .i64 h.num, .int .i64 h.per, .int .u64 ((h.print : Nat) : Int), .slice sa6 rs.length sc6, .bool wh] 32)).heap.size = w6.heap.size + 1 := by simp
  clear hrs6 hb6 hal hb67 hT5 HRS5 HB5 hown6 hch6 hls6 hrl6 hb45 hS5
  go_upto_region 7 with fail
  generalize (w6.alloc (.cells #[.int .i64 h.rel, .int .i64 h.mach, .int .i64 h.num, .int .i64 h.per, .int .u64 ((h.print : Nat) : Int), .slice sa6 rs.length sc6, .bool wh] 32)) = w7 at *
  generalize w6.heap.size = T at *
  have d0 : w7.cell? ⟨T, 0, none⟩ = some (.int .i64 h.rel) := cell_of_row _ _ 0 _ _ _ hT7
  have d1 : w7.cell? ⟨T, 1, none⟩ = some (.int .i64 h.mach) := cell_of_row _ _ 1 _ _ _ hT7
  have d2 : w7.cell? ⟨T, 2, none⟩ = some (.int .i64 h.num) := cell_of_row _ _ 2 _ _ _ hT7
  have d3 : w7.cell? ⟨T, 3, none⟩ = some (.int .i64 h.per) := cell_of_row _ _ 3 _ _ _ hT7
  have d4 : w7.cell? ⟨T, 4, none⟩ = some (.int .u64 ((h.print : Nat) : Int)) := cell_of_row _ _ 4 _ _ _ hT7
  have d5 : w7.cell? ⟨T, 5, none⟩ = some (.slice sa6 rs.length sc6) := cell_of_row _ _ 5 _ _ _ hT7
  have d6 : w7.cell? ⟨T, 6, none⟩ = some (.bool wh) := cell_of_row _ _ 6 _ _ _ hT7
  go_wp2_with fail
  refine (Encode_good h sa6 rs.length sc6 rs wh hck hpr HGI.out hrl8 (by omega) _ HRT7.out (HL.out.below hb7)).mono ?_
  rintro e w8 (⟨h9, _⟩ | ⟨_, v8, rfl, hown8, hb8⟩)
  · omega
  rw [HE.out] at hown8
  obtain ⟨a8, cap8, rfl, hbs8⟩ := Bs.of_own hown8
  rw [HNE.out] at hbs8 ⊢
  have hT8 := (hb8.block T (by omega)).trans hT7
  have hU8 := (hb8.block S (by omega)).trans hU7
  have hb78 := hb7.trans (hb8.mono hb7.size)
  have HRS8 := Lib.hid (HRS7.out.below hb8)
  have HRT8 := Lib.hid (HRT7.out.below hb8)
  have HB8 := Lib.hid (HB7.out.below hb8)
  have HC8 := Lib.hid hbs8
  clear d0 d1 d2 d3 d4 d5 d6 hT7 hU7 hb8 hb7 HRS7 HRT7 HB7 hown8 hbs8
  have c0 : w8.cell? ⟨S, 0, none⟩ = some (.int .i64 h.rel) := cell_of_row _ _ 0 _ _ _ hU8
  have c1 : w8.cell? ⟨S, 1, none⟩ = some (.int .i64 h.mach) := cell_of_row _ _ 1 _ _ _ hU8
  have c2 : w8.cell? ⟨S, 2, none⟩ = some (.int .i64 h.num) := cell_of_row _ _ 2 _ _ _ hU8
  have c3 : w8.cell? ⟨S, 3, none⟩ = some (.int .i64 h.per) := cell_of_row _ _ 3 _ _ _ hU8
  have c4 : w8.cell? ⟨S, 4, none⟩ = some (.int .u64 ((h.print : Nat) : Int)) := cell_of_row _ _ 4 _ _ _ hU8
  have c5 : w8.cell? ⟨S, 5, none⟩ = some (.slice sa rs.length sc) := cell_of_row _ _ 5 _ _ _ hU8
  have c6 : w8.cell? ⟨S, 6, none⟩ = some (.bool wh) := cell_of_row _ _ 6 _ _ _ hU8
  have d0 : w8.cell? ⟨T, 0, none⟩ = some (.int .i64 h.rel) := cell_of_row _ _ 0 _ _ _ hT8
  have d1 : w8.cell? ⟨T, 1, none⟩ = some (.int .i64 h.mach) := cell_of_row _ _ 1 _ _ _ hT8
  have d2 : w8.cell? ⟨T, 2, none⟩ = some (.int .i64 h.num) := cell_of_row _ _ 2 _ _ _ hT8
  have d3 : w8.cell? ⟨T, 3, none⟩ = some (.int .i64 h.per) := cell_of_row _ _ 3 _ _ _ hT8
  have d4 : w8.cell? ⟨T, 4, none⟩ = some (.int .u64 ((h.print : Nat) : Int)) := cell_of_row _ _ 4 _ _ _ hT8
  have d5 : w8.cell? ⟨T, 5, none⟩ = some (.slice sa6 rs.length sc6) := cell_of_row _ _ 5 _ _ _ hT8
  have d6 : w8.cell? ⟨T, 6, none⟩ = some (.bool wh) := cell_of_row _ _ 6 _ _ _ hT8
  clear hT8 hU8
  go_wp2_with fail
  have hcl : ∀ r ∈ rs, r.chain.length ≤ 100000 := fun r hr => by have := (HGD.out r hr).2.2; omega
  refine (Same_any h h wh wh sa sa6 rs.length rs.length sc sc6 rs rs (by omega) (by omega) hcl hcl _ HRS8.out HRT8.out).mono ?_
  rintro e w9 ⟨rfl, hb9⟩
  rw [decide_eq_true ⟨rfl, rfl, rfl⟩]
  have HB9 := Lib.hid (HB8.out.below hb9)
  have HC9 := Lib.hid (HC8.out.below hb9)
  have hb89 := hb78.trans (hb9.mono hb78.size)
  clear hcl hb9 hb78
  go_wp2_with fail
  refine (Equal_same a5 a8 ne cap5 cap8 E (by omega) _ HB9.out HC9.out).mono ?_
  rintro e w10 ⟨rfl, hb10⟩
  have hend := hb89.trans (hb10.mono hb89.size)
  clear hb10 hb89
  go_wp2_with fail
  go_ret
  exact ⟨rfl, hend⟩

/-! ### THE ROW's STEP -/
set_option maxRecDepth 100000 in
theorem lifted (os : Os) (started : os.Started) (H : Type) (enc : TypeId × Value → H) :
    ReturnsInHanded {} Tryd.checked os 5 .any (fun w args => (Rows.recordBackSpec.pre enc Tryd.prog Tryd.f5 [] false w args ∧ laidMetH Tryd.prog [("warmpath/codec.remainders", Rows.laid_warmpath_codec_remainders)] w) ∧ sizedMet enc Tryd.prog Tryd.f5 (OpenSpec.ofChange Rows.recordBackSpec) false w args)
      (Rows.recordBackSpec.post enc Tryd.prog Tryd.f5 false true false false) := by
  refine returnsInHanded_of_change_and (C := Tryd.checked) (X := fun w _ => laidMetH Tryd.prog [("warmpath/codec.remainders", Rows.laid_warmpath_codec_remainders)] w) (fun _ _ _ hh h => h.of_heap hh) own started (by kernel_rfl) Tryd.func5
    (ChangeSpec.witness_shaped (enc := enc) (C := Tryd.checked) (os := os) (X := fun w _ => laidMetH Tryd.prog [("warmpath/codec.remainders", Rows.laid_warmpath_codec_remainders)] w) false (World.doorLaid Tryd.prog 400 os) #[.slice none 0 0] 8 rfl (World.shaped_of_RefB (by kernel_rfl) (by kernel_rfl)) (by kernel_rfl) (by kernel_rfl) (by kernel_rfl) (door_met os _)) ?_
  intro W base args ds gs before hval0 hW _ _ hL _
  have hval : ∀ (j : Nat) t v, Tryd.f5.params[j]? = some t → args[j]? = some v → Value.okWide Tryd.prog W .any base t v := hval0
  have hW' := hW
  obtain ⟨p, q, hA0, hV, rfl, hfz, hnd⟩ := hW
  have hA : DataW.TrodAll enc Tryd.prog W 0 (fun _ => true) true Tryd.f5.params.toList args.toList ds p := hA0
  rw [Tryd.params5] at hA hval
  obtain ⟨v0, vs0, d0, ds0, p0, q0, hargs, rfl, rfl, h0, r0⟩ := trodAll_cons hA
  obtain ⟨rfl, rfl, rfl⟩ := trodAll_nil r0
  obtain rfl : args = #[v0] := by cases args; simp_all
  obtain ⟨rfl, rfl⟩ := trodVars_none hV
  have k0 := h0
  have lt0 : ∀ x ∈ p0, x.block < W.heap.size := by obtain ⟨m, hm⟩ := k0; exact DataW.trod_lt m _ _ _ hm
  obtain ⟨a0, len0, cap0, zs0, rfl, w0⟩ := in_ints (k := .u8) Tryd.underlying22 Tryd.underlying5 (by kernel_rfl) (hval 0 22 v0 rfl rfl) h0
  clear hA0 hval0
  refine (walk a0 len0 cap0 zs0 W w0 (of_laid hL)).mono fun e W' ⟨he, bel⟩ => ?_
  subst he
  exact ⟨_, rfl, _, _, _, [], _, [], hW', trodAll_mk1 (shut_bool Tryd.underlying4 _), (trodAll_cons_mk (Below.trod laidOut (by kernel_rfl) (of_decide_eq_true (by kernel_rfl)) k0 bel lt0) trodAll_mk0), rfl, bel.frame _, fun h => by cases h⟩

theorem over : Rows.RecordBackSaid :=
  OpenClaim.holds_of_wide 5 Tryd.f5 rfl rfl rfl rfl rfl rfl rfl ⟨rfl, rfl, rfl, rfl, rfl⟩ rfl rfl rfl rfl rfl (by kernel_rfl) Tryd.func5 (by kernel_rfl)
    (of_decide_eq_true (by kernel_rfl)) (by unfold Func.isWrapper; first | (rw [if_pos (by decide +kernel)]; kernel_rfl) | (rw [if_neg (by decide +kernel)]; exact ⟨rfl, rfl⟩))
    (fun os started H enc _ => lifted os started H enc)

/-- the tied card -/
theorem proved : Rows.RecordBackCardSaid :=
  Claim7.holds_tied_plain_at .later [] [.data] true (true, "f64d14c5a3d4b4eaa4502eb95333a910291c6c1f8f25feef7f79f7a8b3cdd731") false
    over (fun _ h => by cases h) (by kernel_rfl) (fun _ h => by cases h) recordBack_row_tie rfl ⟨rfl, rfl⟩ (by kernel_rfl) rfl
    (fun f fn hf hfn => by
      obtain rfl : f = 5 := Option.some.inj ((show Tryd.prog.funcNamed "warmpath/warmpathlaw22.RecordBack" = some 5 by kernel_rfl).symm.trans hf) |>.symm
      obtain rfl : fn = Tryd.f5 := (Option.some.inj (Tryd.func5.symm.trans hfn)).symm
      exact ⟨by kernel_rfl, fun j t ht => by
        rw [Tryd.params5] at ht
        have hm : t ∈ [22] := by simpa using Array.mem_of_getElem? ht
        have hall : ([22].all fun u => !Tryd.prog.wantsStandIn u) = true := by kernel_rfl
        exact (show Tryd.prog.wantsStandIn t = false by simpa using List.all_eq_true.1 hall t hm)⟩)
    (by kernel_rfl)
#print axioms proved
end Go.Proofs.YtkgdogccnkjcgaaDoor.recordBack
