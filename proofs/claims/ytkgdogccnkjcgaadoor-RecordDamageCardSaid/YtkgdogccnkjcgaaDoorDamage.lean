/-
  For all inputs a changed byte of a record of a drawn profile ends what is recovered ahead of it, and what is recovered is a beginning of the records; no condition beyond the listed table, which is tied.
-/
import Derived.Test.YtkgdogccnkjcgaaDoorDmg
import Derived.Test.YtkgdogccnkjcgaaDoorLaidT
import Derived.Test.YtkgdogccnkjcgaaDoorTie
import Derived.Test.YtkgdogccnkjcgaaDoorCards
namespace Go.Proofs.YtkgdogccnkjcgaaDoor.recordDamage
open Go.ChangeShapes Go.WideShapes Go.ChangeAt Go.RowKit
set_option linter.unusedVariables false

theorem byts_set (zs : List Nat) (j y : Nat) : byts (zs.set j y) = (byts zs).set j (.int .u8 ((y : Nat) : Int)) := by simp
theorem xor_ne {x b : Nat} (h : b ≠ 0) : x ^^^ b ≠ x := by
  intro e
  have h1 : x ^^^ (x ^^^ b) = x ^^^ x := by rw [e]
  rw [← Nat.xor_assoc, Nat.xor_self, Nat.zero_xor] at h1
  exact h h1
set_option maxRecDepth 100000 in
set_option maxHeartbeats 16000000 in
theorem walk (a : Option Addr) (len cap : Nat) (zs : List Int) (x1 x2 : Int) (w : World) (w0 : InInts .u8 w a len cap zs) (w1 : (Lit.int .u16 x1).wf = true) (w2 : (Lit.int .u8 x2).wf = true) (hl : Laid w) :
    Calls Tryd.prog 3 #[.slice a len cap, .int .u16 x1, .int .u8 x2] w fun e w' => e = .returned (.bool true) ∧ Below w.heap.size w w' := by
  obtain ⟨i0, hi0, hz0, hz1, hz2⟩ := info_parts Tryd.info5
  obtain ⟨K, hK, rfl⟩ : ∃ N : Nat, N < 65536 ∧ x1 = N := ⟨x1.toNat, by have := bounds_u16 w1; omega, by have := bounds_u16 w1; omega⟩
  obtain ⟨B, hB, rfl⟩ : ∃ N : Nat, N < 256 ∧ x2 = N := ⟨x2.toNat, by have := bounds_u8 w2; omega, by have := bounds_u8 w2; omega⟩
  have HL := Lib.hid hl
  have H0 := Lib.hid w0
  clear hl w0 w1 w2
  by_cases hB0 : B = 0
  · subst hB0
    go_enter Tryd.func3, Tryd.ntmps3
    go_wp2_with fail
    refine (awake_any _ HL.out).mono ?_
    rintro e w1 ⟨rfl, hb1⟩
    go_wp2_with fail
    go_ret
    exact ⟨rfl, hb1⟩
  have dB : ((B : Int) == 0) = false := by simp; omega
  have HB0 := Lib.hid hB0
  clear hB0
  go_enter Tryd.func3, Tryd.ntmps3
  go_wp2_with fail
  refine (awake_any _ HL.out).mono ?_
  rintro e w1 ⟨rfl, hb1⟩
  have H1 := Lib.hid (H0.out.below hb1)
  go_wp2_with fail
  refine (New_any a len cap zs 500 (by omega) (by omega) _ H1.out).mono ?_
  rintro e w2 ⟨g, rfl, hg1, hcod2, hb2⟩
  have hb12 := hb1.trans (hb2.mono hb1.size)
  have hgw : w.heap.size ≤ g := by have := hb1.size; omega
  clear hb1 hb2 H1 hg1
  go_wp2_with fail
  refine (Shard_any g 12 (by omega) _ hcod2).mono ?_
  rintro e w3 ⟨h, v, wh, ls, rfl, _, hown3, hch3, hls, hgd, hck, hpr, hcod3, hgr3⟩
  obtain ⟨sa, sc, rfl, hrs3⟩ := Rs.of_own hown3 hch3
  have hb3 := below_grown1 hb12 hgr3 hb12.size hgw
  obtain ⟨rs, hrs⟩ : ∃ rs, ls.map (·.1) = rs := ⟨_, rfl⟩
  have hgd' : ∀ r ∈ rs, Good r ∧ r.kind ≠ 3 ∧ r.chain.length ≤ 5 := by
    rw [← hrs]; intro r hr; obtain ⟨p, hp, rfl⟩ := List.mem_map.1 hr; exact hgd p hp
  have hrl : ls.length = rs.length := by rw [← hrs]; simp
  rw [hrs] at hrs3
  rw [hrl] at hls hrs3 ⊢
  have hal := (Below.refl w3.heap.size w3).alloc (Nat.le_refl _) (.cells #[.int .i64 h.rel, .int .i64 h.mach, .int .i64 h.num, .int .i64 h.per, .int .u64 ((h.print : Nat) : Int), .slice sa rs.length sc, .bool wh] 32)
  have hb4 := hb3.alloc hb3.size (.cells #[.int .i64 h.rel, .int .i64 h.mach, .int .i64 h.num, .int .i64 h.per, .int .u64 ((h.print : Nat) : Int), .slice sa rs.length sc, .bool wh] 32)
  have hT4 : (w3.alloc (.cells #[.int .i64 h.rel, .int .i64 h.mach, .int .i64 h.num, .int .i64 h.per, .int .u64 ((h.print : Nat) : Int), .slice sa rs.length sc, .bool wh] 32)).heap[w3.heap.size]? = some (.cells #[.int .i64 h.rel, .int .i64 h.mach, .int .i64 h.num, .int .i64 h.per, .int .u64 ((h.print : Nat) : Int), .slice sa rs.length sc, .bool wh] 32 (0, 0)) := heap_alloc_new _ _
  have HRS4 := Lib.hid (hrs3.below hal)
  have HGD := Lib.hid hgd'
  clear hcod2 hb12 hrs3 hgd hcod3 hgr3 hb3 hal hown3 hch3 hrs hrl hgd'
  go_upto_region 5 with fail
  generalize (w3.alloc (.cells #[.int .i64 h.rel, .int .i64 h.mach, .int .i64 h.num, .int .i64 h.per, .int .u64 ((h.print : Nat) : Int), .slice sa rs.length sc, .bool wh] 32)) = w4 at *
  generalize w3.heap.size = S at *
  have c0 : w4.cell? ⟨S, 0, none⟩ = some (.int .i64 h.rel) := cell_of_row _ _ 0 _ _ _ hT4
  have c1 : w4.cell? ⟨S, 1, none⟩ = some (.int .i64 h.mach) := cell_of_row _ _ 1 _ _ _ hT4
  have c2 : w4.cell? ⟨S, 2, none⟩ = some (.int .i64 h.num) := cell_of_row _ _ 2 _ _ _ hT4
  have c3 : w4.cell? ⟨S, 3, none⟩ = some (.int .i64 h.per) := cell_of_row _ _ 3 _ _ _ hT4
  have c4 : w4.cell? ⟨S, 4, none⟩ = some (.int .u64 ((h.print : Nat) : Int)) := cell_of_row _ _ 4 _ _ _ hT4
  have c5 : w4.cell? ⟨S, 5, none⟩ = some (.slice sa rs.length sc) := cell_of_row _ _ 5 _ _ _ hT4
  have c6 : w4.cell? ⟨S, 6, none⟩ = some (.bool wh) := cell_of_row _ _ 6 _ _ _ hT4
  have hSl := (Array.getElem?_eq_some_iff.1 hT4).1
  have hls2 : rs.length ≤ 4096 := by omega
  go_wp2_with fail
  have hgi : ∀ i, i < rs.length → Good (rs.getD i default) ∧ (rs.getD i default).kind ≠ 3 := fun i hi => by
    have := HGD.out (rs.getD i default) (by simp [List.getD, hi])
    exact ⟨this.1, this.2.1⟩
  have hrl8 : (recs rs).length ≤ 80000 := by have := recs_le (fun r hr => (HGD.out r hr).1); omega
  have hel := enc_le (wh := wh) hck hpr (fun r hr => (HGD.out r hr).1) (by omega)
  have hpl := pre_len hck hpr
  obtain ⟨R, hR⟩ : ∃ R, recs rs ++ (if wh then frame [3] else []) = R := ⟨_, rfl⟩
  obtain ⟨P, hP⟩ : ∃ P, lettersV ++ frame (hpay h) = P := ⟨_, rfl⟩
  have hE : encB h rs wh = P ++ R := by rw [← hR, ← hP]; unfold encB; simp only [List.append_assoc]
  refine (Encode_good h sa rs.length sc rs wh hck hpr hgi hrl8 (by omega) _ HRS4.out (HL.out.below hb4)).mono ?_
  clear hgi
  rintro e w5 (⟨h9, _⟩ | ⟨_, v5, rfl, hown5, hb5⟩)
  · omega
  rw [hE] at hown5 hel
  rw [hP] at hpl
  obtain ⟨a5, cap5, rfl, hbs5⟩ := Bs.of_own hown5
  obtain ⟨np, hnp⟩ : ∃ np, P.length = np := ⟨_, rfl⟩
  obtain ⟨nr, hnr⟩ : ∃ nr, R.length = nr := ⟨_, rfl⟩
  have hne : (P ++ R).length = np + nr := by rw [List.length_append, hnp, hnr]
  rw [hne] at hbs5 hel ⊢
  rw [hnp] at hpl
  have hT5 := (hb5.block S hSl).trans hT4
  have hb45 := hb4.trans (hb5.mono hb4.size)
  have hS5 : S < w5.heap.size := Nat.lt_of_lt_of_le hSl hb5.size
  have HRR := Lib.hid hR
  have HP := Lib.hid hP
  have HNP := Lib.hid hnp
  have HNR := Lib.hid hnr
  have HB5 := Lib.hid hbs5
  have HRS5 := Lib.hid (HRS4.out.below hb5)
  have hbE : Byt (P ++ R) := by
    rw [← hP, ← hR]
    refine Byt.append (Byt.append (by intro x hx; simp at hx; omega) (frame_byt (hpay_byt h))) (Byt.append (recs_byt rs) ?_)
    cases wh
    · exact Byt.nil
    · exact frame_byt (Byt.one (by decide))
  have HBE := Lib.hid hbE
  clear c0 c1 c2 c3 c4 c5 c6 hT4 hSl hb4 hb5 hown5 hbs5 hE hne hR hP hnp hnr HRS4 hbE
  obtain ⟨ne, hne⟩ : ∃ ne, np + nr = ne := ⟨_, rfl⟩
  rw [hne] at HB5 hel ⊢
  have c0 : w5.cell? ⟨S, 0, none⟩ = some (.int .i64 h.rel) := cell_of_row _ _ 0 _ _ _ hT5
  have c1 : w5.cell? ⟨S, 1, none⟩ = some (.int .i64 h.mach) := cell_of_row _ _ 1 _ _ _ hT5
  have c2 : w5.cell? ⟨S, 2, none⟩ = some (.int .i64 h.num) := cell_of_row _ _ 2 _ _ _ hT5
  have c3 : w5.cell? ⟨S, 3, none⟩ = some (.int .i64 h.per) := cell_of_row _ _ 3 _ _ _ hT5
  have c4 : w5.cell? ⟨S, 4, none⟩ = some (.int .u64 ((h.print : Nat) : Int)) := cell_of_row _ _ 4 _ _ _ hT5
  have c5 : w5.cell? ⟨S, 5, none⟩ = some (.slice sa rs.length sc) := cell_of_row _ _ 5 _ _ _ hT5
  have c6 : w5.cell? ⟨S, 6, none⟩ = some (.bool wh) := cell_of_row _ _ 6 _ _ _ hT5
  go_wp2_with fail
  refine (Begin_any h hpr _ (HL.out.below hb45)).mono ?_
  rintro e w6 ⟨v6, rfl, hown6, hb6⟩
  rw [hck]
  rw [if_pos hck, HP.out] at hown6
  obtain ⟨a6, cap6, rfl, hbs6⟩ := Bs.of_own hown6
  rw [HNP.out] at hbs6 ⊢
  have hT6 := (hb6.block S hS5).trans hT5
  have hb46 := hb45.trans (hb6.mono hb45.size)
  have hS6 : S < w6.heap.size := Nat.lt_of_lt_of_le hS5 hb6.size
  have HB6 := Lib.hid (HB5.out.below hb6)
  have HRS6 := Lib.hid (HRS5.out.below hb6)
  clear c0 c1 c2 c3 c4 c5 c6 hT5 hS5 hb45 hb6 hown6 hbs6 HB5 HRS5
  have c0 : w6.cell? ⟨S, 0, none⟩ = some (.int .i64 h.rel) := cell_of_row _ _ 0 _ _ _ hT6
  have c1 : w6.cell? ⟨S, 1, none⟩ = some (.int .i64 h.mach) := cell_of_row _ _ 1 _ _ _ hT6
  have c2 : w6.cell? ⟨S, 2, none⟩ = some (.int .i64 h.num) := cell_of_row _ _ 2 _ _ _ hT6
  have c3 : w6.cell? ⟨S, 3, none⟩ = some (.int .i64 h.per) := cell_of_row _ _ 3 _ _ _ hT6
  have c4 : w6.cell? ⟨S, 4, none⟩ = some (.int .u64 ((h.print : Nat) : Int)) := cell_of_row _ _ 4 _ _ _ hT6
  have c5 : w6.cell? ⟨S, 5, none⟩ = some (.slice sa rs.length sc) := cell_of_row _ _ 5 _ _ _ hT6
  have c6 : w6.cell? ⟨S, 6, none⟩ = some (.bool wh) := cell_of_row _ _ 6 _ _ _ hT6
  by_cases hr0 : nr = 0
  · have de : ((ne : Int) == (np : Int)) = true := by simp; omega
    clear hr0 hne
    go_wp2_with fail
    go_ret
    exact ⟨rfl, hb46⟩
  have de : ((ne : Int) == (np : Int)) = false := by simp; omega
  obtain ⟨j, hj⟩ : ∃ j, K % nr = j := ⟨_, rfl⟩
  have hjl : j < nr := by rw [← hj]; exact Nat.mod_lt _ (by omega)
  have er : (K : Int) % ((ne : Int) - (np : Int)) = (j : Int) := by
    rw [← hj, show (ne : Int) - (np : Int) = (nr : Int) by omega]; exact (Int.natCast_emod K nr).symm
  obtain ⟨x, hxx⟩ : ∃ x, (P ++ R).getD (np + j) 0 = x := ⟨_, rfl⟩
  have hxl : x < 256 := by rw [← hxx]; exact HBE.out.get _
  obtain ⟨y, hy⟩ : ∃ y, x ^^^ B = y := ⟨_, rfl⟩
  have hyl : y < 256 := by rw [← hy]; exact Nat.xor_lt_two_pow (n := 8) hxl hB
  have ex := u8_xor_nat x B hxl hB
  rw [hy] at ex
  have hyx : y ≠ x := by rw [← hy]; exact xor_ne HB0.out
  have hset : (P ++ R).set (np + j) y = lettersV ++ frame (hpay h) ++ R.set j y := by
    rw [List.set_append_right _ _ (by rw [HNP.out]; omega), HNP.out, Nat.add_sub_cancel_left, HP.out]
  have hxR : R.getD j 0 = x := by rw [← hxx, ← HNP.out, getD_append_right]
  have hbR : Byt (R.set j y) := by
    intro z hz
    rcases List.mem_or_eq_of_mem_set hz with hz | rfl
    · exact byt_right HBE.out z hz
    · exact hyl
  obtain ⟨m, k, hm, hk, hsc⟩ := scan_damage (fun r hr => ⟨(HGD.out r hr).1, (HGD.out r hr).2.1⟩) hls2 wh HRR.out (j := j) (y := y) (by rw [HNR.out]; exact hjl) hyl (by rw [hxR]; exact hyx)
  have HSC := Lib.hid hsc
  have HSET := Lib.hid hset
  have HBR := Lib.hid hbR
  have HNE := Lib.hid hne
  have hnn : np + j < ne := by omega
  clear hj hy hyx hset hxR hbR hsc hne hr0
  go_wp2_with (at_builtin; refine wpList_append_src rfl _ _ _ rfl w6.heap.size 5 i0 _ 1 1 Tryd.underlying22 hi0 hz0 hz1 hz2 rfl (by omega) _ _ _ rfl (World.ownsRow_nil _ _ _ _) a5 ne cap5 (byts (P ++ R)) rfl HB6.out.2.1 HB6.out.2.2.2.1 (by have := HB6.out.1; simpa using this) HB6.out.2.2.2.2 (byts_one _) (by unfold maxLen; omega) (by omega) (Nat.le_refl _) ?_; intro v7 w7 hown7 hgr7; have hb7 := (Below.refl w6.heap.size w6).grown hgr7 (Nat.le_refl _) (fun k e => by cases e); rw [Nat.zero_add, List.nil_append] at hown7; clear hgr7; obtain ⟨g7, cap7, rfl, hg1, hg2, hg3, hg4, hg5, hg6⟩ := own_block hown7 (byts_ne _ 0 (by rw [HB6.out.1]; omega)); have cj := hg6 (np + j) _ (byts_get (P ++ R) (np + j) (by rw [HB6.out.1]; omega)); have fj := World.ownsRow.frozenAt hown7 (np + j); have HST := Lib.hid (World.ownsRow.stored hown7 (np + j) (.int .u8 y)).1; rw [hxx] at cj; clear hown7 hg5 hg6)
  have HST2 : Hid ((w7.setCell ⟨g7, np + j, none⟩ (.int .u8 (y : Int))).ownsRow w6.heap.size 5 1 (.slice (some ⟨g7, 0, none⟩) ne cap7) ne (byts ((P ++ R).set (np + j) y))) := Lib.hid (by
    have := HST.out
    rw [← byts_set] at this
    exact this)
  have hb8 := hb7.setCell (p := ⟨g7, np + j, none⟩) hg1 (.int .u8 (y : Int))
  have hb48 := hb46.trans (hb8.mono hb46.size)
  have hT8 := (hb8.block S hS6).trans hT6
  have HRS8 := Lib.hid (HRS6.out.below hb8)
  have hS8 := Nat.lt_of_lt_of_le hS6 hb8.size
  obtain ⟨w8, hw8⟩ : ∃ w8, w7.setCell ⟨g7, np + j, none⟩ (.int .u8 (y : Int)) = w8 := ⟨_, rfl⟩
  rw [hw8] at HST2 hb48 hT8 HRS8 hS8
  try rw [hw8]
  obtain ⟨a8, cap8, he8, hbs8⟩ := Bs.of_own HST2.out
  injection he8 with he8 _ he9
  subst he8 he9
  rw [HSET.out] at hbs8
  have HBS8 := Lib.hid hbs8
  clear hbs8 hb8 hb7 HST2 HST cj fj c0 c1 c2 c3 c4 c5 c6 hT6 hb46 HRS6 hS6 hw8
  refine (Recover_any h hck hpr (R.set j y) HBR.out _ ne cap7 _ (by omega) HBS8.out (HL.out.below hb48)).mono ?_
  rintro e w9 ⟨ls9, v9, rfl, hown9, hch9, hls9, hb9⟩
  rw [HSC.out] at hls9 ⊢
  simp only at hls9 ⊢
  obtain ⟨sa9, sc9, rfl, hrs9⟩ := Rs.of_own hown9 hch9
  have hl9 : ls9.length = m := by
    have := congrArg List.length hls9
    rw [List.length_map, List.length_take] at this
    omega
  rw [hls9] at hrs9
  rw [hl9] at hrs9 ⊢
  have hFl : 4 + (frame (hpay h)).length + k = np + k := by
    have := HNP.out
    rw [← HP.out, List.length_append] at this
    simp only [List.length_cons, List.length_nil] at this
    omega
  rw [hFl]
  have hal := (Below.refl w9.heap.size w9).alloc (Nat.le_refl _) (.cells #[.int .i64 h.rel, .int .i64 h.mach, .int .i64 h.num, .int .i64 h.per, .int .u64 ((h.print : Nat) : Int), .slice sa9 m sc9, .bool false] 32)
  have hb9a := hb9.trans (hal.mono hb9.size)
  have hb10 := hb48.trans (hb9a.mono hb48.size)
  have hT10 := (hb9a.block S hS8).trans hT8
  have hU10 : (w9.alloc (.cells #[.int .i64 h.rel, .int .i64 h.mach, .int .i64 h.num, .int .i64 h.per, .int .u64 ((h.print : Nat) : Int), .slice sa9 m sc9, .bool false] 32)).heap[w9.heap.size]? = some (.cells #[.int .i64 h.rel, .int .i64 h.mach, .int .i64 h.num, .int .i64 h.per, .int .u64 ((h.print : Nat) : Int), .slice sa9 m sc9, .bool false] 32 (0, 0)) := heap_alloc_new _ _
  have HRS10 := Lib.hid (HRS8.out.below hb9a)
  have HRT10 := Lib.hid (hrs9.below hal)
  have hdn : decide ((ne : Int) < ((np + k : Nat) : Int)) = false := by simp; omega
  have hdm : decide ((rs.length : Int) < (m : Int)) = false := by simp; omega
  clear hrs9 hb9 hal hb9a hT8 HRS8 hown9 hch9 hls9 hl9 hb48 hS8 hFl
  go_upto_region 13 with fail
  generalize (w9.alloc (.cells #[.int .i64 h.rel, .int .i64 h.mach, .int .i64 h.num, .int .i64 h.per, .int .u64 ((h.print : Nat) : Int), .slice sa9 m sc9, .bool false] 32)) = w10 at *
  generalize w9.heap.size = T at *
  have c0 : w10.cell? ⟨S, 0, none⟩ = some (.int .i64 h.rel) := cell_of_row _ _ 0 _ _ _ hT10
  have c1 : w10.cell? ⟨S, 1, none⟩ = some (.int .i64 h.mach) := cell_of_row _ _ 1 _ _ _ hT10
  have c2 : w10.cell? ⟨S, 2, none⟩ = some (.int .i64 h.num) := cell_of_row _ _ 2 _ _ _ hT10
  have c3 : w10.cell? ⟨S, 3, none⟩ = some (.int .i64 h.per) := cell_of_row _ _ 3 _ _ _ hT10
  have c4 : w10.cell? ⟨S, 4, none⟩ = some (.int .u64 ((h.print : Nat) : Int)) := cell_of_row _ _ 4 _ _ _ hT10
  have c5 : w10.cell? ⟨S, 5, none⟩ = some (.slice sa rs.length sc) := cell_of_row _ _ 5 _ _ _ hT10
  have c6 : w10.cell? ⟨S, 6, none⟩ = some (.bool wh) := cell_of_row _ _ 6 _ _ _ hT10
  have d0 : w10.cell? ⟨T, 0, none⟩ = some (.int .i64 h.rel) := cell_of_row _ _ 0 _ _ _ hU10
  have d1 : w10.cell? ⟨T, 1, none⟩ = some (.int .i64 h.mach) := cell_of_row _ _ 1 _ _ _ hU10
  have d2 : w10.cell? ⟨T, 2, none⟩ = some (.int .i64 h.num) := cell_of_row _ _ 2 _ _ _ hU10
  have d3 : w10.cell? ⟨T, 3, none⟩ = some (.int .i64 h.per) := cell_of_row _ _ 3 _ _ _ hU10
  have d4 : w10.cell? ⟨T, 4, none⟩ = some (.int .u64 ((h.print : Nat) : Int)) := cell_of_row _ _ 4 _ _ _ hU10
  have d5 : w10.cell? ⟨T, 5, none⟩ = some (.slice sa9 m sc9) := cell_of_row _ _ 5 _ _ _ hU10
  have d6 : w10.cell? ⟨T, 6, none⟩ = some (.bool false) := cell_of_row _ _ 6 _ _ _ hU10
  have hSl := (Array.getElem?_eq_some_iff.1 hT10).1
  have hTl := (Array.getElem?_eq_some_iff.1 hU10).1
  clear hT10 hU10
  go_wp2_with fail
  go_loopw [18] (fun v18 wr => ∃ i : Nat, i ≤ m ∧ v18 = .int .i64 i ∧ Below w10.heap.size w10 wr) (fun v _ => m - (intOf v).toNat)
  case atStart => exact ⟨0, by omega, rfl, Below.refl _ _⟩
  case round =>
    obtain ⟨i, hi, rfl, hb⟩ := hrel
    have r5 := (hb.cell (p := ⟨S, 5, none⟩) hSl).trans c5
    have s5 := (hb.cell (p := ⟨T, 5, none⟩) hTl).trans d5
    by_cases hlt : i < m
    · obtain ⟨b, off, rfl, hbl, hx⟩ := (HRS10.out.below hb).2.2.2.2 i (by omega)
      obtain ⟨b', off', rfl, hbl', hy⟩ := (HRT10.out.below hb).2.2.2.2 i hlt
      have hcx := (HGD.out (rs.getD i default) (by simp [List.getD, show i < rs.length by omega])).2.2
      have hxy : (rs.take m).getD i default = rs.getD i default := by simp [List.getD, hlt]
      rw [hxy] at hy
      obtain ⟨q, hq⟩ : ∃ q, rs.getD i default = q := ⟨_, rfl⟩
      rw [hq] at hx hy hcx
      obtain ⟨cax, cnx, ccx, ⟨x0, x1, x2, x3, x4, x5, x6⟩, hix⟩ := hx
      obtain ⟨cay, cny, ccy, ⟨y0, y1, y2, y3, y4, y5, y6⟩, hiy⟩ := hy
      have hcn : cnx ≤ 100000 := by have := hix.1; omega
      have hcn' : cny ≤ 100000 := by have := hiy.1; omega
      have HIX := Lib.hid (hix.below (Below.refl _ _).drew)
      have HIY := Lib.hid (hiy.below (Below.refl _ _).drew)
      have i0' : (0 : Int) ≤ (i : Int) := by omega
      have i1 : (i : Int) < (m : Int) := by omega
      have i2 : (i : Int) < (rs.length : Int) := by omega
      clear hix hiy hq hxy
      go_wp2_with fail
      go_still_tail 10, (by kernel_rfl)
      change wpList _ _ _ _ _ wr.drew
      go_wp2_with fail
      refine (SameRecord_any q q cay cax cny cnx ccy ccx hcn' hcn _ HIY.out HIX.out).mono ?_
      rintro e w12 ⟨rfl, hb2⟩
      rw [decide_eq_true rfl]
      have hb3 := hb.drew.trans (hb2.mono (show w10.heap.size ≤ wr.drew.heap.size from hb.size))
      clear hb2 hb
      go_wp2_with fail
      go_roundw
      case rel => exact ⟨i + 1, by omega, by go_num, hb3⟩
      case measure => simp [intOf]; omega
    · obtain rfl : i = m := by omega
      have hend := hb10.trans (hb.mono hb10.size)
      have dk : decide (((np + k : Nat) : Int) ≤ (np : Int) + (j : Int)) = true := by simp; omega
      go_wp2_with fail
      go_ret
      exact ⟨rfl, hend⟩

/-! ### THE ROW's STEP -/
set_option maxRecDepth 100000 in
theorem lifted (os : Os) (started : os.Started) (H : Type) (enc : TypeId × Value → H) :
    ReturnsInHanded {} Tryd.checked os 3 .any (fun w args => (Rows.recordDamageSpec.pre enc Tryd.prog Tryd.f3 [] false w args ∧ laidMetH Tryd.prog [("warmpath/codec.remainders", Rows.laid_warmpath_codec_remainders)] w) ∧ sizedMet enc Tryd.prog Tryd.f3 (OpenSpec.ofChange Rows.recordDamageSpec) false w args)
      (Rows.recordDamageSpec.post enc Tryd.prog Tryd.f3 false true false false) := by
  refine returnsInHanded_of_change_and (C := Tryd.checked) (X := fun w _ => laidMetH Tryd.prog [("warmpath/codec.remainders", Rows.laid_warmpath_codec_remainders)] w) (fun _ _ _ hh h => h.of_heap hh) own started (by kernel_rfl) Tryd.func3
    (ChangeSpec.witness_shaped (enc := enc) (C := Tryd.checked) (os := os) (X := fun w _ => laidMetH Tryd.prog [("warmpath/codec.remainders", Rows.laid_warmpath_codec_remainders)] w) false (World.doorLaid Tryd.prog 400 os) #[.slice none 0 0, .int .u16 0, .int .u8 0] 8 rfl (World.shaped_of_RefB (by kernel_rfl) (by kernel_rfl)) (by kernel_rfl) (by kernel_rfl) (by kernel_rfl) (door_met os _)) ?_
  intro W base args ds gs before hval0 hW _ _ hL _
  have hval : ∀ (j : Nat) t v, Tryd.f3.params[j]? = some t → args[j]? = some v → Value.okWide Tryd.prog W .any base t v := hval0
  have hW' := hW
  obtain ⟨p, q, hA0, hV, rfl, hfz, hnd⟩ := hW
  have hA : DataW.TrodAll enc Tryd.prog W 0 (fun _ => true) true Tryd.f3.params.toList args.toList ds p := hA0
  rw [Tryd.params3] at hA hval
  obtain ⟨v0, vs0, d0, ds0, p0, q0, hargs, rfl, rfl, h0, r0⟩ := trodAll_cons hA
  obtain ⟨v1, vs1, d1, ds1, p1, q1, rfl, rfl, rfl, h1, r1⟩ := trodAll_cons r0
  obtain ⟨v2, vs2, d2, ds2, p2, q2, rfl, rfl, rfl, h2, r2⟩ := trodAll_cons r1
  obtain ⟨rfl, rfl, rfl⟩ := trodAll_nil r2
  obtain rfl : args = #[v0, v1, v2] := by cases args; simp_all
  obtain ⟨rfl, rfl⟩ := trodVars_none hV
  have k0 := h0
  have lt0 : ∀ x ∈ p0, x.block < W.heap.size := by obtain ⟨m, hm⟩ := k0; exact DataW.trod_lt m _ _ _ hm
  obtain ⟨a0, len0, cap0, zs0, rfl, w0⟩ := in_ints (k := .u8) Tryd.underlying22 Tryd.underlying5 (by kernel_rfl) (hval 0 22 v0 rfl rfl) h0
  obtain ⟨a1, rfl, rfl, rfl, w1⟩ := open_int Tryd.underlying23 (hval 1 23 v1 rfl rfl) h1
  obtain ⟨a2, rfl, rfl, rfl, w2⟩ := open_int Tryd.underlying5 (hval 2 5 v2 rfl rfl) h2
  clear hA0 hval0
  refine (walk a0 len0 cap0 zs0 a1 a2 W w0 w1 w2 (of_laid hL)).mono fun e W' ⟨he, bel⟩ => ?_
  subst he
  exact ⟨_, rfl, _, _, _, [], _, [], hW', trodAll_mk1 (shut_bool Tryd.underlying4 _), (trodAll_cons_mk (Below.trod laidOut (by kernel_rfl) (of_decide_eq_true (by kernel_rfl)) k0 bel lt0) (trodAll_cons_mk (shut_int Tryd.underlying23 w1) (trodAll_cons_mk (shut_int Tryd.underlying5 w2) trodAll_mk0))), rfl, bel.frame _, fun h => by cases h⟩

theorem over : Rows.RecordDamageSaid :=
  OpenClaim.holds_of_wide 3 Tryd.f3 rfl rfl rfl rfl rfl rfl rfl ⟨rfl, rfl, rfl, rfl, rfl⟩ rfl rfl rfl rfl rfl (by kernel_rfl) Tryd.func3 (by kernel_rfl)
    (of_decide_eq_true (by kernel_rfl)) (by unfold Func.isWrapper; first | (rw [if_pos (by decide +kernel)]; kernel_rfl) | (rw [if_neg (by decide +kernel)]; exact ⟨rfl, rfl⟩))
    (fun os started H enc _ => lifted os started H enc)

/-- the tied card -/
theorem proved : Rows.RecordDamageCardSaid :=
  Claim7.holds_tied_plain_at .later [] [.data] true (true, "f64d14c5a3d4b4eaa4502eb95333a910291c6c1f8f25feef7f79f7a8b3cdd731") false
    over (fun _ h => by cases h) (by kernel_rfl) (fun _ h => by cases h) recordDamage_row_tie rfl ⟨rfl, rfl⟩ (by kernel_rfl) rfl
    (fun f fn hf hfn => by
      obtain rfl : f = 3 := Option.some.inj ((show Tryd.prog.funcNamed "warmpath/warmpathlaw22.RecordDamage" = some 3 by kernel_rfl).symm.trans hf) |>.symm
      obtain rfl : fn = Tryd.f3 := (Option.some.inj (Tryd.func3.symm.trans hfn)).symm
      exact ⟨by kernel_rfl, fun j t ht => by
        rw [Tryd.params3] at ht
        have hm : t ∈ [22, 23, 5] := by simpa using Array.mem_of_getElem? ht
        have hall : ([22, 23, 5].all fun u => !Tryd.prog.wantsStandIn u) = true := by kernel_rfl
        exact (show Tryd.prog.wantsStandIn t = false by simpa using List.all_eq_true.1 hall t hm)⟩)
    (by kernel_rfl)
#print axioms proved
end Go.Proofs.YtkgdogccnkjcgaaDoor.recordDamage
