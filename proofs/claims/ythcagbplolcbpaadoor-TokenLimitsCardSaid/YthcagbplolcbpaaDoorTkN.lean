/-
  WALK of token.next. (Filled in from a template of this repo.)
-/
import Derived.Test.YthcagbplolcbpaaDoorTkB
import Derived.Test.YthcagbplolcbpaaDoorShelf
import Derived.BigQuiet
import Derived.Test.YthcagbplolcbpaaDoorTake
import Derived.Lib.AppendIntMem
import Derived.Lib.AtoiErrMem
namespace Go.Proofs.YthcagbplolcbpaaDoor
open Go.ChangeShapes Go.WideShapes Go.ChangeAt Go.RowKit
set_option linter.unusedVariables false
set_option linter.unusedSimpArgs false

/-- what the walks ask of the listed variables -/
structure Lad (w : World) : Prop where
  range : ∃ (tp : TypeId) (p : Value), w.var? Tryd.prog "strconv.ErrRange" = some #[.iface tp p]
  syn : ∃ (tp : TypeId) (p : Value), w.var? Tryd.prog "strconv.ErrSyntax" = some #[.iface tp p]
  tab : Lib.TabIs Tryd.prog w "internal/strconv.uint64pow10" .u64 Lib.pow10Tab
theorem g_range : Tryd.prog.globalNamed "strconv.ErrRange" = some 1 := by kernel_rfl
theorem g_syn : Tryd.prog.globalNamed "strconv.ErrSyntax" = some 0 := by kernel_rfl
theorem g_tab : Tryd.prog.globalNamed "internal/strconv.uint64pow10" = some 3 := by kernel_rfl
theorem var_lt {P : Program} {w : World} {n : String} {g : Nat} {cs : Array Value} (hg : P.globalNamed n = some g) (h : w.var? P n = some cs) : g < w.heap.size := by
  unfold World.var? at h
  rw [hg] at h
  simp only [Option.bind_some] at h
  split at h
  · rename_i hh
    exact (Array.getElem?_eq_some_iff.1 hh).1
  · cases h
theorem Lad.below {w w' : World} (h : Lad w) (hb : Below w.heap.size w w') : Lad w' := by
  obtain ⟨⟨t1, p1, h1⟩, ⟨t2, p2, h2⟩, h3⟩ := h
  exact ⟨⟨t1, p1, var?_below hb g_range (var_lt g_range h1) h1⟩, ⟨t2, p2, var?_below hb g_syn (var_lt g_syn h2) h2⟩, var?_below hb g_tab (var_lt g_tab h3) h3⟩
/-- the token with which a text begins: kind, value, text, and whether it is right -/
def nxI (l : Bt) : Int × Int × Bt × Bool :=
  match l with
  | [] => (4, 0, [], false)
  | b :: r =>
    if lt8 b then (if isW (run in8 l) then 3 else 1, 0, run in8 l, decide ((run in8 l).length ≤ 32))
    else if dg8 b then
      match Lib.atoiAll (run dg8 l) with
      | .ok v => (2, v, run dg8 l, (Lib.itoa v == run dg8 l) && decide ((run in8 l).length = (run dg8 l).length))
      | _ => (2, 0, run dg8 l, false)
    else if 1 < l.length ∧ isS (l.take 2) = true then (4, 0, l.take 2, true)
    else (4, 0, l.take 1, isS (l.take 1))
/-- the cells of a token -/
abbrev tkv (k n v : Int) (t : Bt) : Value := .agg #[.int .i64 k, .int .i64 n, .int .i64 v, .string (st t)]
def TkPost (l : Bt) (w : World) (e : Ending) (w' : World) : Prop := Below w.heap.size w w' ∧ ∃ (k v : Int) (t : Bt) (ok : Bool), e = .returned (.tuple #[tkv k 0 v t, .bool ok]) ∧ (nxI l = (k, v, t, ok) ∨ (ok = false ∧ (nxI l).2.2.2 = false))
/-- strconv.Atoi and Itoa, as the walks use them -/
theorem Atoi_any (t : Bt) (hl : t.length ≤ 281474976710656) (w : World) (hw : Lad w) : Calls Tryd.prog 34 #[.string (st t)] w fun e w' =>
    ((∃ v, Lib.atoiAll t = .ok v ∧ e = .returned (.tuple #[.int .i64 v, .nilIface])) ∨ (∃ (x : Int) (p : Value), (∀ v, Lib.atoiAll t ≠ .ok v) ∧ e = .returned (.tuple #[.int .i64 x, .iface 91 p]))) ∧ Below w.heap.size w w' := by
  have e0 : (st t).data.toList = t := by simp
  obtain ⟨tr, pr, hr⟩ := hw.range
  obtain ⟨ts, ps, hs⟩ := hw.syn
  cases h : Lib.atoiAll t
  · rename_i v
    refine (Tryd.strconv_Atoi_ok (st t) (by show t.length ≤ _; omega) v (by rw [e0]; exact h) w).mono ?_
    rintro e w' ⟨rfl, hh⟩
    refine ⟨.inl ⟨v, rfl, rfl⟩, ?_⟩
    rcases hh with rfl | ⟨t', rfl⟩
    · exact Below.refl _ _
    · exact Lib.bytesWorld_below _ _ _
  · refine (Tryd.strconv_Atoi_bad_var (st t) (by show t.length ≤ _; omega) (by rw [e0, h]; intro v e; cases e) (by rw [e0, h]; intro e; cases e) ts ps w hs).mono ?_
    rintro e w' ⟨N, rfl, _, _, hb⟩
    exact ⟨.inr ⟨_, _, (fun v e => by cases e), rfl⟩, hb⟩
  · refine (Tryd.strconv_Atoi_range_var (st t) (by show t.length ≤ _; omega) (by rw [e0]; exact h) tr pr w hr).mono ?_
    rintro e w' ⟨N, rfl, _, _, hb⟩
    exact ⟨.inr ⟨_, _, (fun v e => by cases e), rfl⟩, hb⟩
theorem Itoa_any (v : Int) (h0 : -9223372036854775808 ≤ v) (h1 : v ≤ 9223372036854775807) (w : World) (hw : Lad w) : Calls Tryd.prog 35 #[.int .i64 v] w fun e w' => e = .returned (.string (st (Lib.itoa v))) ∧ Below w.heap.size w w' := by
  refine (Tryd.strconv_Itoa v h0 h1 w hw.tab).mono ?_
  rintro e w' ⟨rfl, k, os, rfl⟩
  exact ⟨rfl, Lib.below_grow _ _ (Nat.le_refl _) _ _⟩
set_option maxRecDepth 100000 in
set_option maxHeartbeats 4000000 in
theorem next_any (s : ByteArray) (hs : s.size ≤ 281474976710656) (h0 : 0 < s.size) (w : World) (hw : Lad w) : Calls Tryd.prog 25 #[.string s] w (TkPost s.data.toList w) := by
  have hg := st_get s 0 h0
  obtain ⟨b, hb⟩ : ∃ b, s[0] = b := ⟨_, rfl⟩
  rw [hb] at hg
  obtain ⟨r, hl⟩ : ∃ r, s.data.toList = b :: r := by
    cases h : s.data.toList with
    | nil => rw [h] at hg; simp at hg
    | cons x r => rw [h] at hg; simp at hg; subst hg; exact ⟨r, rfl⟩
  have HL := Lib.hid hl
  have HB := Lib.hid hb
  have HW := Lib.hid hw
  clear hg hw
  have HR1 : Hid (∀ W, Calls Tryd.prog 23 #[.string s, .func (.func 32) #[] #[]] W fun e w' => e = .returned (.string (st (run in8 s.data.toList))) ∧ w' = W) := Lib.hid (fun W => run_inner s (by omega) W)
  cases h1 : lt8 b
  · have H1 := Lib.hid h1
    cases h2 : dg8 b
    · have H2 := Lib.hid h2
      have h1s : (1 : Int) ≤ (s.size : Int) := by omega
      have hx2 : s.extract 0 2 = st (s.data.toList.take 2) := by rw [st_ext]; simp
      have hx1 : s.extract 0 1 = st (s.data.toList.take 1) := by rw [st_ext]; simp
      have HE : Hid (nxI s.data.toList = (if 1 < s.data.toList.length ∧ isS (s.data.toList.take 2) = true then (4, 0, s.data.toList.take 2, true) else (4, 0, s.data.toList.take 1, isS (s.data.toList.take 1)))) := Lib.hid (by
        rw [hl]; show (if lt8 b then _ else _) = _; rw [h1]; simp only [Bool.false_eq_true, if_false]; rw [h2]; simp only [Bool.false_eq_true, if_false])
      clear h1 h2 hl
      have hlen : s.data.toList.length = s.size := rfl
      rw [hlen] at HE
      obtain ⟨t2, ht2⟩ : ∃ t, s.data.toList.take 2 = t := ⟨_, rfl⟩
      obtain ⟨t1, ht1⟩ : ∃ t, s.data.toList.take 1 = t := ⟨_, rfl⟩
      rw [ht2] at hx2 HE
      rw [ht1] at hx1 HE
      clear ht1 ht2 hlen
      have HW2 : Hid (∀ W, W = w.alloc (.cells #[.int .i64 0, .int .i64 0, .int .i64 0, .string { data := #[] }] 33) → Below w.heap.size w W ∧ W.heap[w.heap.size]? = some (.cells #[.int .i64 0, .int .i64 0, .int .i64 0, .string { data := #[] }] 33 (0, 0))) := Lib.hid (fun W hW => by subst hW; exact ⟨(Below.refl _ _).alloc (Nat.le_refl _) _, heap_alloc_new w _⟩)
      by_cases hgo : 1 < s.size ∧ isS t2 = true
      · obtain ⟨hz1, hz2⟩ := hgo
        have HZ2 := Lib.hid hz2
        have HE2 : Hid (nxI s.data.toList = (4, 0, t2, true)) := Lib.hid (by rw [HE.out, if_pos ⟨hz1, hz2⟩])
        have d1 : decide ((1 : Int) < (s.size : Int)) = true := by rw [decide_eq_true_iff]; omega
        clear hz2
        go_enter Tryd.func25, Tryd.ntmps25
        go_wp2_with fail
        refine (letter_any b _).mono ?_
        rintro e w1 ⟨rfl, rfl⟩
        rw [H1.out]
        go_wp2_with fail
        refine (digit_any b _).mono ?_
        rintro e w1 ⟨rfl, rfl⟩
        rw [H2.out]
        go_upto_region 11 with fail
        obtain ⟨wa, hwa⟩ : ∃ wa, wa = w.alloc (.cells #[.int .i64 0, .int .i64 0, .int .i64 0, .string { data := #[] }] 33) := ⟨_, rfl⟩
        rw [← hwa]
        obtain ⟨hba, hb2⟩ := HW2.out wa hwa
        obtain ⟨g2, hg2⟩ : ∃ g2, w.heap.size = g2 := ⟨_, rfl⟩
        rw [hg2] at hb2 ⊢
        have HBA := Lib.hid hba
        have HG := Lib.hid (Nat.le_of_eq hg2)
        have HB2 := Lib.hid hb2
        clear hwa hba hb2 hg2 HW2
        go_wp2_with fail
        refine (Sign_st t2 _).mono ?_
        rintro e w1 ⟨rfl, hww⟩
        subst hww
        rw [HZ2.out]
        have h2n := HB2.out
        have k0 := cell_of_row _ _ 0 _ _ _ h2n
        have k1 := cell_of_row _ _ 1 _ _ _ h2n
        have k2 := cell_of_row _ _ 2 _ _ _ h2n
        have k3 := cell_of_row _ _ 3 _ _ _ h2n
        have j0 := frozen_of_row _ g2 0 _ _ h2n
        have j1 := frozen_of_row _ g2 1 _ _ h2n
        have j2 := frozen_of_row _ g2 2 _ _ h2n
        have j3 := frozen_of_row _ g2 3 _ _ h2n
        have jl := heap_lt h2n
        go_wp2_with fail
        have hfin := heap_set4 (v0 := .int .i64 4) (v1 := .int .i64 0) (v2 := .int .i64 0) (v3 := .string (st t2)) h2n
        have hbel := below_set4 (v0 := .int .i64 4) (v1 := .int .i64 0) (v2 := .int .i64 0) (v3 := .string (st t2)) (HBA.out) HG.out
        have k0 := cell_of_row _ _ 0 _ _ _ hfin
        have k1 := cell_of_row _ _ 1 _ _ _ hfin
        have k2 := cell_of_row _ _ 2 _ _ _ hfin
        have k3 := cell_of_row _ _ 3 _ _ _ hfin
        have HBEL := Lib.hid hbel
        obtain ⟨wn, hwn⟩ : ∃ wn, set4 w1 g2 (.int .i64 4) (.int .i64 0) (.int .i64 0) (.string (st t2)) = wn := ⟨_, rfl⟩
        have hwn2 := hwn
        unfold set4 at hwn2
        rw [hwn2]
        rw [hwn] at HBEL k0 k1 k2 k3
        clear hwn hwn2 hfin hbel h2n j0 j1 j2 j3 jl
        refine bodyPost_ret (v := .tuple #[tkv 4 0 0 t2, .bool true]) (by simp [results, Tryd.results25, go_sem, k0, k1, k2, k3]) rfl ?_
        exact ⟨HBEL.out, 4, 0, t2, _, rfl, .inl HE2.out⟩
      · have HE2 : Hid (nxI s.data.toList = (4, 0, t1, isS t1)) := Lib.hid (by rw [HE.out, if_neg hgo])
        by_cases hz1 : 1 < s.size
        · have HZ2 : Hid (isS t2 = false) := Lib.hid (by cases h : isS t2; rfl; exact absurd ⟨hz1, h⟩ hgo)
          have d1 : decide ((1 : Int) < (s.size : Int)) = true := by rw [decide_eq_true_iff]; omega
          clear hgo
          go_enter Tryd.func25, Tryd.ntmps25
          go_wp2_with fail
          refine (letter_any b _).mono ?_
          rintro e w1 ⟨rfl, rfl⟩
          rw [H1.out]
          go_wp2_with fail
          refine (digit_any b _).mono ?_
          rintro e w1 ⟨rfl, rfl⟩
          rw [H2.out]
          go_upto_region 11 with fail
          obtain ⟨wa, hwa⟩ : ∃ wa, wa = w.alloc (.cells #[.int .i64 0, .int .i64 0, .int .i64 0, .string { data := #[] }] 33) := ⟨_, rfl⟩
          rw [← hwa]
          obtain ⟨hba, hb2⟩ := HW2.out wa hwa
          obtain ⟨g2, hg2⟩ : ∃ g2, w.heap.size = g2 := ⟨_, rfl⟩
          rw [hg2] at hb2 ⊢
          have HBA := Lib.hid hba
          have HG := Lib.hid (Nat.le_of_eq hg2)
          have HB2 := Lib.hid hb2
          clear hwa hba hb2 hg2 HW2
          go_wp2_with fail
          refine (Sign_st t2 _).mono ?_
          rintro e w1 ⟨rfl, hww⟩
          subst hww
          rw [HZ2.out]
          go_upto_region 13 with fail
          refine wp_region_held_drew (S := (fun _ => True)) (by kernel_rfl) trivial (fun hHeld => ?_)
          refine wpAnyH_takeD (i := 0) (d := some 70) (v := ?_) rfl (by kernel_rfl) (by kernel_rfl) (by kernel_rfl) (by kernel_rfl) (fun _ _ _ h => h) (Or.inl ⟨by kernel_rfl, ?_⟩) (by assumption) ?_
          rotate_left
          · (intro w hSw; (try dsimp only at hSw); go_simp; try with_reducible rfl)
          (try simp only [Act.put, List.setIfInBounds_toArray, List.set_cons_zero, List.set_cons_succ])
          refine wpAnyH_takeD (i := 1) (d := some 71) (v := ?_) rfl (by kernel_rfl) (by kernel_rfl) (by kernel_rfl) (by kernel_rfl) (fun _ _ _ h => h) (Or.inl ⟨by kernel_rfl, ?_⟩) (by assumption) ?_
          rotate_left
          · (intro w hSw; (try dsimp only at hSw); go_simp; try with_reducible rfl)
          (try simp only [Act.put, List.setIfInBounds_toArray, List.set_cons_zero, List.set_cons_succ])
          refine wpAnyH_takeD (i := 2) (d := some 72) (v := ?_) rfl (by kernel_rfl) (by kernel_rfl) (by kernel_rfl) (by kernel_rfl) (fun _ _ _ h => h) (Or.inl ⟨by kernel_rfl, ?_⟩) (by assumption) ?_
          rotate_left
          · (intro w hSw; (try dsimp only at hSw); go_simp; try with_reducible rfl)
          (try simp only [Act.put, List.setIfInBounds_toArray, List.set_cons_zero, List.set_cons_succ])
          refine wpAnyH_takeD (i := 3) (d := some 73) (v := ?_) rfl (by kernel_rfl) (by kernel_rfl) (by kernel_rfl) (by kernel_rfl) (fun _ _ _ h => h) (Or.inl ⟨by kernel_rfl, ?_⟩) (by assumption) ?_
          rotate_left
          · (intro w hSw; (try dsimp only at hSw); go_simp; try with_reducible rfl)
          (try simp only [Act.put, List.setIfInBounds_toArray, List.set_cons_zero, List.set_cons_succ])
          refine wpAnyH_takeD (i := 4) (d := some 74) (v := ?_) rfl (by kernel_rfl) (by kernel_rfl) (by kernel_rfl) (by kernel_rfl) (fun _ _ _ h => h) (Or.inl ⟨by kernel_rfl, ?_⟩) (by assumption) ?_
          rotate_left
          · (intro w hSw; (try dsimp only at hSw); go_simp; try with_reducible rfl)
          (try simp only [Act.put, List.setIfInBounds_toArray, List.set_cons_zero, List.set_cons_succ])
          refine wpAnyH_ready (rs := [5]) (by kernel_rfl) (by simp) ?_
          refine AllReadyH.cons rfl (fun K hK => ?_) AllReadyH.nil
          go_simp
          refine (Sign_st t1 _).mono ?_
          rintro e wz ⟨rfl, hwz⟩
          refine hK.out _ _ trivial (fun hHeld => ?_)
          clear hK K
          (try simp only [Act.put, List.setIfInBounds_toArray, List.set_cons_zero, List.set_cons_succ])
          refine wpAnyH_ready (rs := [6]) (by kernel_rfl) (by simp) ?_
          refine AllReadyH.cons rfl (fun K hK => ?_) AllReadyH.nil
          have h2n : wz.heap[g2]? = some (.cells #[.int .i64 0, .int .i64 0, .int .i64 0, .string { data := #[] }] 33 (0, 0)) := by rw [hwz]; exact HB2.out
          have hbz : Below w.heap.size w wz := by rw [hwz]; exact HBA.out.drew
          have HBZ := Lib.hid hbz
          clear hwz hbz
          have k0 := cell_of_row _ _ 0 _ _ _ h2n
          have k1 := cell_of_row _ _ 1 _ _ _ h2n
          have k2 := cell_of_row _ _ 2 _ _ _ h2n
          have k3 := cell_of_row _ _ 3 _ _ _ h2n
          have j0 := frozen_of_row _ g2 0 _ _ h2n
          have j1 := frozen_of_row _ g2 1 _ _ h2n
          have j2 := frozen_of_row _ g2 2 _ _ h2n
          have j3 := frozen_of_row _ g2 3 _ _ h2n
          have jl := heap_lt h2n
          go_simp
          refine hK.out _ _ trivial (fun hHeld => ?_)
          clear hK K
          (try simp only [Act.put, List.setIfInBounds_toArray, List.set_cons_zero, List.set_cons_succ])
          refine wpAnyH_takeD (i := 7) (d := some 3) (v := ?_) rfl (by kernel_rfl) (by kernel_rfl) (by kernel_rfl) (by kernel_rfl) (fun _ _ _ h => h) (Or.inl ⟨by kernel_rfl, ?_⟩) (by assumption) ?_
          rotate_left
          · (intro w hSw; (try dsimp only at hSw); go_simp; try with_reducible rfl)
          (try simp only [Act.put, List.setIfInBounds_toArray, List.set_cons_zero, List.set_cons_succ])
          refine wpAnyH_done (by kernel_rfl) ?_ _
          (try simp only [Act.put, List.setIfInBounds_toArray, List.set_cons_zero, List.set_cons_succ])
          have hfin := heap_set4 (v0 := .int .i64 4) (v1 := .int .i64 0) (v2 := .int .i64 0) (v3 := .string (st t1)) h2n
          have hbel := below_set4 (v0 := .int .i64 4) (v1 := .int .i64 0) (v2 := .int .i64 0) (v3 := .string (st t1)) (HBZ.out) HG.out
          have k0 := cell_of_row _ _ 0 _ _ _ hfin
          have k1 := cell_of_row _ _ 1 _ _ _ hfin
          have k2 := cell_of_row _ _ 2 _ _ _ hfin
          have k3 := cell_of_row _ _ 3 _ _ _ hfin
          have HBEL := Lib.hid hbel
          obtain ⟨wn, hwn⟩ : ∃ wn, set4 wz g2 (.int .i64 4) (.int .i64 0) (.int .i64 0) (.string (st t1)) = wn := ⟨_, rfl⟩
          have hwn2 := hwn
          unfold set4 at hwn2
          rw [hwn2]
          rw [hwn] at HBEL k0 k1 k2 k3
          clear hwn hwn2 hfin hbel h2n j0 j1 j2 j3 jl
          go_wp2_with fail
          refine bodyPost_ret (v := .tuple #[tkv 4 0 0 t1, .bool (isS t1)]) (by simp [results, Tryd.results25, go_sem, k0, k1, k2, k3]) rfl ?_
          exact ⟨HBEL.out, 4, 0, t1, _, rfl, .inl HE2.out⟩
        · have d1 : decide ((1 : Int) < (s.size : Int)) = false := by rw [decide_eq_false_iff_not]; omega
          clear hgo
          go_enter Tryd.func25, Tryd.ntmps25
          go_wp2_with fail
          refine (letter_any b _).mono ?_
          rintro e w1 ⟨rfl, rfl⟩
          rw [H1.out]
          go_wp2_with fail
          refine (digit_any b _).mono ?_
          rintro e w1 ⟨rfl, rfl⟩
          rw [H2.out]
          go_upto_region 11 with fail
          obtain ⟨wa, hwa⟩ : ∃ wa, wa = w.alloc (.cells #[.int .i64 0, .int .i64 0, .int .i64 0, .string { data := #[] }] 33) := ⟨_, rfl⟩
          rw [← hwa]
          obtain ⟨hba, hb2⟩ := HW2.out wa hwa
          obtain ⟨g2, hg2⟩ : ∃ g2, w.heap.size = g2 := ⟨_, rfl⟩
          rw [hg2] at hb2 ⊢
          have HBA := Lib.hid hba
          have HG := Lib.hid (Nat.le_of_eq hg2)
          have HB2 := Lib.hid hb2
          clear hwa hba hb2 hg2 HW2
          go_upto_region 13 with fail
          refine wp_region_held_drew (S := (fun _ => True)) (by kernel_rfl) trivial (fun hHeld => ?_)
          refine wpAnyH_takeD (i := 0) (d := some 70) (v := ?_) rfl (by kernel_rfl) (by kernel_rfl) (by kernel_rfl) (by kernel_rfl) (fun _ _ _ h => h) (Or.inl ⟨by kernel_rfl, ?_⟩) (by assumption) ?_
          rotate_left
          · (intro w hSw; (try dsimp only at hSw); go_simp; try with_reducible rfl)
          (try simp only [Act.put, List.setIfInBounds_toArray, List.set_cons_zero, List.set_cons_succ])
          refine wpAnyH_takeD (i := 1) (d := some 71) (v := ?_) rfl (by kernel_rfl) (by kernel_rfl) (by kernel_rfl) (by kernel_rfl) (fun _ _ _ h => h) (Or.inl ⟨by kernel_rfl, ?_⟩) (by assumption) ?_
          rotate_left
          · (intro w hSw; (try dsimp only at hSw); go_simp; try with_reducible rfl)
          (try simp only [Act.put, List.setIfInBounds_toArray, List.set_cons_zero, List.set_cons_succ])
          refine wpAnyH_takeD (i := 2) (d := some 72) (v := ?_) rfl (by kernel_rfl) (by kernel_rfl) (by kernel_rfl) (by kernel_rfl) (fun _ _ _ h => h) (Or.inl ⟨by kernel_rfl, ?_⟩) (by assumption) ?_
          rotate_left
          · (intro w hSw; (try dsimp only at hSw); go_simp; try with_reducible rfl)
          (try simp only [Act.put, List.setIfInBounds_toArray, List.set_cons_zero, List.set_cons_succ])
          refine wpAnyH_takeD (i := 3) (d := some 73) (v := ?_) rfl (by kernel_rfl) (by kernel_rfl) (by kernel_rfl) (by kernel_rfl) (fun _ _ _ h => h) (Or.inl ⟨by kernel_rfl, ?_⟩) (by assumption) ?_
          rotate_left
          · (intro w hSw; (try dsimp only at hSw); go_simp; try with_reducible rfl)
          (try simp only [Act.put, List.setIfInBounds_toArray, List.set_cons_zero, List.set_cons_succ])
          refine wpAnyH_takeD (i := 4) (d := some 74) (v := ?_) rfl (by kernel_rfl) (by kernel_rfl) (by kernel_rfl) (by kernel_rfl) (fun _ _ _ h => h) (Or.inl ⟨by kernel_rfl, ?_⟩) (by assumption) ?_
          rotate_left
          · (intro w hSw; (try dsimp only at hSw); go_simp; try with_reducible rfl)
          (try simp only [Act.put, List.setIfInBounds_toArray, List.set_cons_zero, List.set_cons_succ])
          refine wpAnyH_ready (rs := [5]) (by kernel_rfl) (by simp) ?_
          refine AllReadyH.cons rfl (fun K hK => ?_) AllReadyH.nil
          go_simp
          refine (Sign_st t1 _).mono ?_
          rintro e wz ⟨rfl, hwz⟩
          refine hK.out _ _ trivial (fun hHeld => ?_)
          clear hK K
          (try simp only [Act.put, List.setIfInBounds_toArray, List.set_cons_zero, List.set_cons_succ])
          refine wpAnyH_ready (rs := [6]) (by kernel_rfl) (by simp) ?_
          refine AllReadyH.cons rfl (fun K hK => ?_) AllReadyH.nil
          have h2n : wz.heap[g2]? = some (.cells #[.int .i64 0, .int .i64 0, .int .i64 0, .string { data := #[] }] 33 (0, 0)) := by rw [hwz]; exact HB2.out
          have hbz : Below w.heap.size w wz := by rw [hwz]; exact HBA.out.drew
          have HBZ := Lib.hid hbz
          clear hwz hbz
          have k0 := cell_of_row _ _ 0 _ _ _ h2n
          have k1 := cell_of_row _ _ 1 _ _ _ h2n
          have k2 := cell_of_row _ _ 2 _ _ _ h2n
          have k3 := cell_of_row _ _ 3 _ _ _ h2n
          have j0 := frozen_of_row _ g2 0 _ _ h2n
          have j1 := frozen_of_row _ g2 1 _ _ h2n
          have j2 := frozen_of_row _ g2 2 _ _ h2n
          have j3 := frozen_of_row _ g2 3 _ _ h2n
          have jl := heap_lt h2n
          go_simp
          refine hK.out _ _ trivial (fun hHeld => ?_)
          clear hK K
          (try simp only [Act.put, List.setIfInBounds_toArray, List.set_cons_zero, List.set_cons_succ])
          refine wpAnyH_takeD (i := 7) (d := some 3) (v := ?_) rfl (by kernel_rfl) (by kernel_rfl) (by kernel_rfl) (by kernel_rfl) (fun _ _ _ h => h) (Or.inl ⟨by kernel_rfl, ?_⟩) (by assumption) ?_
          rotate_left
          · (intro w hSw; (try dsimp only at hSw); go_simp; try with_reducible rfl)
          (try simp only [Act.put, List.setIfInBounds_toArray, List.set_cons_zero, List.set_cons_succ])
          refine wpAnyH_done (by kernel_rfl) ?_ _
          (try simp only [Act.put, List.setIfInBounds_toArray, List.set_cons_zero, List.set_cons_succ])
          have hfin := heap_set4 (v0 := .int .i64 4) (v1 := .int .i64 0) (v2 := .int .i64 0) (v3 := .string (st t1)) h2n
          have hbel := below_set4 (v0 := .int .i64 4) (v1 := .int .i64 0) (v2 := .int .i64 0) (v3 := .string (st t1)) (HBZ.out) HG.out
          have k0 := cell_of_row _ _ 0 _ _ _ hfin
          have k1 := cell_of_row _ _ 1 _ _ _ hfin
          have k2 := cell_of_row _ _ 2 _ _ _ hfin
          have k3 := cell_of_row _ _ 3 _ _ _ hfin
          have HBEL := Lib.hid hbel
          obtain ⟨wn, hwn⟩ : ∃ wn, set4 wz g2 (.int .i64 4) (.int .i64 0) (.int .i64 0) (.string (st t1)) = wn := ⟨_, rfl⟩
          have hwn2 := hwn
          unfold set4 at hwn2
          rw [hwn2]
          rw [hwn] at HBEL k0 k1 k2 k3
          clear hwn hwn2 hfin hbel h2n j0 j1 j2 j3 jl
          go_wp2_with fail
          refine bodyPost_ret (v := .tuple #[tkv 4 0 0 t1, .bool (isS t1)]) (by simp [results, Tryd.results25, go_sem, k0, k1, k2, k3]) rfl ?_
          exact ⟨HBEL.out, 4, 0, t1, _, rfl, .inl HE2.out⟩
    · have H2 := Lib.hid h2
      have HR2 : Hid (∀ W, Calls Tryd.prog 23 #[.string s, .func (.func 33) #[] #[]] W fun e w' => e = .returned (.string (st (run dg8 s.data.toList))) ∧ w' = W) := Lib.hid (fun W => run_digit s (by omega) W)
      have hrl : (run dg8 s.data.toList).length ≤ s.size := run_len _ _
      have HE : Hid (nxI s.data.toList = (match Lib.atoiAll (run dg8 s.data.toList) with
        | .ok v => (2, v, run dg8 s.data.toList, (Lib.itoa v == run dg8 s.data.toList) && decide ((run in8 s.data.toList).length = (run dg8 s.data.toList).length))
        | _ => (2, 0, run dg8 s.data.toList, false))) := Lib.hid (by
          rw [hl]; show (if lt8 b then _ else _) = _; rw [h1]; simp only [Bool.false_eq_true, if_false]; rw [h2]; simp only [if_true])
      clear h1 h2 hl
      have HRL := Lib.hid hrl
      obtain ⟨t, ht⟩ : ∃ t, run dg8 s.data.toList = t := ⟨_, rfl⟩
      obtain ⟨u, hu⟩ : ∃ u, run in8 s.data.toList = u := ⟨_, rfl⟩
      rw [ht] at HR2 HE hrl HRL
      rw [hu] at HR1 HE
      clear ht hu
      have HAT := Lib.hid (fun W (hW : Lad W) => Atoi_any t (by omega) W hW)
      clear hrl
      go_enter Tryd.func25, Tryd.ntmps25
      go_wp2_with fail
      refine (letter_any b _).mono ?_
      rintro e w1 ⟨rfl, rfl⟩
      rw [H1.out]
      go_wp2_with fail
      refine (digit_any b _).mono ?_
      rintro e w1 ⟨rfl, rfl⟩
      rw [H2.out]
      go_wp2_with fail
      refine (HR2.out _).mono ?_
      rintro e w1 ⟨rfl, rfl⟩
      go_upto_region 8 with fail
      have HZ : Hid (∀ W, W = ((w.alloc (.cells #[.int .i64 0, .int .i64 0, .int .i64 0, .string { data := #[] }] 33)).alloc (.cells #[.int .i64 2, .int .i64 0, .int .i64 0, .string (st t)] 33)) → Below w.heap.size w W ∧ W.heap[w.heap.size]? = some (.cells #[.int .i64 0, .int .i64 0, .int .i64 0, .string { data := #[] }] 33 (0, 0)) ∧ W.heap[w.heap.size + 1]? = some (.cells #[.int .i64 2, .int .i64 0, .int .i64 0, .string (st t)] 33 (0, 0))) := Lib.hid (fun W hW => by
        subst hW
        refine ⟨((Below.refl _ _).alloc (Nat.le_refl _) _).alloc (by simp) _, ?_, ?_⟩
        · rw [Below.heap_alloc _ _ _ (by simp)]; exact heap_alloc_new w _
        · have := heap_alloc_new (w.alloc (.cells #[.int .i64 0, .int .i64 0, .int .i64 0, .string { data := #[] }] 33)) (.cells #[.int .i64 2, .int .i64 0, .int .i64 0, .string (st t)] 33)
          simpa using this)
      obtain ⟨wa, hwa⟩ : ∃ wa, wa = ((w.alloc (.cells #[.int .i64 0, .int .i64 0, .int .i64 0, .string { data := #[] }] 33)).alloc (.cells #[.int .i64 2, .int .i64 0, .int .i64 0, .string (st t)] 33)) := ⟨_, rfl⟩
      rw [← hwa]
      obtain ⟨hba, hb2, hb5⟩ := HZ.out wa hwa
      obtain ⟨g5, hg5⟩ : ∃ g5, w.heap.size + 1 = g5 := ⟨_, rfl⟩
      obtain ⟨g2, hg2⟩ : ∃ g2, w.heap.size = g2 := ⟨_, rfl⟩
      rw [hg5] at hb5
      rw [hg2] at hb2
      rw [hg5]
      try rw [hg2]
      have HBA := Lib.hid hba
      have HG : Hid (w.heap.size ≤ g2 ∧ w.heap.size ≤ g5 ∧ g2 ≠ g5) := Lib.hid (by omega)
      have HB2 := Lib.hid hb2
      have HB5 := Lib.hid hb5
      have HLA := Lib.hid (HW.out.below hba)
      have c3 := cell_of_row _ _ 3 _ _ _ hb5
      have cl := heap_lt hb5
      clear hwa hba hb2 hb5 hg5 hg2 HZ
      go_wp2_with fail
      refine (HAT.out wa HLA.out).mono ?_
      rintro e w3 ⟨hat, hb3⟩
      have HBB := Lib.hid (HBA.out.trans (hb3.mono HBA.out.size))
      have h5 : w3.heap[g5]? = _ := (hb3.block g5 cl).trans HB5.out
      have h2 : w3.heap[g2]? = _ := (hb3.block g2 (heap_lt HB2.out)).trans HB2.out
      clear hb3 c3 cl HB5 HB2
      obtain ⟨e0, e1, e2, e3⟩ : w3.cell? ⟨g5, 0, none⟩ = some (.int .i64 2) ∧ w3.cell? ⟨g5, 1, none⟩ = some (.int .i64 0) ∧ w3.cell? ⟨g5, 2, none⟩ = some (.int .i64 0) ∧ w3.cell? ⟨g5, 3, none⟩ = some (.string (st t)) := ⟨cell_of_row _ _ 0 _ _ _ h5, cell_of_row _ _ 1 _ _ _ h5, cell_of_row _ _ 2 _ _ _ h5, cell_of_row _ _ 3 _ _ _ h5⟩
      have z0 := frozen_of_row w3 g5 2 _ _ h5
      have g5l := heap_lt h5
      rcases hat with ⟨v, hv, rfl⟩ | ⟨v, p, hno, rfl⟩
      · have HV := Lib.hid hv
        clear hv
        have h5' := heap_setCell_same w3 g5 2 _ _ (.int .i64 v) h5
        have h2' : (w3.setCell ⟨g5, 2, none⟩ (.int .i64 v)).heap[g2]? = _ := (heap_setCell_other w3 ⟨g5, 2, none⟩ g2 (.int .i64 v) (fun e => HG.out.2.2 e)).trans h2
        have HBC : Hid (Below w.heap.size w (w3.setCell ⟨g5, 2, none⟩ (.int .i64 v))) := Lib.hid (HBB.out.setCell (by have := HG.out; show w.heap.size ≤ g5; omega) _)
        go_upto_region 10 with fail
        obtain ⟨wb, hwb⟩ : ∃ wb, w3.setCell ⟨g5, 2, none⟩ (.int .i64 v) = wb := ⟨_, rfl⟩
        rw [hwb] at h5' h2' HBC ⊢
        have hbv := Lib.atoiAll_bounds HV.out
        have HIT : Hid (∀ W, Below wb.heap.size wb W → Calls Tryd.prog 35 #[.int .i64 v] W fun e w' => e = .returned (.string (st (Lib.itoa v))) ∧ Below W.heap.size W w') := Lib.hid (fun W hW => Itoa_any v hbv.1 hbv.2 W ((HW.out.below HBC.out).below hW))
        replace e0 := cell_of_row _ _ 0 _ _ _ h5'
        replace e1 := cell_of_row _ _ 1 _ _ _ h5'
        replace e2 := cell_of_row _ _ 2 _ _ _ h5'
        replace e3 := cell_of_row _ _ 3 _ _ _ h5'
        replace g5l := heap_lt h5'
        have H2B := Lib.hid h2'
        clear hwb h5 h2 h5' h2' z0 hbv HBB
        clear w3
        obtain ⟨z, hz⟩ : ∃ z : Bool, (Lib.itoa v == t) = z := ⟨_, rfl⟩
        have HZZ := Lib.hid hz
        cases z
        · refine wp_region_held_drew (S := (fun w' => w'.cell? ⟨g5, 0, none⟩ = some (.int .i64 2) ∧ w'.cell? ⟨g5, 1, none⟩ = some (.int .i64 0) ∧ w'.cell? ⟨g5, 2, none⟩ = some (.int .i64 v) ∧ w'.cell? ⟨g5, 3, none⟩ = some (.string (st t)))) (by kernel_rfl) ⟨e0, e1, e2, e3⟩ (fun hHeld => ?_)
          refine wpAnyH_takeD (i := 0) (d := some 39) (v := ?_) rfl (by kernel_rfl) (by kernel_rfl) (by kernel_rfl) (by kernel_rfl) (fun _ _ _ h => h) (Or.inl ⟨by kernel_rfl, ?_⟩) (by assumption) ?_
          rotate_left
          · (intro w hSw; (try dsimp only at hSw); go_simp; try with_reducible rfl)
          (try simp only [Act.put, List.setIfInBounds_toArray, List.set_cons_zero, List.set_cons_succ])
          refine wpAnyH_takeD (i := 1) (d := some 40) (v := ?_) rfl (by kernel_rfl) (by kernel_rfl) (by kernel_rfl) (by kernel_rfl) (fun _ _ _ h => h) (Or.inl ⟨by kernel_rfl, ?_⟩) (by assumption) ?_
          rotate_left
          · (intro w hSw; (try dsimp only at hSw); go_simp; try with_reducible rfl)
          (try simp only [Act.put, List.setIfInBounds_toArray, List.set_cons_zero, List.set_cons_succ])
          refine wpAnyH_takeD (i := 2) (d := some 41) (v := ?_) rfl (by kernel_rfl) (by kernel_rfl) (by kernel_rfl) (by kernel_rfl) (fun _ _ _ h => h) (Or.inl ⟨by kernel_rfl, ?_⟩) (by assumption) ?_
          rotate_left
          · (intro w hSw; (try dsimp only at hSw); go_simp; try with_reducible rfl)
          (try simp only [Act.put, List.setIfInBounds_toArray, List.set_cons_zero, List.set_cons_succ])
          refine wpAnyH_takeD (i := 3) (d := some 42) (v := ?_) rfl (by kernel_rfl) (by kernel_rfl) (by kernel_rfl) (by kernel_rfl) (fun _ _ _ h => h) (Or.inl ⟨by kernel_rfl, ?_⟩) (by assumption) ?_
          rotate_left
          · (intro w hSw; (try dsimp only at hSw); go_simp; try with_reducible rfl)
          (try simp only [Act.put, List.setIfInBounds_toArray, List.set_cons_zero, List.set_cons_succ])
          refine wpAnyH_takeD (i := 4) (d := some 43) (v := ?_) rfl (by kernel_rfl) (by kernel_rfl) (by kernel_rfl) (by kernel_rfl) (fun _ _ _ h => h) (Or.inl ⟨by kernel_rfl, ?_⟩) (by assumption) ?_
          rotate_left
          · (intro w hSw; (try dsimp only at hSw); go_simp; try with_reducible rfl)
          (try simp only [Act.put, List.setIfInBounds_toArray, List.set_cons_zero, List.set_cons_succ])
          refine wpAnyH_takeD (i := 6) (d := some 45) (v := ?_) rfl (by kernel_rfl) (by kernel_rfl) (by kernel_rfl) (by kernel_rfl) (fun _ _ _ h => h) (Or.inl ⟨by kernel_rfl, ?_⟩) (by assumption) ?_
          rotate_left
          · (intro w hSw; (try dsimp only at hSw); go_simp; try with_reducible rfl)
          (try simp only [Act.put, List.setIfInBounds_toArray, List.set_cons_zero, List.set_cons_succ])
          refine wpAnyH_takeD (i := 7) (d := some 46) (v := ?_) rfl (by kernel_rfl) (by kernel_rfl) (by kernel_rfl) (by kernel_rfl) (fun _ _ _ h => h) (Or.inl ⟨by kernel_rfl, ?_⟩) (by assumption) ?_
          rotate_left
          · (intro w hSw; (try dsimp only at hSw); go_simp; try with_reducible rfl)
          (try simp only [Act.put, List.setIfInBounds_toArray, List.set_cons_zero, List.set_cons_succ])
          refine wpAnyH_ready (rs := [5]) (by kernel_rfl) (by simp) ?_
          refine AllReadyH.cons rfl (fun K hK => ?_) AllReadyH.nil
          go_simp
          refine (HIT.out _ (Below.refl _ _).drew).mono ?_
          rintro e w8 ⟨rfl, hb8⟩
          have hb9 := (Below.refl wb.heap.size wb).drew.trans (hb8.mono (Nat.le_refl _))
          have HB9 := Lib.hid hb9
          refine hK.out _ _ ⟨(hb9.cell (p := ⟨g5, 0, none⟩) g5l).trans e0, (hb9.cell (p := ⟨g5, 1, none⟩) g5l).trans e1, (hb9.cell (p := ⟨g5, 2, none⟩) g5l).trans e2, (hb9.cell (p := ⟨g5, 3, none⟩) g5l).trans e3⟩ (fun hHeld => ?_)
          clear hK K hb8 hb9
          (try simp only [Act.put, List.setIfInBounds_toArray, List.set_cons_zero, List.set_cons_succ])
          refine wpAnyH_takeD (i := 8) (d := some 47) (v := ?_) rfl (by kernel_rfl) (by kernel_rfl) (by kernel_rfl) (by kernel_rfl) (fun _ _ _ h => h) (Or.inl ⟨by kernel_rfl, ?_⟩) (by assumption) ?_
          rotate_left
          · (intro w hSw; (try dsimp only at hSw); go_simp; try with_reducible rfl)
          (try simp only [Act.put, List.setIfInBounds_toArray, List.set_cons_zero, List.set_cons_succ])
          refine wpAnyH_takeD (i := 9) (d := some 48) (v := ?_) rfl (by kernel_rfl) (by kernel_rfl) (by kernel_rfl) (by kernel_rfl) (fun _ _ _ h => h) (Or.inl ⟨by kernel_rfl, ?_⟩) (by assumption) ?_
          rotate_left
          · (intro w hSw; (try dsimp only at hSw); go_simp; try with_reducible rfl)
          (try simp only [Act.put, List.setIfInBounds_toArray, List.set_cons_zero, List.set_cons_succ])
          refine wpAnyH_takeD (i := 10) (d := some 49) (v := ?_) rfl (by kernel_rfl) (by kernel_rfl) (by kernel_rfl) (by kernel_rfl) (fun _ _ _ h => h) (Or.inl ⟨by kernel_rfl, ?_⟩) (by assumption) ?_
          rotate_left
          · (intro w hSw; (try dsimp only at hSw); go_simp; try with_reducible rfl)
          (try simp only [Act.put, List.setIfInBounds_toArray, List.set_cons_zero, List.set_cons_succ])
          refine wpAnyH_takeD (i := 11) (d := some 50) (v := undef) rfl (by kernel_rfl) (by kernel_rfl) (by kernel_rfl) (by kernel_rfl) (fun _ _ _ h => h) (Or.inr ⟨by kernel_rfl, rfl⟩) (by assumption) ?_
          (try simp only [Act.put, List.setIfInBounds_toArray, List.set_cons_zero, List.set_cons_succ])
          refine wpAnyH_takeD (i := 14) (d := some 53) (v := undef) rfl (by kernel_rfl) (by kernel_rfl) (by kernel_rfl) (by kernel_rfl) (fun _ _ _ h => h) (Or.inr ⟨by kernel_rfl, rfl⟩) (by assumption) ?_
          (try simp only [Act.put, List.setIfInBounds_toArray, List.set_cons_zero, List.set_cons_succ])
          refine wpAnyH_takeD (i := 15) (d := some 54) (v := undef) rfl (by kernel_rfl) (by kernel_rfl) (by kernel_rfl) (by kernel_rfl) (fun _ _ _ h => h) (Or.inr ⟨by kernel_rfl, rfl⟩) (by assumption) ?_
          (try simp only [Act.put, List.setIfInBounds_toArray, List.set_cons_zero, List.set_cons_succ])
          refine wpAnyH_takeD (i := 16) (d := some 55) (v := undef) rfl (by kernel_rfl) (by kernel_rfl) (by kernel_rfl) (by kernel_rfl) (fun _ _ _ h => h) (Or.inr ⟨by kernel_rfl, rfl⟩) (by assumption) ?_
          (try simp only [Act.put, List.setIfInBounds_toArray, List.set_cons_zero, List.set_cons_succ])
          refine wpAnyH_takeD (i := 12) (d := some 51) (v := undef) rfl (by kernel_rfl) (by kernel_rfl) (by kernel_rfl) (by kernel_rfl) (fun _ _ _ h => h) (Or.inr ⟨by kernel_rfl, rfl⟩) (by assumption) ?_
          (try simp only [Act.put, List.setIfInBounds_toArray, List.set_cons_zero, List.set_cons_succ])
          refine wpAnyH_takeD (i := 13) (d := some 52) (v := undef) rfl (by kernel_rfl) (by kernel_rfl) (by kernel_rfl) (by kernel_rfl) (fun _ _ _ h => h) (Or.inr ⟨by kernel_rfl, rfl⟩) (by assumption) ?_
          (try simp only [Act.put, List.setIfInBounds_toArray, List.set_cons_zero, List.set_cons_succ])
          refine wpAnyH_takeD (i := 17) (d := some 56) (v := undef) rfl (by kernel_rfl) (by kernel_rfl) (by kernel_rfl) (by kernel_rfl) (fun _ _ _ h => h) (Or.inr ⟨by kernel_rfl, rfl⟩) (by assumption) ?_
          (try simp only [Act.put, List.setIfInBounds_toArray, List.set_cons_zero, List.set_cons_succ])
          refine wpAnyH_takeD (i := 18) (d := some 57) (v := ?_) rfl (by kernel_rfl) (by kernel_rfl) (by kernel_rfl) (by kernel_rfl) (fun _ _ _ h => h) (Or.inl ⟨by kernel_rfl, ?_⟩) (by assumption) ?_
          rotate_left
          · (intro w hSw; (try dsimp only at hSw); go_simp; try with_reducible rfl)
          (try simp only [Act.put, List.setIfInBounds_toArray, List.set_cons_zero, List.set_cons_succ])
          refine wpAnyH_ready (rs := [19]) (by kernel_rfl) (by simp) ?_
          refine AllReadyH.cons rfl (fun K hK => ?_) AllReadyH.nil
          have h2n : w8.heap[g2]? = some (.cells #[.int .i64 0, .int .i64 0, .int .i64 0, .string { data := #[] }] 33 (0, 0)) := (HB9.out.block g2 (heap_lt H2B.out)).trans H2B.out
          have k0 := cell_of_row _ _ 0 _ _ _ h2n
          have k1 := cell_of_row _ _ 1 _ _ _ h2n
          have k2 := cell_of_row _ _ 2 _ _ _ h2n
          have k3 := cell_of_row _ _ 3 _ _ _ h2n
          have j0 := frozen_of_row _ g2 0 _ _ h2n
          have j1 := frozen_of_row _ g2 1 _ _ h2n
          have j2 := frozen_of_row _ g2 2 _ _ h2n
          have j3 := frozen_of_row _ g2 3 _ _ h2n
          have jl := heap_lt h2n
          go_simp
          refine hK.out _ _ ⟨cell_set4 HG.out.2.2 ((HB9.out.cell (p := ⟨g5, 0, none⟩) g5l).trans e0), cell_set4 HG.out.2.2 ((HB9.out.cell (p := ⟨g5, 1, none⟩) g5l).trans e1), cell_set4 HG.out.2.2 ((HB9.out.cell (p := ⟨g5, 2, none⟩) g5l).trans e2), cell_set4 HG.out.2.2 ((HB9.out.cell (p := ⟨g5, 3, none⟩) g5l).trans e3)⟩ (fun hHeld => ?_)
          clear hK K
          (try simp only [Act.put, List.setIfInBounds_toArray, List.set_cons_zero, List.set_cons_succ])
          refine wpAnyH_takeD (i := 20) (d := some 3) (v := ?_) rfl (by kernel_rfl) (by kernel_rfl) (by kernel_rfl) (by kernel_rfl) (fun _ _ _ h => h) (Or.inl ⟨by kernel_rfl, ?_⟩) (by assumption) ?_
          rotate_left
          · (intro w hSw; (try dsimp only at hSw); go_simp; try with_reducible rfl)
          (try simp only [Act.put, List.setIfInBounds_toArray, List.set_cons_zero, List.set_cons_succ])
          refine wpAnyH_done (by kernel_rfl) ?_ _
          (try simp only [Act.put, List.setIfInBounds_toArray, List.set_cons_zero, List.set_cons_succ])
          have hfin := heap_set4 (v0 := .int .i64 2) (v1 := .int .i64 0) (v2 := .int .i64 v) (v3 := .string (st t)) h2n
          have hbel := below_set4 (v0 := .int .i64 2) (v1 := .int .i64 0) (v2 := .int .i64 v) (v3 := .string (st t)) (HBC.out.trans (HB9.out.mono HBC.out.size)) HG.out.1
          have k0 := cell_of_row _ _ 0 _ _ _ hfin
          have k1 := cell_of_row _ _ 1 _ _ _ hfin
          have k2 := cell_of_row _ _ 2 _ _ _ hfin
          have k3 := cell_of_row _ _ 3 _ _ _ hfin
          have HBEL := Lib.hid hbel
          obtain ⟨wn, hwn⟩ : ∃ wn, set4 w8 g2 (.int .i64 2) (.int .i64 0) (.int .i64 v) (.string (st t)) = wn := ⟨_, rfl⟩
          have hwn2 := hwn
          unfold set4 at hwn2
          rw [hwn2]
          rw [hwn] at HBEL k0 k1 k2 k3
          clear hwn hwn2 hfin hbel h2n j0 j1 j2 j3 jl hHeld
          go_wp2_with fail
          refine bodyPost_ret (v := .tuple #[tkv 2 0 v t, .bool false]) (by simp [results, Tryd.results25, go_sem, k0, k1, k2, k3]; try (first | omega | (rw [Bool.eq_iff_iff]; simp; omega) | (rw [Bool.eq_iff_iff]; simp))) rfl ?_
          exact ⟨HBEL.out, 2, v, t, _, rfl, .inl (by rw [HE.out, HV.out]; simp [HZZ.out])⟩
        · refine wp_region_held_drew (S := (fun w' => w'.cell? ⟨g5, 0, none⟩ = some (.int .i64 2) ∧ w'.cell? ⟨g5, 1, none⟩ = some (.int .i64 0) ∧ w'.cell? ⟨g5, 2, none⟩ = some (.int .i64 v) ∧ w'.cell? ⟨g5, 3, none⟩ = some (.string (st t)))) (by kernel_rfl) ⟨e0, e1, e2, e3⟩ (fun hHeld => ?_)
          refine wpAnyH_takeD (i := 0) (d := some 39) (v := ?_) rfl (by kernel_rfl) (by kernel_rfl) (by kernel_rfl) (by kernel_rfl) (fun _ _ _ h => h) (Or.inl ⟨by kernel_rfl, ?_⟩) (by assumption) ?_
          rotate_left
          · (intro w hSw; (try dsimp only at hSw); go_simp; try with_reducible rfl)
          (try simp only [Act.put, List.setIfInBounds_toArray, List.set_cons_zero, List.set_cons_succ])
          refine wpAnyH_takeD (i := 1) (d := some 40) (v := ?_) rfl (by kernel_rfl) (by kernel_rfl) (by kernel_rfl) (by kernel_rfl) (fun _ _ _ h => h) (Or.inl ⟨by kernel_rfl, ?_⟩) (by assumption) ?_
          rotate_left
          · (intro w hSw; (try dsimp only at hSw); go_simp; try with_reducible rfl)
          (try simp only [Act.put, List.setIfInBounds_toArray, List.set_cons_zero, List.set_cons_succ])
          refine wpAnyH_takeD (i := 2) (d := some 41) (v := ?_) rfl (by kernel_rfl) (by kernel_rfl) (by kernel_rfl) (by kernel_rfl) (fun _ _ _ h => h) (Or.inl ⟨by kernel_rfl, ?_⟩) (by assumption) ?_
          rotate_left
          · (intro w hSw; (try dsimp only at hSw); go_simp; try with_reducible rfl)
          (try simp only [Act.put, List.setIfInBounds_toArray, List.set_cons_zero, List.set_cons_succ])
          refine wpAnyH_takeD (i := 3) (d := some 42) (v := ?_) rfl (by kernel_rfl) (by kernel_rfl) (by kernel_rfl) (by kernel_rfl) (fun _ _ _ h => h) (Or.inl ⟨by kernel_rfl, ?_⟩) (by assumption) ?_
          rotate_left
          · (intro w hSw; (try dsimp only at hSw); go_simp; try with_reducible rfl)
          (try simp only [Act.put, List.setIfInBounds_toArray, List.set_cons_zero, List.set_cons_succ])
          refine wpAnyH_takeD (i := 4) (d := some 43) (v := ?_) rfl (by kernel_rfl) (by kernel_rfl) (by kernel_rfl) (by kernel_rfl) (fun _ _ _ h => h) (Or.inl ⟨by kernel_rfl, ?_⟩) (by assumption) ?_
          rotate_left
          · (intro w hSw; (try dsimp only at hSw); go_simp; try with_reducible rfl)
          (try simp only [Act.put, List.setIfInBounds_toArray, List.set_cons_zero, List.set_cons_succ])
          refine wpAnyH_takeD (i := 6) (d := some 45) (v := ?_) rfl (by kernel_rfl) (by kernel_rfl) (by kernel_rfl) (by kernel_rfl) (fun _ _ _ h => h) (Or.inl ⟨by kernel_rfl, ?_⟩) (by assumption) ?_
          rotate_left
          · (intro w hSw; (try dsimp only at hSw); go_simp; try with_reducible rfl)
          (try simp only [Act.put, List.setIfInBounds_toArray, List.set_cons_zero, List.set_cons_succ])
          refine wpAnyH_takeD (i := 7) (d := some 46) (v := ?_) rfl (by kernel_rfl) (by kernel_rfl) (by kernel_rfl) (by kernel_rfl) (fun _ _ _ h => h) (Or.inl ⟨by kernel_rfl, ?_⟩) (by assumption) ?_
          rotate_left
          · (intro w hSw; (try dsimp only at hSw); go_simp; try with_reducible rfl)
          (try simp only [Act.put, List.setIfInBounds_toArray, List.set_cons_zero, List.set_cons_succ])
          refine wpAnyH_ready (rs := [5]) (by kernel_rfl) (by simp) ?_
          refine AllReadyH.cons rfl (fun K hK => ?_) AllReadyH.nil
          go_simp
          refine (HIT.out _ (Below.refl _ _).drew).mono ?_
          rintro e w8 ⟨rfl, hb8⟩
          have hb9 := (Below.refl wb.heap.size wb).drew.trans (hb8.mono (Nat.le_refl _))
          have HB9 := Lib.hid hb9
          refine hK.out _ _ ⟨(hb9.cell (p := ⟨g5, 0, none⟩) g5l).trans e0, (hb9.cell (p := ⟨g5, 1, none⟩) g5l).trans e1, (hb9.cell (p := ⟨g5, 2, none⟩) g5l).trans e2, (hb9.cell (p := ⟨g5, 3, none⟩) g5l).trans e3⟩ (fun hHeld => ?_)
          clear hK K hb8 hb9
          (try simp only [Act.put, List.setIfInBounds_toArray, List.set_cons_zero, List.set_cons_succ])
          refine wpAnyH_takeD (i := 8) (d := some 47) (v := ?_) rfl (by kernel_rfl) (by kernel_rfl) (by kernel_rfl) (by kernel_rfl) (fun _ _ _ h => h) (Or.inl ⟨by kernel_rfl, ?_⟩) (by assumption) ?_
          rotate_left
          · (intro w hSw; (try dsimp only at hSw); go_simp; try with_reducible rfl)
          (try simp only [Act.put, List.setIfInBounds_toArray, List.set_cons_zero, List.set_cons_succ])
          refine wpAnyH_takeD (i := 9) (d := some 48) (v := ?_) rfl (by kernel_rfl) (by kernel_rfl) (by kernel_rfl) (by kernel_rfl) (fun _ _ _ h => h) (Or.inl ⟨by kernel_rfl, ?_⟩) (by assumption) ?_
          rotate_left
          · (intro w hSw; (try dsimp only at hSw); go_simp; try with_reducible rfl)
          (try simp only [Act.put, List.setIfInBounds_toArray, List.set_cons_zero, List.set_cons_succ])
          refine wpAnyH_takeD (i := 10) (d := some 49) (v := ?_) rfl (by kernel_rfl) (by kernel_rfl) (by kernel_rfl) (by kernel_rfl) (fun _ _ _ h => h) (Or.inl ⟨by kernel_rfl, ?_⟩) (by assumption) ?_
          rotate_left
          · (intro w hSw; (try dsimp only at hSw); go_simp; try with_reducible rfl)
          (try simp only [Act.put, List.setIfInBounds_toArray, List.set_cons_zero, List.set_cons_succ])
          refine wpAnyH_takeD (i := 11) (d := some 50) (v := ?_) rfl (by kernel_rfl) (by kernel_rfl) (by kernel_rfl) (by kernel_rfl) (fun _ _ _ h => h) (Or.inl ⟨by kernel_rfl, ?_⟩) (by assumption) ?_
          rotate_left
          · (intro w hSw; (try dsimp only at hSw); go_simp; try with_reducible rfl)
          (try simp only [Act.put, List.setIfInBounds_toArray, List.set_cons_zero, List.set_cons_succ])
          refine wpAnyH_takeD (i := 14) (d := some 53) (v := ?_) rfl (by kernel_rfl) (by kernel_rfl) (by kernel_rfl) (by kernel_rfl) (fun _ _ _ h => h) (Or.inl ⟨by kernel_rfl, ?_⟩) (by assumption) ?_
          rotate_left
          · (intro w hSw; (try dsimp only at hSw); go_simp; try with_reducible rfl)
          (try simp only [Act.put, List.setIfInBounds_toArray, List.set_cons_zero, List.set_cons_succ])
          refine wpAnyH_takeD (i := 15) (d := some 54) (v := ?_) rfl (by kernel_rfl) (by kernel_rfl) (by kernel_rfl) (by kernel_rfl) (fun _ _ _ h => h) (Or.inl ⟨by kernel_rfl, ?_⟩) (by assumption) ?_
          rotate_left
          · (intro w hSw; (try dsimp only at hSw); go_simp; try with_reducible rfl)
          (try simp only [Act.put, List.setIfInBounds_toArray, List.set_cons_zero, List.set_cons_succ])
          refine wpAnyH_takeD (i := 16) (d := some 55) (v := ?_) rfl (by kernel_rfl) (by kernel_rfl) (by kernel_rfl) (by kernel_rfl) (fun _ _ _ h => h) (Or.inl ⟨by kernel_rfl, ?_⟩) (by assumption) ?_
          rotate_left
          · (intro w hSw; (try dsimp only at hSw); go_simp; try with_reducible rfl)
          (try simp only [Act.put, List.setIfInBounds_toArray, List.set_cons_zero, List.set_cons_succ])
          refine wpAnyH_ready (rs := [12]) (by kernel_rfl) (by simp) ?_
          refine AllReadyH.cons rfl (fun K hK => ?_) AllReadyH.nil
          go_simp
          refine (HR1.out _).mono ?_
          rintro e wz ⟨rfl, rfl⟩
          refine hK.out _ _ (by assumption) (fun hHeld => ?_)
          clear hK K
          (try simp only [Act.put, List.setIfInBounds_toArray, List.set_cons_zero, List.set_cons_succ])
          refine wpAnyH_takeD (i := 13) (d := some 52) (v := ?_) rfl (by kernel_rfl) (by kernel_rfl) (by kernel_rfl) (by kernel_rfl) (fun _ _ _ h => h) (Or.inl ⟨by kernel_rfl, ?_⟩) (by assumption) ?_
          rotate_left
          · (intro w hSw; (try dsimp only at hSw); go_simp; try with_reducible rfl)
          (try simp only [Act.put, List.setIfInBounds_toArray, List.set_cons_zero, List.set_cons_succ])
          refine wpAnyH_takeD (i := 17) (d := some 56) (v := ?_) rfl (by kernel_rfl) (by kernel_rfl) (by kernel_rfl) (by kernel_rfl) (fun _ _ _ h => h) (Or.inl ⟨by kernel_rfl, ?_⟩) (by assumption) ?_
          rotate_left
          · (intro w hSw; (try dsimp only at hSw); go_simp; try with_reducible rfl)
          (try simp only [Act.put, List.setIfInBounds_toArray, List.set_cons_zero, List.set_cons_succ])
          refine wpAnyH_takeD (i := 18) (d := some 57) (v := ?_) rfl (by kernel_rfl) (by kernel_rfl) (by kernel_rfl) (by kernel_rfl) (fun _ _ _ h => h) (Or.inl ⟨by kernel_rfl, ?_⟩) (by assumption) ?_
          rotate_left
          · (intro w hSw; (try dsimp only at hSw); go_simp; try with_reducible rfl)
          (try simp only [Act.put, List.setIfInBounds_toArray, List.set_cons_zero, List.set_cons_succ])
          refine wpAnyH_ready (rs := [19]) (by kernel_rfl) (by simp) ?_
          refine AllReadyH.cons rfl (fun K hK => ?_) AllReadyH.nil
          have h2n : wz.heap[g2]? = some (.cells #[.int .i64 0, .int .i64 0, .int .i64 0, .string { data := #[] }] 33 (0, 0)) := (HB9.out.block g2 (heap_lt H2B.out)).trans H2B.out
          have k0 := cell_of_row _ _ 0 _ _ _ h2n
          have k1 := cell_of_row _ _ 1 _ _ _ h2n
          have k2 := cell_of_row _ _ 2 _ _ _ h2n
          have k3 := cell_of_row _ _ 3 _ _ _ h2n
          have j0 := frozen_of_row _ g2 0 _ _ h2n
          have j1 := frozen_of_row _ g2 1 _ _ h2n
          have j2 := frozen_of_row _ g2 2 _ _ h2n
          have j3 := frozen_of_row _ g2 3 _ _ h2n
          have jl := heap_lt h2n
          go_simp
          refine hK.out _ _ ⟨cell_set4 HG.out.2.2 ((HB9.out.cell (p := ⟨g5, 0, none⟩) g5l).trans e0), cell_set4 HG.out.2.2 ((HB9.out.cell (p := ⟨g5, 1, none⟩) g5l).trans e1), cell_set4 HG.out.2.2 ((HB9.out.cell (p := ⟨g5, 2, none⟩) g5l).trans e2), cell_set4 HG.out.2.2 ((HB9.out.cell (p := ⟨g5, 3, none⟩) g5l).trans e3)⟩ (fun hHeld => ?_)
          clear hK K
          (try simp only [Act.put, List.setIfInBounds_toArray, List.set_cons_zero, List.set_cons_succ])
          refine wpAnyH_takeD (i := 20) (d := some 3) (v := ?_) rfl (by kernel_rfl) (by kernel_rfl) (by kernel_rfl) (by kernel_rfl) (fun _ _ _ h => h) (Or.inl ⟨by kernel_rfl, ?_⟩) (by assumption) ?_
          rotate_left
          · (intro w hSw; (try dsimp only at hSw); go_simp; try with_reducible rfl)
          (try simp only [Act.put, List.setIfInBounds_toArray, List.set_cons_zero, List.set_cons_succ])
          refine wpAnyH_done (by kernel_rfl) ?_ _
          (try simp only [Act.put, List.setIfInBounds_toArray, List.set_cons_zero, List.set_cons_succ])
          have hfin := heap_set4 (v0 := .int .i64 2) (v1 := .int .i64 0) (v2 := .int .i64 v) (v3 := .string (st t)) h2n
          have hbel := below_set4 (v0 := .int .i64 2) (v1 := .int .i64 0) (v2 := .int .i64 v) (v3 := .string (st t)) (HBC.out.trans (HB9.out.mono HBC.out.size)) HG.out.1
          have k0 := cell_of_row _ _ 0 _ _ _ hfin
          have k1 := cell_of_row _ _ 1 _ _ _ hfin
          have k2 := cell_of_row _ _ 2 _ _ _ hfin
          have k3 := cell_of_row _ _ 3 _ _ _ hfin
          have HBEL := Lib.hid hbel
          obtain ⟨wn, hwn⟩ : ∃ wn, set4 wz g2 (.int .i64 2) (.int .i64 0) (.int .i64 v) (.string (st t)) = wn := ⟨_, rfl⟩
          have hwn2 := hwn
          unfold set4 at hwn2
          rw [hwn2]
          rw [hwn] at HBEL k0 k1 k2 k3
          clear hwn hwn2 hfin hbel h2n j0 j1 j2 j3 jl hHeld
          go_wp2_with fail
          refine bodyPost_ret (v := .tuple #[tkv 2 0 v t, .bool (decide (u.length = t.length))]) (by simp [results, Tryd.results25, go_sem, k0, k1, k2, k3]; try (first | omega | (rw [Bool.eq_iff_iff]; simp; omega) | (rw [Bool.eq_iff_iff]; simp))) rfl ?_
          exact ⟨HBEL.out, 2, v, t, _, rfl, .inl (by rw [HE.out, HV.out]; simp [HZZ.out])⟩
      · have HV : Hid (nxI s.data.toList = (2, 0, t, false)) := Lib.hid (by
          rw [HE.out]
          cases h : Lib.atoiAll t
          · rename_i v; exact absurd h (hno v)
          · rfl
          · rfl)
        clear hno
        have h5' := heap_setCell_same w3 g5 2 _ _ (.int .i64 v) h5
        have h2' : (w3.setCell ⟨g5, 2, none⟩ (.int .i64 v)).heap[g2]? = _ := (heap_setCell_other w3 ⟨g5, 2, none⟩ g2 (.int .i64 v) (fun e => HG.out.2.2 e)).trans h2
        have HBC : Hid (Below w.heap.size w (w3.setCell ⟨g5, 2, none⟩ (.int .i64 v))) := Lib.hid (HBB.out.setCell (by have := HG.out; show w.heap.size ≤ g5; omega) _)
        go_upto_region 10 with fail
        obtain ⟨wb, hwb⟩ : ∃ wb, w3.setCell ⟨g5, 2, none⟩ (.int .i64 v) = wb := ⟨_, rfl⟩
        rw [hwb] at h5' h2' HBC ⊢
        replace e0 := cell_of_row _ _ 0 _ _ _ h5'
        replace e1 := cell_of_row _ _ 1 _ _ _ h5'
        replace e2 := cell_of_row _ _ 2 _ _ _ h5'
        replace e3 := cell_of_row _ _ 3 _ _ _ h5'
        replace g5l := heap_lt h5'
        have H2B := Lib.hid h2'
        clear hwb h5 h2 h5' h2' z0 HBB
        clear w3
        refine wp_region_held_drew (S := (fun w' => w'.cell? ⟨g5, 0, none⟩ = some (.int .i64 2) ∧ w'.cell? ⟨g5, 1, none⟩ = some (.int .i64 0) ∧ w'.cell? ⟨g5, 2, none⟩ = some (.int .i64 v) ∧ w'.cell? ⟨g5, 3, none⟩ = some (.string (st t)))) (by kernel_rfl) ⟨e0, e1, e2, e3⟩ (fun hHeld => ?_)
        refine wpAnyH_takeD (i := 0) (d := some 39) (v := ?_) rfl (by kernel_rfl) (by kernel_rfl) (by kernel_rfl) (by kernel_rfl) (fun _ _ _ h => h) (Or.inl ⟨by kernel_rfl, ?_⟩) (by assumption) ?_
        rotate_left
        · (intro w hSw; (try dsimp only at hSw); go_simp; try with_reducible rfl)
        (try simp only [Act.put, List.setIfInBounds_toArray, List.set_cons_zero, List.set_cons_succ])
        refine wpAnyH_takeD (i := 1) (d := some 40) (v := ?_) rfl (by kernel_rfl) (by kernel_rfl) (by kernel_rfl) (by kernel_rfl) (fun _ _ _ h => h) (Or.inl ⟨by kernel_rfl, ?_⟩) (by assumption) ?_
        rotate_left
        · (intro w hSw; (try dsimp only at hSw); go_simp; try with_reducible rfl)
        (try simp only [Act.put, List.setIfInBounds_toArray, List.set_cons_zero, List.set_cons_succ])
        refine wpAnyH_takeD (i := 2) (d := some 41) (v := ?_) rfl (by kernel_rfl) (by kernel_rfl) (by kernel_rfl) (by kernel_rfl) (fun _ _ _ h => h) (Or.inl ⟨by kernel_rfl, ?_⟩) (by assumption) ?_
        rotate_left
        · (intro w hSw; (try dsimp only at hSw); go_simp; try with_reducible rfl)
        (try simp only [Act.put, List.setIfInBounds_toArray, List.set_cons_zero, List.set_cons_succ])
        refine wpAnyH_takeD (i := 3) (d := some 42) (v := ?_) rfl (by kernel_rfl) (by kernel_rfl) (by kernel_rfl) (by kernel_rfl) (fun _ _ _ h => h) (Or.inl ⟨by kernel_rfl, ?_⟩) (by assumption) ?_
        rotate_left
        · (intro w hSw; (try dsimp only at hSw); go_simp; try with_reducible rfl)
        (try simp only [Act.put, List.setIfInBounds_toArray, List.set_cons_zero, List.set_cons_succ])
        refine wpAnyH_takeD (i := 4) (d := some 43) (v := undef) rfl (by kernel_rfl) (by kernel_rfl) (by kernel_rfl) (by kernel_rfl) (fun _ _ _ h => h) (Or.inr ⟨by kernel_rfl, rfl⟩) (by assumption) ?_
        (try simp only [Act.put, List.setIfInBounds_toArray, List.set_cons_zero, List.set_cons_succ])
        refine wpAnyH_takeD (i := 6) (d := some 45) (v := undef) rfl (by kernel_rfl) (by kernel_rfl) (by kernel_rfl) (by kernel_rfl) (fun _ _ _ h => h) (Or.inr ⟨by kernel_rfl, rfl⟩) (by assumption) ?_
        (try simp only [Act.put, List.setIfInBounds_toArray, List.set_cons_zero, List.set_cons_succ])
        refine wpAnyH_takeD (i := 7) (d := some 46) (v := undef) rfl (by kernel_rfl) (by kernel_rfl) (by kernel_rfl) (by kernel_rfl) (fun _ _ _ h => h) (Or.inr ⟨by kernel_rfl, rfl⟩) (by assumption) ?_
        (try simp only [Act.put, List.setIfInBounds_toArray, List.set_cons_zero, List.set_cons_succ])
        refine wpAnyH_takeD (i := 5) (d := some 44) (v := undef) rfl (by kernel_rfl) (by kernel_rfl) (by kernel_rfl) (by kernel_rfl) (fun _ _ _ h => h) (Or.inr ⟨by kernel_rfl, rfl⟩) (by assumption) ?_
        (try simp only [Act.put, List.setIfInBounds_toArray, List.set_cons_zero, List.set_cons_succ])
        refine wpAnyH_takeD (i := 8) (d := some 47) (v := undef) rfl (by kernel_rfl) (by kernel_rfl) (by kernel_rfl) (by kernel_rfl) (fun _ _ _ h => h) (Or.inr ⟨by kernel_rfl, rfl⟩) (by assumption) ?_
        (try simp only [Act.put, List.setIfInBounds_toArray, List.set_cons_zero, List.set_cons_succ])
        refine wpAnyH_takeD (i := 9) (d := some 48) (v := ?_) rfl (by kernel_rfl) (by kernel_rfl) (by kernel_rfl) (by kernel_rfl) (fun _ _ _ h => h) (Or.inl ⟨by kernel_rfl, ?_⟩) (by assumption) ?_
        rotate_left
        · (intro w hSw; (try dsimp only at hSw); go_simp; try with_reducible rfl)
        (try simp only [Act.put, List.setIfInBounds_toArray, List.set_cons_zero, List.set_cons_succ])
        refine wpAnyH_takeD (i := 10) (d := some 49) (v := ?_) rfl (by kernel_rfl) (by kernel_rfl) (by kernel_rfl) (by kernel_rfl) (fun _ _ _ h => h) (Or.inl ⟨by kernel_rfl, ?_⟩) (by assumption) ?_
        rotate_left
        · (intro w hSw; (try dsimp only at hSw); go_simp; try with_reducible rfl)
        (try simp only [Act.put, List.setIfInBounds_toArray, List.set_cons_zero, List.set_cons_succ])
        refine wpAnyH_takeD (i := 11) (d := some 50) (v := undef) rfl (by kernel_rfl) (by kernel_rfl) (by kernel_rfl) (by kernel_rfl) (fun _ _ _ h => h) (Or.inr ⟨by kernel_rfl, rfl⟩) (by assumption) ?_
        (try simp only [Act.put, List.setIfInBounds_toArray, List.set_cons_zero, List.set_cons_succ])
        refine wpAnyH_takeD (i := 14) (d := some 53) (v := undef) rfl (by kernel_rfl) (by kernel_rfl) (by kernel_rfl) (by kernel_rfl) (fun _ _ _ h => h) (Or.inr ⟨by kernel_rfl, rfl⟩) (by assumption) ?_
        (try simp only [Act.put, List.setIfInBounds_toArray, List.set_cons_zero, List.set_cons_succ])
        refine wpAnyH_takeD (i := 15) (d := some 54) (v := undef) rfl (by kernel_rfl) (by kernel_rfl) (by kernel_rfl) (by kernel_rfl) (fun _ _ _ h => h) (Or.inr ⟨by kernel_rfl, rfl⟩) (by assumption) ?_
        (try simp only [Act.put, List.setIfInBounds_toArray, List.set_cons_zero, List.set_cons_succ])
        refine wpAnyH_takeD (i := 16) (d := some 55) (v := undef) rfl (by kernel_rfl) (by kernel_rfl) (by kernel_rfl) (by kernel_rfl) (fun _ _ _ h => h) (Or.inr ⟨by kernel_rfl, rfl⟩) (by assumption) ?_
        (try simp only [Act.put, List.setIfInBounds_toArray, List.set_cons_zero, List.set_cons_succ])
        refine wpAnyH_takeD (i := 12) (d := some 51) (v := undef) rfl (by kernel_rfl) (by kernel_rfl) (by kernel_rfl) (by kernel_rfl) (fun _ _ _ h => h) (Or.inr ⟨by kernel_rfl, rfl⟩) (by assumption) ?_
        (try simp only [Act.put, List.setIfInBounds_toArray, List.set_cons_zero, List.set_cons_succ])
        refine wpAnyH_takeD (i := 13) (d := some 52) (v := undef) rfl (by kernel_rfl) (by kernel_rfl) (by kernel_rfl) (by kernel_rfl) (fun _ _ _ h => h) (Or.inr ⟨by kernel_rfl, rfl⟩) (by assumption) ?_
        (try simp only [Act.put, List.setIfInBounds_toArray, List.set_cons_zero, List.set_cons_succ])
        refine wpAnyH_takeD (i := 17) (d := some 56) (v := undef) rfl (by kernel_rfl) (by kernel_rfl) (by kernel_rfl) (by kernel_rfl) (fun _ _ _ h => h) (Or.inr ⟨by kernel_rfl, rfl⟩) (by assumption) ?_
        (try simp only [Act.put, List.setIfInBounds_toArray, List.set_cons_zero, List.set_cons_succ])
        refine wpAnyH_takeD (i := 18) (d := some 57) (v := ?_) rfl (by kernel_rfl) (by kernel_rfl) (by kernel_rfl) (by kernel_rfl) (fun _ _ _ h => h) (Or.inl ⟨by kernel_rfl, ?_⟩) (by assumption) ?_
        rotate_left
        · (intro w hSw; (try dsimp only at hSw); go_simp; try with_reducible rfl)
        (try simp only [Act.put, List.setIfInBounds_toArray, List.set_cons_zero, List.set_cons_succ])
        have hby : Below wb.heap.size wb wb.drew := (Below.refl _ _).drew
        obtain ⟨wy, hwy⟩ : ∃ wy, wb.drew = wy := ⟨_, rfl⟩
        rw [hwy] at hby hHeld ⊢
        have HBY := Lib.hid hby
        clear hwy hby
        refine wpAnyH_ready (rs := [19]) (by kernel_rfl) (by simp) ?_
        refine AllReadyH.cons rfl (fun K hK => ?_) AllReadyH.nil
        have h2n : wy.heap[g2]? = some (.cells #[.int .i64 0, .int .i64 0, .int .i64 0, .string { data := #[] }] 33 (0, 0)) := (HBY.out.block g2 (heap_lt H2B.out)).trans H2B.out
        have k0 := cell_of_row _ _ 0 _ _ _ h2n
        have k1 := cell_of_row _ _ 1 _ _ _ h2n
        have k2 := cell_of_row _ _ 2 _ _ _ h2n
        have k3 := cell_of_row _ _ 3 _ _ _ h2n
        have j0 := frozen_of_row _ g2 0 _ _ h2n
        have j1 := frozen_of_row _ g2 1 _ _ h2n
        have j2 := frozen_of_row _ g2 2 _ _ h2n
        have j3 := frozen_of_row _ g2 3 _ _ h2n
        have jl := heap_lt h2n
        go_simp
        refine hK.out _ _ ⟨cell_set4 HG.out.2.2 ((HBY.out.cell (p := ⟨g5, 0, none⟩) g5l).trans e0), cell_set4 HG.out.2.2 ((HBY.out.cell (p := ⟨g5, 1, none⟩) g5l).trans e1), cell_set4 HG.out.2.2 ((HBY.out.cell (p := ⟨g5, 2, none⟩) g5l).trans e2), cell_set4 HG.out.2.2 ((HBY.out.cell (p := ⟨g5, 3, none⟩) g5l).trans e3)⟩ (fun hHeld => ?_)
        clear hK K
        (try simp only [Act.put, List.setIfInBounds_toArray, List.set_cons_zero, List.set_cons_succ])
        refine wpAnyH_takeD (i := 20) (d := some 3) (v := ?_) rfl (by kernel_rfl) (by kernel_rfl) (by kernel_rfl) (by kernel_rfl) (fun _ _ _ h => h) (Or.inl ⟨by kernel_rfl, ?_⟩) (by assumption) ?_
        rotate_left
        · (intro w hSw; (try dsimp only at hSw); go_simp; try with_reducible rfl)
        (try simp only [Act.put, List.setIfInBounds_toArray, List.set_cons_zero, List.set_cons_succ])
        refine wpAnyH_done (by kernel_rfl) ?_ _
        (try simp only [Act.put, List.setIfInBounds_toArray, List.set_cons_zero, List.set_cons_succ])
        have hfin := heap_set4 (v0 := .int .i64 2) (v1 := .int .i64 0) (v2 := .int .i64 v) (v3 := .string (st t)) h2n
        have hbel := below_set4 (v0 := .int .i64 2) (v1 := .int .i64 0) (v2 := .int .i64 v) (v3 := .string (st t)) (HBC.out.trans (HBY.out.mono HBC.out.size)) HG.out.1
        have k0 := cell_of_row _ _ 0 _ _ _ hfin
        have k1 := cell_of_row _ _ 1 _ _ _ hfin
        have k2 := cell_of_row _ _ 2 _ _ _ hfin
        have k3 := cell_of_row _ _ 3 _ _ _ hfin
        have HBEL := Lib.hid hbel
        obtain ⟨wn, hwn⟩ : ∃ wn, set4 wy g2 (.int .i64 2) (.int .i64 0) (.int .i64 v) (.string (st t)) = wn := ⟨_, rfl⟩
        have hwn2 := hwn
        unfold set4 at hwn2
        rw [hwn2]
        rw [hwn] at HBEL k0 k1 k2 k3
        clear hwn hwn2 hfin hbel h2n j0 j1 j2 j3 jl hHeld
        go_wp2_with fail
        refine bodyPost_ret (v := .tuple #[tkv 2 0 v t, .bool false]) (by simp [results, Tryd.results25, go_sem, k0, k1, k2, k3]; try (first | omega | (rw [Bool.eq_iff_iff]; simp; omega) | (rw [Bool.eq_iff_iff]; simp))) rfl ?_
        exact ⟨HBEL.out, 2, v, t, _, rfl, .inr ⟨rfl, by rw [HV.out]⟩⟩
  · have HP : Hid (∀ W (e : Ending), Below w.heap.size w W → e = .returned (.tuple #[tkv (if isW (run in8 s.data.toList) then 3 else 1) 0 0 (run in8 s.data.toList), .bool (decide ((run in8 s.data.toList).length ≤ 32))]) → TkPost s.data.toList w e W) := Lib.hid (fun W e hb he => by
      have e1 : nxI s.data.toList = (if isW (run in8 s.data.toList) then 3 else 1, 0, run in8 s.data.toList, decide ((run in8 s.data.toList).length ≤ 32)) := by
        rw [hl]; show (if lt8 b then _ else _) = _; rw [h1, if_pos rfl]
      exact ⟨hb, _, _, _, _, he, .inl e1⟩)
    have H1 := Lib.hid h1
    clear h1 hl
    obtain ⟨t, ht⟩ : ∃ t, run in8 s.data.toList = t := ⟨_, rfl⟩
    rw [ht] at HP HR1
    clear ht
    go_enter Tryd.func25, Tryd.ntmps25
    go_wp2_with fail
    refine (letter_any b _).mono ?_
    rintro e w1 ⟨rfl, rfl⟩
    rw [H1.out]
    go_wp2_with fail
    refine (HR1.out _).mono ?_
    rintro e w1 ⟨rfl, rfl⟩
    go_wp2_with fail
    refine (Word_st t _).mono ?_
    rintro e w1 ⟨rfl, rfl⟩
    cases hW : isW t
    · rw [hW] at HP
      clear hW
      go_upto_region 5 with fail
      go_region
      all_goals
        go_wp2
        refine bodyPost_ret (v := .tuple #[tkv 1 0 0 t, .bool (decide (t.length ≤ 32))]) (by simp [results, Tryd.results25, go_sem]; try omega) rfl ?_
        refine HP.out _ _ ?_ (by simp; try omega)
        first
          | exact ((Below.refl _ _).alloc (Nat.le_refl _) _).drew.alloc (by simp) _
          | exact (((Below.refl _ _).alloc (Nat.le_refl _) _).alloc (by simp) _).drew
          | exact (((Below.refl _ _).alloc (Nat.le_refl _) _).alloc (by simp) _)
    · rw [hW] at HP
      clear hW
      go_upto_region 5 with fail
      go_region
      all_goals
        go_wp2
        refine bodyPost_ret (v := .tuple #[tkv 3 0 0 t, .bool (decide (t.length ≤ 32))]) (by simp [results, Tryd.results25, go_sem]; try omega) rfl ?_
        refine HP.out _ _ ?_ (by simp; try omega)
        first
          | exact ((Below.refl _ _).alloc (Nat.le_refl _) _).drew.alloc (by simp) _
          | exact (((Below.refl _ _).alloc (Nat.le_refl _) _).alloc (by simp) _).drew
          | exact (((Below.refl _ _).alloc (Nat.le_refl _) _).alloc (by simp) _)
end Go.Proofs.YthcagbplolcbpaaDoor
