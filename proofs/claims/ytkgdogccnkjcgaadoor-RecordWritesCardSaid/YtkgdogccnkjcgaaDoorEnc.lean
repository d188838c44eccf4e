/-
  WALK of Encode at right records.
-/
import Derived.Test.YtkgdogccnkjcgaaDoorApp
namespace Go.Proofs.YtkgdogccnkjcgaaDoor
open Go.ChangeShapes Go.WideShapes Go.ChangeAt Go.RowKit
instance : Inhabited Rc := ⟨⟨0, 0, 0, 0, 0, 0, []⟩⟩
/-- a record in memory -/
def RecAt (w : World) (b o : Nat) (r : Rc) : Prop := ∃ (ca : Option Addr) (cn cc : Nat),
  (w.cell? ⟨b, o, none⟩ = some (.int .i64 r.kind) ∧ w.cell? ⟨b, o + 1, none⟩ = some (.int .i64 r.clock) ∧ w.cell? ⟨b, o + 2, none⟩ = some (.int .i64 r.addr) ∧ w.cell? ⟨b, o + 3, none⟩ = some (.slice ca cn cc) ∧
   w.cell? ⟨b, o + 4, none⟩ = some (.int .i64 r.lost) ∧ w.cell? ⟨b, o + 5, none⟩ = some (.int .i64 r.index) ∧ w.cell? ⟨b, o + 6, none⟩ = some (.int .i64 r.value)) ∧ Is w ca cn cc r.chain
theorem RecAt.below {w w' : World} {b o : Nat} {r : Rc} (h : RecAt w b o r) (hb : Below w.heap.size w w') (hl : b < w.heap.size) : RecAt w' b o r := by
  obtain ⟨ca, cn, cc, ⟨h0, h1, h2, h3, h4, h5, h6⟩, hi⟩ := h
  have g : ∀ q v, w.cell? ⟨b, q, none⟩ = some v → w'.cell? ⟨b, q, none⟩ = some v := fun q v hv => (hb.cell (p := ⟨b, q, none⟩) hl).trans hv
  exact ⟨ca, cn, cc, ⟨g _ _ h0, g _ _ h1, g _ _ h2, g _ _ h3, g _ _ h4, g _ _ h5, g _ _ h6⟩, hi.below hb⟩
/-- a slice of records -/
def Rs (w : World) (a : Option Addr) (n cap : Nat) (rs : List Rc) : Prop := rs.length = n ∧ n ≤ cap ∧ cap ≤ maxLen ∧ (a = none → cap = 0) ∧
  ∀ i, i < n → ∃ b off, a = some ⟨b, off, none⟩ ∧ b < w.heap.size ∧ RecAt w b (off + i * 7) (rs.getD i default)
theorem Rs.below {w w' : World} {a : Option Addr} {n cap : Nat} {rs : List Rc} (h : Rs w a n cap rs) (hb : Below w.heap.size w w') : Rs w' a n cap rs :=
  ⟨h.1, h.2.1, h.2.2.1, h.2.2.2.1, fun i hi => by
    obtain ⟨b, off, e, hl, hr⟩ := h.2.2.2.2 i hi
    exact ⟨b, off, e, Nat.lt_of_lt_of_le hl hb.size, hr.below hb hl⟩⟩
def recs (rs : List Rc) : List Nat := rs.flatMap fun r => frame (pay r)
def encB (h : Hd) (rs : List Rc) (whole : Bool) : List Nat := lettersV ++ frame (hpay h) ++ recs rs ++ (if whole then frame [3] else [])
theorem recs_take (rs : List Rc) (k : Nat) (h : k < rs.length) : recs (rs.take (k + 1)) = recs (rs.take k) ++ frame (pay (rs.getD k default)) := by
  unfold recs
  rw [List.take_succ_eq_append_getElem h, List.flatMap_append]
  simp [List.getD, h]
theorem recs_take_le (rs : List Rc) (k : Nat) : (recs (rs.take k)).length ≤ (recs rs).length := by
  unfold recs
  conv => rhs; rw [← List.take_append_drop k rs, List.flatMap_append]
  rw [List.length_append]; omega
abbrev shv (h : Hd) (s : Value) (whole : Bool) : Value := .agg #[.int .i64 h.rel, .int .i64 h.mach, .int .i64 h.num, .int .i64 h.per, .int .u64 ((h.print : Nat) : Int), s, .bool whole]
theorem frame_len_ge (ps : List Nat) : 5 ≤ (frame ps).length := by have := uenc_pos ps.length; unfold frame; simp [le4]; omega
theorem pre_len {h : Hd} (hh : ckH h = 0) (hp : h.print < 18446744073709551616) : (lettersV ++ frame (hpay h)).length ≤ 100 := by
  have hin : inR h.rel 0 1073741824 = true ∧ inR h.mach 0 1073741824 = true ∧ inR h.num 0 1073741824 = true ∧ inR h.per 0 1099511627776 = true := by
    unfold ckH at hh
    split at hh
    · rename_i h1; simp only [Bool.and_eq_true] at h1; exact ⟨h1.1.1.1, h1.1.1.2, h1.1.2, h1.2⟩
    · cases hh
  have r1 := inR_t hin.1
  have r2 := inR_t hin.2.1
  have r3 := inR_t hin.2.2.1
  have r4 := inR_t hin.2.2.2
  have hl := hpay_len h (by intro x hx; simp only [List.mem_cons, List.not_mem_nil, or_false] at hx; rcases hx with rfl | rfl | rfl | rfl <;> omega) hp
  have h10 := uenc_len10 (n := (hpay h).length) (by omega)
  unfold frame
  simp [le4]
  omega
set_option maxRecDepth 100000 in
set_option maxHeartbeats 16000000 in
theorem Encode_good (h : Hd) (a : Option Addr) (n cap : Nat) (rs : List Rc) (whole : Bool) (hh : ckH h = 0) (hp : h.print < 18446744073709551616) (hg : ∀ i, i < n → Good (rs.getD i default) ∧ (rs.getD i default).kind ≠ 3)
    (hsz : (recs rs).length ≤ 80000) (hnm : n ≤ 100000) (w : World) (hr : Rs w a n cap rs) (hl : Laid w) :
    Calls Tryd.prog 11 #[shv h (.slice a n cap) whole] w fun e w' => (4096 < n ∧ e = .returned (.tuple #[.slice none 0 0, .int .i64 5]) ∧ Below w.heap.size w w') ∨
      (n ≤ 4096 ∧ ∃ v, e = .returned (.tuple #[v, .int .i64 0]) ∧ w'.ownsRow w.heap.size 5 1 v (encB h rs whole).length (byts (encB h rs whole)) ∧ Below w.heap.size w w') := by
  obtain ⟨i0, hi0, hz0, hz1, hz2⟩ := info_parts Tryd.info5
  have HR := Lib.hid hr
  have HG := Lib.hid hg
  have HL := Lib.hid hl
  have HSZ := Lib.hid hsz
  have HN := Lib.hid hr.1
  clear hr hg hl hsz
  have hb1 : Below w.heap.size w (w.alloc (.cells #[.int .i64 h.rel, .int .i64 h.mach, .int .i64 h.num, .int .i64 h.per, .int .u64 ((h.print : Nat) : Int), .slice a n cap, .bool whole] 32)) := (Below.refl _ _).alloc (Nat.le_refl _) _
  go_enter Tryd.func11, Tryd.ntmps11
  go_wp2_with fail
  refine (Begin_any h hp _ (HL.out.below hb1)).mono ?_
  rintro e w1 ⟨v1, rfl, hown1, hb2⟩
  rw [hh]
  rw [if_pos hh] at hown1
  have hb01 := hb1.trans (hb2.mono hb1.size)
  have g := fun i v (hv : (#[.int .i64 h.rel, .int .i64 h.mach, .int .i64 h.num, .int .i64 h.per, .int .u64 ((h.print : Nat) : Int), .slice a n cap, .bool whole] : Array Value)[i]? = some v) => (hb2.cell (p := ⟨w.heap.size, i, none⟩) (by simp)).trans ((cell_of_row _ _ _ _ _ _ (heap_alloc_new w _)).trans hv)
  have b5 : w1.cell? ⟨w.heap.size, 5, none⟩ = some (.slice a n cap) := g 5 _ rfl
  have b6 : w1.cell? ⟨w.heap.size, 6, none⟩ = some (.bool whole) := g 6 _ rfl
  have hs1 : w.heap.size < w1.heap.size := by have := hb2.size; simp at this; omega
  have HO1 := Lib.hid (ownsRow_mono2 (b' := w.heap.size + 1) hown1 (by simp))
  clear g hb2 hown1 hb1
  go_wp2_with fail
  go_loopw [25] (fun v25 wr => ∃ k : Nat, k ≤ n ∧ v25 = .int .i64 k ∧ Below w1.heap.size w1 wr) (fun v _ => n - (intOf v).toNat)
  case atStart => exact ⟨0, by omega, rfl, Below.refl _ _⟩
  case round =>
    obtain ⟨k, hk, rfl, hb⟩ := hrel
    by_cases hlt : k < n
    · have hbk := hb01.trans (hb.mono (Nat.le_of_lt hs1))
      obtain ⟨bb, off, rfl, hbl, hrec⟩ := (HR.out.below hbk).2.2.2.2 k hlt
      obtain ⟨hgd, hk3⟩ := HG.out k hlt
      obtain ⟨r, hrr⟩ : ∃ r, rs.getD k default = r := ⟨_, rfl⟩
      rw [hrr] at hrec hgd hk3
      obtain ⟨ca, cn, cc, ⟨c0, c1, c2, c3, c4, c5, c6⟩, hi⟩ := hrec
      have hcn : cn ≤ 100000 := by have := hi.1; have := hgd.chain; omega
      have HI := Lib.hid (hi.below ((Below.refl wr.heap.size wr).alloc (Nat.le_refl _) (.cells #[.int .i64 r.kind, .int .i64 r.clock, .int .i64 r.addr, .slice ca cn cc, .int .i64 r.lost, .int .i64 r.index, .int .i64 r.value] 45)))
      have hz := hgd.zero
      have d3 : (r.kind == 3) = false := by simp [hk3]
      clear hi hrr hk3 hbk
      go_wp2_with fail
      refine (CheckRecord_any r ca cn cc hcn _ HI.out).mono ?_
      rintro e w2 ⟨rfl, hb2⟩
      rw [hz]
      have q0 := (hb2.cell (p := ⟨wr.heap.size, 0, none⟩) (by simp)).trans ((cell_of_row _ _ _ _ _ _ (heap_alloc_new wr _)).trans (show (#[.int .i64 r.kind, .int .i64 r.clock, .int .i64 r.addr, .slice ca cn cc, .int .i64 r.lost, .int .i64 r.index, .int .i64 r.value] : Array Value)[0]? = some (.int .i64 r.kind) from rfl))
      have hend := (hb.alloc hb.size (.cells #[.int .i64 r.kind, .int .i64 r.clock, .int .i64 r.addr, .slice ca cn cc, .int .i64 r.lost, .int .i64 r.index, .int .i64 r.value] 45)).trans (hb2.mono (by have := hb.size; simp; omega))
      clear hb2 hb
      go_wp2_with fail
      exact ⟨⟨k + 1, by omega, by go_num, hend⟩, by simp [intOf]; omega⟩
    · obtain rfl : k = n := by omega
      have g6 := (hb.cell (p := ⟨w.heap.size, 6, none⟩) hs1).trans b6
      have g5 := (hb.cell (p := ⟨w.heap.size, 5, none⟩) hs1).trans b5
      have hb0r := hb01.trans (hb.mono (Nat.le_of_lt hs1))
      have HOr := Lib.hid (own_below HO1.out hb)
      have hsr := hb.size
      clear b5 b6
      by_cases hbig : 4096 < k
      · have dl : decide ((4096 : Int) < (k : Int)) = true := by simp; omega
        go_wp2_with fail
        go_ret2
        exact Or.inl ⟨hbig, rfl, hb0r⟩
      have dl : decide ((4096 : Int) < (k : Int)) = false := by simp; omega
      have hpre := pre_len hh hp
      obtain ⟨PR, hPR⟩ : ∃ L, lettersV ++ frame (hpay h) = L := ⟨_, rfl⟩
      rw [hPR] at HOr hpre
      have HPR := Lib.hid hPR
      clear hb hPR
      go_wp2_with fail
      go_loopw [4, 45] (fun v4 v45 wx => ∃ j : Nat, j ≤ k ∧ v45 = .int .i64 j ∧ wx.ownsRow (w.heap.size + 1) 5 1 v4 (PR ++ recs (rs.take j)).length (byts (PR ++ recs (rs.take j))) ∧ wx.cell? ⟨w.heap.size, 6, none⟩ = some (.bool whole) ∧ Below w.heap.size w wx ∧ w.heap.size < wx.heap.size) (fun _ v _ => k - (intOf v).toNat)
      case atStart => exact ⟨0, by omega, rfl, by simpa [recs] using HOr.out, g6, hb0r, by omega⟩
      case round =>
        obtain ⟨j, hj, rfl, hown, f6, hbx, hsx⟩ := hrel
        by_cases hlt2 : j < k
        · obtain ⟨bb, off, rfl, hbl, hrec⟩ := (HR.out.below hbx).2.2.2.2 j hlt2
          obtain ⟨hgd, hk3⟩ := HG.out j hlt2
          have hrt := recs_take rs j (by have := HN.out; omega)
          have hle := recs_take_le rs j
          have hszz := HSZ.out
          have hLl : (PR ++ recs (rs.take j)).length ≤ 80200 := by rw [List.length_append]; omega
          obtain ⟨r, hrr⟩ : ∃ r, rs.getD j default = r := ⟨_, rfl⟩
          rw [hrr] at hrec hgd hk3 hrt
          have hfl : (frame (pay r)).length ≤ 500 := by have := pay_len hgd; have h10 := uenc_len10 (n := (pay r).length) (by omega); unfold frame; simp [le4]; omega
          obtain ⟨ca, cn, cc, ⟨c0, c1, c2, c3, c4, c5, c6⟩, hi⟩ := hrec
          have hcn : cn ≤ 4000 := by have := hi.1; have := hgd.chain; omega
          have hal := (Below.refl wr.heap.size wr).alloc (Nat.le_refl _) (.cells #[.int .i64 r.kind, .int .i64 r.clock, .int .i64 r.addr, .slice ca cn cc, .int .i64 r.lost, .int .i64 r.index, .int .i64 r.value] 45)
          have HI := Lib.hid (hi.below hal)
          have hz := hgd.zero
          have HLx := Lib.hid (HL.out.below (hbx.trans (hal.mono hbx.size)))
          have hownA := own_below hown hal
          have f6a := (hal.cell (p := ⟨w.heap.size, 6, none⟩) hsx).trans f6
          have hbxa := hbx.trans (hal.mono hbx.size)
          have hsxa : w.heap.size < (wr.alloc (.cells #[.int .i64 r.kind, .int .i64 r.clock, .int .i64 r.addr, .slice ca cn cc, .int .i64 r.lost, .int .i64 r.index, .int .i64 r.value] 45)).heap.size := by simp; omega
          obtain ⟨LJ, hLJ⟩ : ∃ L, PR ++ recs (rs.take j) = L := ⟨_, rfl⟩
          rw [hLJ] at hownA hLl
          have hnext : PR ++ recs (rs.take (j + 1)) = LJ ++ frame (pay r) := by rw [hrt, ← List.append_assoc, hLJ]
          have HNX := Lib.hid hnext
          obtain ⟨lj, hlj⟩ : ∃ l, LJ.length = l := ⟨_, rfl⟩
          rw [hlj] at hownA hLl
          have HLJ := Lib.hid hlj
          clear hi hrr hk3 hrt hle hszz hown hbx f6 hnext hLJ hlj hal
          go_wp2_with fail
          refine (Append_any none ca 0 0 cn cc [] r (by omega) hcn _ (nil_bs _) HI.out HLx.out).mono ?_
          rintro e w2 ⟨v2, rfl, hown2, hb2⟩
          rw [hz]
          rw [if_pos hz, List.nil_append] at hown2
          have hown2A := own_below hownA hb2
          have f62 := (hb2.cell (p := ⟨w.heap.size, 6, none⟩) hsxa).trans f6a
          have hbx2 := hbxa.trans (hb2.mono hbxa.size)
          have hsx2 : w.heap.size < w2.heap.size := Nat.lt_of_lt_of_le hsxa hb2.size
          obtain ⟨a2, c2', rfl, hbs2⟩ := Bs.of_own hown2
          obtain ⟨m2, hm2⟩ : ∃ m, (frame (pay r)).length = m := ⟨_, rfl⟩
          rw [hm2] at hbs2 hfl ⊢
          have H2 := Lib.hid hbs2
          have HO2 := Lib.hid hown2A
          have HM2 := Lib.hid hm2
          clear hownA hown2 hb2 hbs2 hown2A f6a hbxa hsxa hm2
          go_wp2_with (at_builtin; refine wpList_append_src rfl _ _ _ rfl (w.heap.size + 1) 5 i0 _ 1 1 Tryd.underlying22 hi0 hz0 hz1 hz2 rfl (by omega) _ _ _ rfl HO2.out a2 m2 c2' (byts (frame (pay r))) rfl H2.out.2.1 H2.out.2.2.2.1 (by simp [H2.out.1]) H2.out.2.2.2.2 (byts_one _) (by unfold maxLen; omega) (by omega) (by omega) ?_; intro v3 w3 hown3 hgr3; have hbx3 := hbx2.grown hgr3 (by omega) (fun q e => by have := (HO2.out.lt q e).1; omega); have f63 := (hgr3.cell_far ⟨w.heap.size, 6, none⟩ hsx2 (by intro e; have h9 := (HO2.out.lt w.heap.size e.symm).1; omega)).trans f62; have hsx3 : w.heap.size < w3.heap.size := Nat.lt_of_lt_of_le hsx2 hgr3.size; rw [← byts_append] at hown3; clear hgr3)
          have hfin : w3.ownsRow (w.heap.size + 1) 5 1 v3 (PR ++ recs (rs.take (j + 1))).length (byts (PR ++ recs (rs.take (j + 1)))) := by
            rw [HNX.out, List.length_append, HLJ.out, HM2.out]; exact hown3
          have HFIN := Lib.hid hfin
          clear hown3 hfin
          go_wp2_with fail
          exact ⟨⟨j + 1, by omega, by go_num, HFIN.out, f63, hbx3, hsx3⟩, by simp [intOf]; omega⟩
        · obtain rfl : j = k := by omega
          rw [List.take_of_length_le (by have := HN.out; omega)] at hown
          have hszz := HSZ.out
          obtain ⟨LJ, hLJ⟩ : ∃ L, PR ++ recs rs = L := ⟨_, rfl⟩
          have hLl : LJ.length ≤ 80200 := by rw [← hLJ, List.length_append]; omega
          rw [hLJ] at hown
          obtain ⟨lj, hlj⟩ : ∃ l, LJ.length = l := ⟨_, rfl⟩
          rw [hlj] at hown hLl
          obtain ⟨aj, cj, rfl, hbsj⟩ := Bs.of_own hown
          cases whole with
          | false =>
            have HE := Lib.hid (show encB h rs false = LJ by unfold encB; rw [HPR.out, hLJ]; simp)
            have dl2 : decide ((1048576 : Int) < (lj : Int)) = false := by simp; omega
            have HLJ := Lib.hid hlj
            have HOW := Lib.hid (ownsRow_mono2 (b' := w.heap.size) hown (by omega))
            clear hown hbsj hLJ hlj hszz
            go_wp2_with fail
            go_ret2
            exact Or.inr ⟨by omega, _, rfl, by rw [HE.out, HLJ.out]; exact HOW.out, hbx⟩
          | true =>
            have HE := Lib.hid (show encB h rs true = LJ ++ frame [3] by unfold encB; rw [HPR.out, hLJ]; simp)
            have HJ := Lib.hid hbsj
            have HLx := Lib.hid (HL.out.below hbx)
            clear hown hbsj hLJ hszz
            go_wp2_with fail
            refine (Append_any aj none lj cj 0 0 LJ ⟨3, 0, 0, 0, 0, 0, []⟩ (by omega) (by omega) _ HJ.out ⟨rfl, Nat.le_refl _, by simp [maxLen], fun _ => rfl, Cells.nil _ _⟩ HLx.out).mono ?_
            rintro e w2 ⟨v2, rfl, hown2, hb2⟩
            have hz : ckR ⟨3, 0, 0, 0, 0, 0, []⟩ = 0 := by decide
            rw [hz]
            rw [if_pos hz] at hown2
            have hpe : pay ⟨3, 0, 0, 0, 0, 0, []⟩ = [3] := by unfold pay; rw [if_neg (by decide), if_neg (by decide)]; exact uenc_small (by decide)
            rw [hpe, ← HE.out] at hown2
            have hf3 : (frame [3]).length ≤ 100 := by unfold frame; rw [uenc_small (by decide)]; simp [le4]
            have hll : (encB h rs true).length ≤ 90000 := by rw [HE.out, List.length_append, hlj]; omega
            obtain ⟨le, hle⟩ : ∃ l, (encB h rs true).length = l := ⟨_, rfl⟩
            rw [hle] at hown2 hll
            obtain ⟨a2, c2', rfl, hbs2⟩ := Bs.of_own hown2
            have dl2 : decide ((1048576 : Int) < (le : Int)) = false := by simp; omega
            have HLE := Lib.hid hle
            have HOW := Lib.hid (ownsRow_mono2 (b' := w.heap.size) hown2 (by omega))
            have hend := hbx.trans (hb2.mono hbx.size)
            clear hown2 hbs2 hb2 hle hlj
            go_wp2_with fail
            go_ret2
            exact Or.inr ⟨by omega, _, rfl, by rw [HLE.out]; exact HOW.out, hend⟩
end Go.Proofs.YtkgdogccnkjcgaaDoor
