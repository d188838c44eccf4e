/-
  The law TokenScans of chapter 3 holds of the given program at every input that can be read (the card's tied claim).
-/
import Derived.Test.YthcagbplolcbpaaDoorTlP
import Derived.Test.YthcagbplolcbpaaDoorLaidU
import Derived.ChangeMaps5
import Derived.Test.YthcagbplolcbpaaDoorTie
import Derived.Test.YthcagbplolcbpaaDoorCards
namespace Go.Proofs.YthcagbplolcbpaaDoor.tokenScans
open Go.ChangeShapes Go.WideShapes Go.ChangeAt Go.RowKit
set_option linter.unusedVariables false

set_option linter.unusedVariables false
set_option linter.unusedSimpArgs false

/-- what a scan gives, as its three results -/
def scR (l : Bt) : List Tk × Int × Int :=
  if 65536 < l.length then ([], 0, 5) else match (scan l).1 with
  | none => ([], (scan l).2, 6)
  | some ts => (ts, 0, 0)
theorem tks_none (w : World) (a : Option Addr) : Tks w a [] := fun j x h => by simp at h
theorem scR_post {l : Bt} {w : World} {e : Ending} {w' : World} (h : ScanPost l w e w') : ∃ a cap, e = .returned (.tuple #[.slice a (scR l).1.length cap, .int .i64 (scR l).2.1, .int .i64 (scR l).2.2]) ∧ Tks w' a (scR l).1 ∧ Below w.heap.size w w' := by
  obtain ⟨hb, h⟩ := h
  unfold scR
  rcases h with ⟨h, rfl⟩ | ⟨h, h1, rfl⟩ | ⟨h, ts, v, h1, rfl, hown⟩
  · rw [if_pos h]; exact ⟨none, 0, rfl, tks_none _ _, hb⟩
  · rw [if_neg (by omega), h1]; exact ⟨none, 0, rfl, tks_none _ _, hb⟩
  · rw [if_neg (by omega), h1]
    obtain ⟨a, cap, rfl, _, _, _, hts, _⟩ := Tks.of_own hown
    exact ⟨a, cap, rfl, hts, hb⟩
theorem scR_facts (l : Bt) : (scR l).1.length ≤ l.length + 1 ∧ tkLen 1 (scR l).1 ≤ 2 * l.length + 1 := by
  unfold scR
  split
  · simp [tkLen]
  · split
    · simp [tkLen]
    · rename_i ts h
      have := scan_facts (l := l) (ts := ts) (y := (scan l).2) (by rw [← h])
      exact ⟨this.1, this.2.1⟩
/-- bytes as a string -/
def btOf (ys : List Nat) : Bt := ys.map UInt8.ofNat
theorem conv_back {w : World} {a : Option Addr} {m cap : Nat} {ys : List Nat} (h : Bs w a m cap ys) (hy : Byt ys) : (convert 22 9 (.slice a m cap)).run Tryd.prog w = .ok (.string (st (btOf ys))) w := by
  obtain ⟨h1, h2, h3, h4, h5⟩ := h
  have hl : (btOf ys).length = m := by unfold btOf; rw [List.length_map]; exact h1
  rcases Nat.eq_zero_or_pos m with h0 | h0
  · have hr0 : btOf ys = [] := List.eq_nil_of_length_eq_zero (by omega)
    rw [hr0, h0]
    cases a with
    | none => exact Lib.run_convert_nil_bytes w 22 9 5 cap Tryd.underlying22 Tryd.underlying5 Tryd.underlying9
    | some x => exact run_convert_bytes_back w 22 9 5 x cap [] Tryd.underlying22 Tryd.underlying5 Tryd.underlying9 (fun j hj => absurd hj (by simp))
  · obtain ⟨b, off, e, hb, hc⟩ := h5 (fun e => by
      have := congrArg List.length e
      simp at this
      subst this
      simp at h1; omega)
    subst e
    have h := run_convert_bytes_back w 22 9 5 ⟨b, off, none⟩ cap (btOf ys) Tryd.underlying22 Tryd.underlying5 Tryd.underlying9 (fun j hj => by
      have hjy : j < ys.length := by omega
      have := hc j _ (byts_get ys j hjy)
      have e : (⟨b, off, none⟩ : Addr).add j = ⟨b, off + j, none⟩ := by unfold Addr.add; split <;> simp_all
      rw [e, this]
      have key : (btOf ys)[j] = UInt8.ofNat ys[j] := by unfold btOf; exact List.getElem_map _
      rw [key]
      have hyj := hy.get j
      simp [List.getD, hjy] at hyj ⊢
      omega)
    rw [hl] at h
    exact h
theorem conv_to (T : Bt) (W : World) : (convert 9 22 (.string (st T))).run Tryd.prog W = .ok (.slice (some ⟨W.heap.size, 0, none⟩) T.length (grownCap W T.length 0 5)) (Lib.bytesWorld W 5 (st T)) :=
  Lib.run_convert_string_bytes W 9 22 5 (st T) Tryd.underlying9 Tryd.underlying22 Tryd.underlying5
theorem bytes_below (w : World) (t : TypeId) (s : ByteArray) : Below w.heap.size w (Lib.bytesWorld w t s) :=
  { os := rfl, tape := rfl, output := rfl, size := by rw [Lib.bytesWorld_size]; omega, block := fun k hk => Lib.bytesWorld_at_old w t s k hk }
theorem bytes_bs (w : World) (T : Bt) (hT : T.length ≤ 40000) : Bs (Lib.bytesWorld w 5 (st T)) (some ⟨w.heap.size, 0, none⟩) T.length (grownCap w T.length 0 5) (T.map (·.toNat)) := by
  have hs : T.length ≤ grownCap w T.length 0 5 := grownCap_ge _ _ _ _
  have hm : grownCap w T.length 0 5 ≤ maxLen := grownCap_le_maxLen _ _ _ _ (by unfold maxLen; omega)
  refine ⟨by simp, hs, hm, (fun e => by cases e), fun _ => ⟨_, _, rfl, by rw [Lib.bytesWorld_size]; omega, fun j u hj => ?_⟩⟩
  rw [Nat.zero_add]
  have hjl := (List.getElem?_eq_some_iff.1 hj).1
  simp at hjl
  have h := Lib.bytesWorld_cell w 5 (st T) j (by show j < T.length; exact hjl)
  rw [h]
  rw [← hj]
  simp [List.getD, hjl]
set_option maxRecDepth 100000 in
set_option maxHeartbeats 8000000 in
theorem walk (a0 : Option Addr) (len0 cap0 : Nat) (z0 : List Int) (s : ByteArray) (w : World) (w0 : InInts .u8 w a0 len0 cap0 z0) (w1 : s.size ≤ maxLen) (hw : Lad w) :
    Calls Tryd.prog 5 #[.slice a0 len0 cap0, .string s] w fun e w' => e = .returned (.bool true) ∧ Below w.heap.size w w' := by
  have HI := Lib.hid w0
  have HW := Lib.hid hw
  unfold maxLen at w1
  clear w0 hw
  obtain ⟨S, rfl⟩ := st_data' s
  by_cases hbig : 500 < S.length
  · have d0 : decide ((500 : Int) < (S.length : Int)) = true := by rw [decide_eq_true_iff]; omega
    have d1 : decide (500 < S.length) = true := by rw [decide_eq_true_iff]; omega
    clear hbig
    go_enter Tryd.func5, Tryd.ntmps5
    go_wp2_with fail
    refine (awake_any w HW.out).mono ?_
    rintro e w2 ⟨rfl, hb2⟩
    go_wp2_with fail
    go_ret
    exact ⟨rfl, hb2⟩
  have d0 : decide ((500 : Int) < (S.length : Int)) = false := by rw [decide_eq_false_iff_not]; omega
  have d1 : decide (500 < S.length) = false := by rw [decide_eq_false_iff_not]; omega
  have HSZ : Hid (S.length ≤ 500) := Lib.hid (by omega)
  clear hbig w1
  go_enter Tryd.func5, Tryd.ntmps5
  go_wp2_with fail
  refine (awake_any w HW.out).mono ?_
  rintro e w2 ⟨rfl, hb2⟩
  have HB2 := Lib.hid hb2
  have HI2 := Lib.hid (HI.out.below hb2)
  clear hb2
  go_wp2_with fail
  refine (New_any a0 len0 cap0 z0 300 (by omega) (by omega) _ HI2.out).mono ?_
  rintro e w3 ⟨gc, rfl, hgc, hcod, hb3⟩
  have HGC : Hid (w.heap.size ≤ gc) := Lib.hid (by have := HB2.out.size; omega)
  have HG3 := Lib.hid (grownBy_of_below (HB2.out.trans (hb3.mono HB2.out.size)) (some gc))
  have HC3 := Lib.hid hcod
  clear hgc hcod hb3 HI2
  go_wp2_with fail
  refine (Text_any gc _ HC3.out).mono ?_
  rintro e w4 ⟨wx, gs, fs, Fs, aa, ca, ab, cb, rfl, hc4, hg4, hs4⟩
  have hTl := hs4.len
  have hTn : 0 < (fmtP gs Fs).length := by
    obtain ⟨ys, ln, h1, _, _, _, h2⟩ := hs4.scan
    rcases Nat.eq_zero_or_pos (fmtP gs Fs).length with h0 | h0
    · rw [List.eq_nil_of_length_eq_zero h0] at h1
      have : scan [] = (some [⟨0, 1, 0, []⟩], 0) := rfl
      rw [this] at h1
      injection h1 with h1 _
      injection h1 with h1
      cases ys with
      | nil => exact absurd rfl h2
      | cons y ys => simp at h1
    · exact h0
  obtain ⟨T, hT⟩ : ∃ T, fmtP gs Fs = T := ⟨_, rfl⟩
  rw [hT] at hTl hTn ⊢
  have HG4 := Lib.hid (grownBy_trans HG3.out hg4)
  have HC4 := Lib.hid hc4
  clear hT hs4 hc4 hg4
  go_wp2_with fail
  refine (OddText_any gc _ HC4.out).mono ?_
  rintro e w5 ⟨L, rfl, hL, hc5, hg5⟩
  have HG5 := Lib.hid (grownBy_trans HG4.out hg5)
  have HC5 := Lib.hid hc5
  clear hc5 hg5
  have hsz := HSZ.out
  have hst := st_app
  have kc := conv_to T
  go_wp2_with fail
  have hgw5 := HC5.out.lt
  have hbb := bytes_below w5 5 (st T)
  refine (Spoilt_any gc _ T.length _ (T.map (·.toNat)) (by omega) (fun x hx => by
    rw [List.mem_map] at hx
    obtain ⟨b, _, rfl⟩ := hx
    exact b.toNat_lt) _ (HC5.out.below hbb hgw5) (bytes_bs w5 T (by omega)) (fun x e => by injection e with e; subst e; show w5.heap.size ≠ gc; omega)).mono ?_
  rintro e w6 ⟨ay, m, cy, ys, rfl, hys, hyb, hml, hc6, hg6⟩
  have kc2 := conv_back hys hyb
  have hYl : (btOf ys).length ≤ 40000 := by unfold btOf; rw [List.length_map, hys.1]; omega
  obtain ⟨Y, hY⟩ : ∃ Y, btOf ys = Y := ⟨_, rfl⟩
  rw [hY] at kc2 hYl
  have HBB6 : Hid (Below w.heap.size w w6) := Lib.hid ((Below.refl w.heap.size w).grown (grownBy_trans HG5.out (grownBy_trans (grownBy_of_below hbb _) hg6)) (Nat.le_refl _) (fun k e => by injection e with e; have := HGC.out; omega))
  clear hys hyb hml hc6 hg6 hbb hgw5 hY HC5 HG5 HC4 HG4 HC3 HG3
  have hb7 := below_alloc w6 (.cells #[.string (st S), .string (st T), .string (st L), .string (st (T ++ S)), .string (st (S ++ 10 :: S)), .string (st Y)] 9)
  have hr7 := heap_alloc_new w6 (.cells #[.string (st S), .string (st T), .string (st L), .string (st (T ++ S)), .string (st (S ++ 10 :: S)), .string (st Y)] 9)
  go_upto_region 6 with fail
  obtain ⟨w7, hw7⟩ : ∃ W, w6.alloc (.cells #[.string (st S), .string (st T), .string (st L), .string (st (T ++ S)), .string (st (S ++ 10 :: S)), .string (st Y)] 9) = W := ⟨_, rfl⟩
  obtain ⟨gt, hgt⟩ : ∃ x, w6.heap.size = x := ⟨_, rfl⟩
  rw [hw7] at hb7 hr7 ⊢
  rw [hgt] at hr7
  (try rw [hgt])
  have HB7 := Lib.hid (HBB6.out.trans (hb7.mono HBB6.out.size))
  have HTAB : Hid (∀ i : Nat, i < 6 → ∃ X : Bt, X.length ≤ 40000 ∧ ∀ W, Below w7.heap.size w7 W → W.cell? ⟨gt, i, none⟩ = some (.string (st X))) := Lib.hid (fun i hi => by
    have hs2 := HSZ.out
    have : i = 0 ∨ i = 1 ∨ i = 2 ∨ i = 3 ∨ i = 4 ∨ i = 5 := by omega
    rcases this with rfl | rfl | rfl | rfl | rfl | rfl
    · exact ⟨S, by omega, fun W hW => (cell_of_row W gt 0 _ _ _ ((hW.block gt (heap_lt hr7)).trans hr7)).trans rfl⟩
    · exact ⟨T, by omega, fun W hW => (cell_of_row W gt 1 _ _ _ ((hW.block gt (heap_lt hr7)).trans hr7)).trans rfl⟩
    · exact ⟨L, hL, fun W hW => (cell_of_row W gt 2 _ _ _ ((hW.block gt (heap_lt hr7)).trans hr7)).trans rfl⟩
    · exact ⟨T ++ S, by rw [List.length_append]; omega, fun W hW => (cell_of_row W gt 3 _ _ _ ((hW.block gt (heap_lt hr7)).trans hr7)).trans rfl⟩
    · exact ⟨S ++ 10 :: S, by rw [List.length_append, List.length_cons]; omega, fun W hW => (cell_of_row W gt 4 _ _ _ ((hW.block gt (heap_lt hr7)).trans hr7)).trans rfl⟩
    · exact ⟨Y, hYl, fun W hW => (cell_of_row W gt 5 _ _ _ ((hW.block gt (heap_lt hr7)).trans hr7)).trans rfl⟩)
  clear hw7 hb7 hr7 hgt HBB6 hL hYl kc kc2 hTl hTn hsz
  go_loopw [48] (fun v48 wr => ∃ i : Nat, i ≤ 6 ∧ v48 = .int .i64 i ∧ Hid (Below w7.heap.size w7 wr)) (fun v48 _ => 6 - (intOf v48).toNat)
  case atStart => exact ⟨0, by omega, rfl, Lib.hid (Below.refl _ _)⟩
  case round =>
    rename World => wa
    obtain ⟨i, hi, rfl, HR⟩ := hrel
    by_cases hlt : i < 6
    · obtain ⟨X, hX, hXc⟩ := HTAB.out i hlt
      have hc := hXc _ HR.out
      have HLW := Lib.hid (HW.out.below (HB7.out.trans (HR.out.mono HB7.out.size)))
      have HXL := Lib.hid hX
      clear hXc hX
      go_wp2_with fail
      refine (Scan_any (st X) (by have := HXL.out; show X.length ≤ _; omega) _ HLW.out).mono ?_
      rintro e w8 hp
      have ed : (st X).data.toList = X := by simp
      rw [ed] at hp
      obtain ⟨al, cl, rfl, htl, hb8⟩ := scR_post hp
      have HR8 := Lib.hid (HR.out.trans (hb8.mono HR.out.size))
      have HTL := Lib.hid htl
      clear hp hb8 htl ed
      obtain ⟨f1, f2⟩ := scR_facts X
      obtain ⟨⟨ts, n, er⟩, hsc⟩ : ∃ x, scR X = x := ⟨_, rfl⟩
      have HSC := Lib.hid hsc
      rw [hsc] at f1 f2 HTL ⊢
      dsimp only at f1 f2 HTL ⊢
      have HF : Hid (ts.length ≤ 40001 ∧ tkLen 1 ts ≤ 80001) := Lib.hid (by have := HXL.out; omega)
      clear hsc f1 f2
      go_wp2_with fail
      refine (RScan_any (st X) (by have := HXL.out; show X.length ≤ _; omega) _).mono ?_
      rintro e w9 hp
      have ed : (st X).data.toList = X := by simp
      rw [ed] at hp
      obtain ⟨ar, cr, rfl, htr, hb9⟩ := scR_post hp
      have HR9 := Lib.hid (HR8.out.trans (hb9.mono HR8.out.size))
      have HTL9 := Lib.hid (HTL.out.below hb9)
      rw [HSC.out] at htr ⊢
      dsimp only at htr ⊢
      have HTR := Lib.hid htr
      clear hp hb9 htr HTL HR8 ed hc
      go_wp2_with fail
      refine (Same_true ts ts true rfl (by have := HF.out; omega) (fun j x y hx hy => by
        rw [hx] at hy; injection hy with hy; subst hy; exact ⟨rfl, rfl, rfl, fun _ => rfl⟩) _ _ _ cl cr HTL9.out HTR.out).mono ?_
      rintro e w10 ⟨rfl, hb10⟩
      have HR10 := Lib.hid (HR9.out.trans (hb10.mono HR9.out.size))
      have HTR10 := Lib.hid (HTR.out.below hb10)
      clear hb10 HTL9 HTR HR9
      obtain ⟨nt, hnt⟩ : ∃ nt, ts.length = nt := ⟨_, rfl⟩
      rw [hnt] at HF ⊢
      have HNT := Lib.hid hnt
      have hnt4 : nt ≤ 40001 := HF.out.1
      clear hnt
      go_upto_block 2 with fail
      go_wp2_with fail
      go_loopw [15] (fun v15 wr => ∃ j : Nat, j ≤ nt ∧ v15 = .int .i64 j ∧ Hid (Below w10.heap.size w10 wr)) (fun v15 _ => nt - (intOf v15).toNat)
      case atStart => exact ⟨0, by omega, rfl, Lib.hid (Below.refl _ _)⟩
      case round =>
        rename World => wb
        obtain ⟨j, hj, rfl, HS⟩ := hrel
        by_cases hltj : j < nt
        · obtain ⟨x, hx⟩ := tk_get ts j (by rw [HNT.out]; exact hltj)
          obtain ⟨b, off, rfl, hbl, k0, k1, k2, k3⟩ := (HTR10.out.below HS.out) j x hx
          clear k0 k1 k2 hx
          go_upto_region 15 with fail
          refine wp_region_below (by kernel_rfl) (by kernel_rfl) ?_
          have m3 : ∀ y : Since wb, y.val.cell? ⟨b, off + j * 4 + 3, none⟩ = some (.string (st x.t)) := fun y => y.cell k3
          repeat (go_big_quiet_step ((first | (go_at_call 17; exact calls_since_same _ (Word_st x.t _)) | (go_at_call 18; exact calls_since _ (RWord_any x.t _)) | (go_at_call 19; exact calls_since_same _ (Sign_st x.t _)) | (go_at_call 20; exact calls_since _ (RSign_any x.t _)))))
          refine wpQuiet_nil ?_
          intro wc hbc
          clear m3
          go_wp2_with fail
          go_roundw
          case rel => exact ⟨j + 1, by omega, by go_num, Lib.hid (HS.out.trans (hbc.mono HS.out.size))⟩
          case measure => simp [intOf]; omega
        · obtain rfl : j = nt := by omega
          have HRB := Lib.hid (HR10.out.trans (HS.out.mono HR10.out.size))
          have HTB := Lib.hid (HTR10.out.below HS.out)
          have HJ1 : Hid (∀ W, Tks W ar ts → Calls Tryd.prog 21 #[.slice ar j cr] W fun e w' => e = .returned (.string (st (joinB (nonE ts)))) ∧ Below W.heap.size W w') := Lib.hid (fun W hW => by
            have := FJoin_any ts (by have := HF.out; omega) W ar cr (by have := HF.out; have := HNT.out; omega) hW
            rw [HNT.out] at this
            exact this)
          have HJ2 : Hid (∀ W, Tks W ar ts → Calls Tryd.prog 22 #[.slice ar j cr] W fun e w' => e = .returned (.string (st (joinB (nonE ts)))) ∧ Below W.heap.size W w') := Lib.hid (fun W hW => by
            have := RJoin_any ts (by have := HF.out; omega) W ar cr (by have := HF.out; have := HNT.out; omega) hW
            rw [HNT.out] at this
            exact this)
          obtain ⟨J, hJ⟩ : ∃ J, joinB (nonE ts) = J := ⟨_, rfl⟩
          rw [hJ] at HJ1 HJ2
          clear hJ
          go_wp2_with fail
          refine (HJ1.out _ HTB.out).mono ?_
          rintro e w11 ⟨rfl, hb11⟩
          go_wp2_with fail
          refine (HJ2.out _ (HTB.out.below hb11)).mono ?_
          rintro e w12 ⟨rfl, hb12⟩
          have HRC := Lib.hid ((HRB.out.trans (hb11.mono HRB.out.size)).trans (hb12.mono (Nat.le_trans HRB.out.size hb11.size)))
          clear hb11 hb12
          go_wp2_with fail
          go_roundw
          case rel => exact ⟨i + 1, by omega, by go_num, HRC⟩
          case measure => simp [intOf]; omega
    · obtain rfl : i = 6 := by omega
      have HWW := Lib.hid (HB7.out.trans (HR.out.mono HB7.out.size))
      go_wp2_with fail
      refine (Word_st S _).mono ?_
      rintro e w8 ⟨rfl, rfl⟩
      go_wp2_with fail
      refine (RWord_any S _).mono ?_
      rintro e w9 ⟨rfl, hb9⟩
      cases hWd : isW S
      · go_wp2_with fail
        refine (Sign_st S _).mono ?_
        rintro e w10 ⟨rfl, rfl⟩
        go_wp2_with fail
        refine (RSign_any S _).mono ?_
        rintro e w11 ⟨rfl, hb11⟩
        go_wp2_with fail
        go_ret
        exact ⟨by simp, HWW.out.trans ((hb9.mono HWW.out.size).trans (hb11.mono (Nat.le_trans HWW.out.size hb9.size)))⟩
      · go_wp2_with fail
        refine (Sign_st S _).mono ?_
        rintro e w10 ⟨rfl, rfl⟩
        go_wp2_with fail
        refine (RSign_any S _).mono ?_
        rintro e w11 ⟨rfl, hb11⟩
        go_wp2_with fail
        go_ret
        exact ⟨by simp, HWW.out.trans ((hb9.mono HWW.out.size).trans (hb11.mono (Nat.le_trans HWW.out.size hb9.size)))⟩

/-! ### THE ROW's STEP -/
set_option maxRecDepth 100000 in
theorem lifted (os : Os) (started : os.Started) (H : Type) (enc : TypeId × Value → H) :
    ReturnsInHanded {} Tryd.checked os 5 .any (fun w args => (Rows.tokenScansSpec.pre enc Tryd.prog Tryd.f5 [] false w args ∧ laidMetH Tryd.prog [("math/bits.deBruijn32tab", Rows.laid_math_bits_deBruijn32tab), ("math/bits.deBruijn64tab", Rows.laid_math_bits_deBruijn64tab), ("internal/strconv.uint64pow10", Rows.laid_internal_strconv_uint64pow10), ("strconv.ErrRange", Rows.laid_strconv_ErrRange), ("strconv.ErrSyntax", Rows.laid_strconv_ErrSyntax)] w) ∧ sizedMet enc Tryd.prog Tryd.f5 (OpenSpec.ofChange Rows.tokenScansSpec) false w args)
      (Rows.tokenScansSpec.post enc Tryd.prog Tryd.f5 false true false false) := by
  refine returnsInHanded_of_change_and (C := Tryd.checked) (X := fun w _ => laidMetH Tryd.prog [("math/bits.deBruijn32tab", Rows.laid_math_bits_deBruijn32tab), ("math/bits.deBruijn64tab", Rows.laid_math_bits_deBruijn64tab), ("internal/strconv.uint64pow10", Rows.laid_internal_strconv_uint64pow10), ("strconv.ErrRange", Rows.laid_strconv_ErrRange), ("strconv.ErrSyntax", Rows.laid_strconv_ErrSyntax)] w) (fun _ _ _ hh h => h.of_heap hh) ownLd started (by kernel_rfl) Tryd.func5
    (ChangeSpec.witness_shaped (enc := enc) (C := Tryd.checked) (os := os) (X := fun w _ => laidMetH Tryd.prog [("math/bits.deBruijn32tab", Rows.laid_math_bits_deBruijn32tab), ("math/bits.deBruijn64tab", Rows.laid_math_bits_deBruijn64tab), ("internal/strconv.uint64pow10", Rows.laid_internal_strconv_uint64pow10), ("strconv.ErrRange", Rows.laid_strconv_ErrRange), ("strconv.ErrSyntax", Rows.laid_strconv_ErrSyntax)] w) false (World.doorLaid Tryd.prog 400 os) #[.slice none 0 0, .string ⟨#[]⟩] 8 rfl (World.shaped_of_RefB (by kernel_rfl) (by kernel_rfl)) (by kernel_rfl) (by kernel_rfl) (by kernel_rfl) (door_met os _)) ?_
  intro W base args ds gs before hval0 hW _ _ hL _
  have hval : ∀ (j : Nat) t v, Tryd.f5.params[j]? = some t → args[j]? = some v → Value.okWide Tryd.prog W .any base t v := hval0
  have hW' := hW
  obtain ⟨p, q, hA0, hV, rfl, hfz, hnd⟩ := hW
  have hA : DataW.TrodAll enc Tryd.prog W 0 (fun _ => true) true Tryd.f5.params.toList args.toList ds p := hA0
  rw [Tryd.params5] at hA hval
  obtain ⟨v0, vs0, d0, ds0, p0, q0, hargs, rfl, rfl, h0, r0⟩ := trodAll_cons hA
  obtain ⟨v1, vs1, d1, ds1, p1, q1, rfl, rfl, rfl, h1, r1⟩ := trodAll_cons r0
  obtain ⟨rfl, rfl, rfl⟩ := trodAll_nil r1
  obtain rfl : args = #[v0, v1] := by cases args; simp_all
  obtain ⟨rfl, rfl⟩ := trodVars_none hV
  have k0 := h0
  have lt0 : ∀ x ∈ p0, x.block < W.heap.size := by obtain ⟨m, hm⟩ := k0; exact DataW.trod_lt m _ _ _ hm
  obtain ⟨a0, len0, cap0, zs0, rfl, w0⟩ := in_ints (k := .u8) Tryd.underlying22 Tryd.underlying5 (by kernel_rfl) (hval 0 22 v0 rfl rfl) h0
  obtain ⟨s1, rfl, rfl, rfl, w1⟩ := Go.ChangeMaps.open_string Tryd.underlying9 (hval 1 9 v1 rfl rfl) h1
  clear hA0 hval0
  refine (walk a0 len0 cap0 zs0 s1 W w0 w1 (of_laid hL)).mono fun e W' ⟨he, bel⟩ => ?_
  subst he
  exact ⟨_, rfl, _, _, _, [], _, [], hW', trodAll_mk1 (shut_bool Tryd.underlying4 _), (trodAll_cons_mk (Below.trod laidOut (by kernel_rfl) (of_decide_eq_true (by kernel_rfl)) k0 bel lt0) (trodAll_cons_mk (Go.ChangeMaps.shut_string Tryd.underlying9 w1) trodAll_mk0)), rfl, bel.frame _, fun h => by cases h⟩

theorem over : Rows.TokenScansSaid :=
  OpenClaim.holds_of_wide 5 Tryd.f5 rfl rfl rfl rfl rfl rfl rfl ⟨rfl, rfl, rfl, rfl, rfl⟩ rfl rfl rfl rfl rfl (by kernel_rfl) Tryd.func5 (by kernel_rfl)
    (of_decide_eq_true (by kernel_rfl)) (by unfold Func.isWrapper; first | (rw [if_pos (by decide +kernel)]; kernel_rfl) | (rw [if_neg (by decide +kernel)]; exact ⟨rfl, rfl⟩))
    (fun os started H enc _ => lifted os started H enc)

/-- the tied card -/
theorem proved : Rows.TokenScansCardSaid :=
  Claim7.holds_tied_plain_at .later [] [.data, .data, .data, .sentinel, .sentinel] true (true, "62c0e0e96b186542d320bd5fe24d4da4f1519c46bb236dad17c4b7e9d6b54aa8") true
    over (fun _ h => by cases h) (by kernel_rfl) (fun _ h => by cases h) tokenScans_row_tie rfl ⟨rfl, rfl⟩ (by kernel_rfl) rfl
    (fun f fn hf hfn => by
      obtain rfl : f = 5 := Option.some.inj ((show Tryd.prog.funcNamed "warmpath/warmpathlaw03.TokenScans" = some 5 by kernel_rfl).symm.trans hf) |>.symm
      obtain rfl : fn = Tryd.f5 := (Option.some.inj (Tryd.func5.symm.trans hfn)).symm
      exact ⟨by kernel_rfl, fun j t ht => by
        rw [Tryd.params5] at ht
        have hm : t ∈ [22, 9] := by simpa using Array.mem_of_getElem? ht
        have hall : ([22, 9].all fun u => !Tryd.prog.wantsStandIn u) = true := by kernel_rfl
        exact (show Tryd.prog.wantsStandIn t = false by simpa using List.all_eq_true.1 hall t hm)⟩)
    (by kernel_rfl)
#print axioms proved
end Go.Proofs.YthcagbplolcbpaaDoor.tokenScans
