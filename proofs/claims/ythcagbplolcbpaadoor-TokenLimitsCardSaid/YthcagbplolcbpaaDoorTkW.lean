/-
  WALK of token.Scan. (Filled in from a template of this repo.)
-/
import Derived.Test.YthcagbplolcbpaaDoorTkS
import Derived.Laws.AppendOwn
namespace Go.Proofs.YthcagbplolcbpaaDoor
open Go.ChangeShapes Go.WideShapes Go.ChangeAt Go.RowKit
set_option linter.unusedVariables false
set_option linter.unusedSimpArgs false

theorem Tryd.infoTok : (Tryd.prog.info? 33).map (fun i => (i.zero, i.size, i.bytes)) = some (some (.agg #[.int .i64 0, .int .i64 0, .int .i64 0, .string ⟨#[]⟩]), 4, 40) := by kernel_rfl
def strLen : Value → Nat
  | .string b => b.size
  | _ => 0
/-- what Scan leaves -/
def ScanPost (l : Bt) (w : World) (e : Ending) (w' : World) : Prop := Below w.heap.size w w' ∧
  ((65536 < l.length ∧ e = .returned (.tuple #[.slice none 0 0, .int .i64 0, .int .i64 5])) ∨
   (l.length ≤ 65536 ∧ (scan l).1 = none ∧ e = .returned (.tuple #[.slice none 0 0, .int .i64 (scan l).2, .int .i64 6])) ∨
   (l.length ≤ 65536 ∧ ∃ (ts : List Tk) (v : Value), (scan l).1 = some ts ∧ e = .returned (.tuple #[v, .int .i64 0, .int .i64 0]) ∧ w'.ownsRow w.heap.size 33 4 v ts.length (tkcs ts)))
set_option maxRecDepth 100000 in
set_option maxHeartbeats 4000000 in
theorem Scan_any (s : ByteArray) (hs : s.size ≤ 281474976710656) (w : World) (hw : Lad w) : Calls Tryd.prog 9 #[.string s] w (ScanPost s.data.toList w) := by
  have HW := Lib.hid hw
  clear hw
  by_cases hbig : 65536 < s.size
  · have d0 : decide ((65536 : Int) < (s.size : Int)) = true := by rw [decide_eq_true_iff]; omega
    have HBG := Lib.hid hbig
    clear hbig
    go_enter Tryd.func9, Tryd.ntmps9
    go_wp2_with fail
    refine bodyPost_ret (v := .tuple #[.slice none 0 0, .int .i64 0, .int .i64 5]) (by simp [results, Tryd.results9, go_sem]) rfl ?_
    exact ⟨Below.refl _ _, .inl ⟨HBG.out, rfl⟩⟩
  have d0 : decide ((65536 : Int) < (s.size : Int)) = false := by rw [decide_eq_false_iff_not]; omega
  have hs2 : s.size ≤ 65536 := by omega
  have HFIN : Hid (∀ (e : Ending) (w' : World), Below w.heap.size w w' → (((scan s.data.toList).1 = none ∧ e = .returned (.tuple #[.slice none 0 0, .int .i64 (scan s.data.toList).2, .int .i64 6])) ∨ (∃ (ts : List Tk) (v : Value), (scan s.data.toList).1 = some ts ∧ e = .returned (.tuple #[v, .int .i64 0, .int .i64 0]) ∧ w'.ownsRow w.heap.size 33 4 v ts.length (tkcs ts))) → ScanPost s.data.toList w e w') := Lib.hid (fun e w' hb h => ⟨hb, by
    rcases h with h | h
    · exact .inr (.inl ⟨hs2, h⟩)
    · exact .inr (.inr ⟨hs2, h⟩)⟩)
  clear hbig
  obtain ⟨i0, hi0, hz0, hz1, hz2⟩ := info_parts Tryd.infoTok
  have HI := Lib.hid hi0
  have HZ0 := Lib.hid hz0
  have HZ1 := Lib.hid hz1
  have HZ2 := Lib.hid hz2
  clear hi0 hz0 hz1 hz2
  go_enter Tryd.func9, Tryd.ntmps9
  go_upto_region 4 with fail
  go_loopw [0, 2, 3] (fun v0 v2 v3 wr => ∃ (x : ByteArray) (ln : Int) (acc : List Tk), v0 = .string x ∧ v3 = .int .i64 ln ∧ x.size ≤ s.size ∧ 1 ≤ ln ∧ ln + x.size ≤ 65537 ∧ acc.length + x.size ≤ 65536 ∧ Hid (scan s.data.toList = scI x.size acc x.data.toList ln) ∧ Hid (Below w.heap.size w wr ∧ wr.ownsRow w.heap.size 33 4 v2 acc.length (tkcs acc))) (fun v0 _ _ _ => strLen v0)
  case atStart => exact ⟨s, 1, [], rfl, rfl, by omega, by omega, by omega, by simp; omega, Lib.hid rfl, Lib.hid ⟨Below.refl _ _, World.ownsRow_nil _ _ _ _⟩⟩
  case round =>
    obtain ⟨x, ln, acc, rfl, rfl, hx, hl1, hl2, hac, HS, HR⟩ := hrel
    cases hx0 : x.data.toList with
    | nil =>
      have hemp : x.toList.isEmpty = true := by rw [toList_bytes, hx0]; rfl
      have HE : Hid (scan s.data.toList = (some (acc ++ [⟨0, ln, 0, []⟩]), 0)) := Lib.hid (by rw [HS.out, hx0, scI_nil])
      have HOA := Lib.hid (HR.out.2.alloc (.cells #[.int .i64 0, .int .i64 ln, .int .i64 0, .string ⟨#[]⟩] 33))
      have hbA := HR.out.1.alloc HR.out.1.size (.cells #[.int .i64 0, .int .i64 ln, .int .i64 0, .string ⟨#[]⟩] 33)
      have HBA := Lib.hid hbA
      have hsz := HR.out.1.size
      clear hx0 hbA
      go_wp2_with (at_builtin; refine wpList_append_own _ rfl _ _ _ rfl w.heap.size 33 i0 _ 4 40 Tryd.underlying26 HI.out HZ0.out HZ1.out HZ2.out rfl (by omega) _ _ _ rfl HOA.out ⟨wr.heap.size, 0, none⟩ 1 1 [.int .i64 0, .int .i64 ln, .int .i64 0, .string ⟨#[]⟩] rfl rfl (World.news_of_block (cs := #[.int .i64 0, .int .i64 ln, .int .i64 0, .string ⟨#[]⟩]) (t := 33) (fr := (0, 0)) (heap_alloc_new wr _)) (by simp [Value.oneCell']) (by unfold maxLen; omega) (by omega) (by simp; omega) ?_; intro v' w9 hown9 hgrow9 _; have HO9 := Lib.hid hown9; have HG9 := Lib.hid hgrow9; clear hown9 hgrow9)
      refine bodyPost_ret (v := .tuple #[v', .int .i64 0, .int .i64 0]) (by simp [results, Tryd.results9, go_sem]) rfl ?_
      refine HFIN.out _ _ (HBA.out.grown HG9.out HBA.out.size (fun k hk => (HOA.out.lt k hk).1)) (.inr ⟨acc ++ [⟨0, ln, 0, []⟩], v', by rw [HE.out], rfl, ?_⟩)
      have := HO9.out
      rw [← tkcs_push]
      simpa using this
    | cons b r =>
      have hxs : x.size = r.length + 1 := by rw [← st_len, hx0]; rfl
      have hpos : 0 < x.size := by omega
      have hemp : x.toList.isEmpty = false := by rw [toList_bytes, hx0]; rfl
      have hb0 : x[0] = b := by
        have := st_get x 0 hpos
        rw [hx0] at this
        simp at this
        exact this.symm
      have HX0 := Lib.hid hx0
      have HSK : Hid (∀ (y : ByteArray) (k : Nat) (d l2 : Int), l2 = ln + d → y = x.extract k x.size → k ≤ x.size → stepI ln b r = .skip k d → 0 ≤ d → d ≤ 1 → (∃ (x_1 : ByteArray) (ln_1 : Int) (acc : List Tk), Value.string y = .string x_1 ∧ Value.int .i64 l2 = .int .i64 ln_1 ∧ x_1.size ≤ s.size ∧ 1 ≤ ln_1 ∧ ln_1 + x_1.size ≤ 65537 ∧ acc.length + x_1.size ≤ 65536 ∧ Hid (scan s.data.toList = scI x_1.size acc x_1.data.toList ln_1) ∧ Hid (Below w.heap.size w wr ∧ wr.ownsRow w.heap.size 33 4 u2 acc.length (tkcs acc))) ∧ strLen (.string y) < x.size) := Lib.hid (fun y k d l2 hl hy hk hst hd0 hd1 => by
        subst hl
        have hyl : y.data.toList = (b :: r).drop k := by rw [hy, ext_end, HX0.out]
        have hk1 := step_pos hst
        have hys : y.size = x.size - k := by rw [← st_len, hyl, List.length_drop]; simp; omega
        refine ⟨⟨y, ln + d, acc, rfl, rfl, by omega, by omega, by omega, by omega, Lib.hid ?_, HR⟩, by show y.size < _; omega⟩
        rw [HS.out]
        exact sc_skip HX0.out hst hyl)
      clear hxs
      by_cases h10 : b.toNat = 10
      · have d10 : ((b.toNat : Int) == 10) = true := by rw [beq_iff_eq]; omega
        have HST : Hid (stepI ln b r = .skip 1 1) := Lib.hid (by unfold stepI; rw [if_pos h10])
        clear h10 hx0
        go_wp2_with fail
        exact HSK.out _ 1 1 _ (by first | rfl | simp) rfl (by omega) HST.out (by omega) (by omega)
      have d10 : ((b.toNat : Int) == 10) = false := by rw [beq_eq_false_iff_ne]; omega
      by_cases h32 : b.toNat = 32
      · have d32 : ((b.toNat : Int) == 32) = true := by rw [beq_iff_eq]; omega
        have HST : Hid (stepI ln b r = .skip 1 0) := Lib.hid (by unfold stepI; rw [if_neg h10, if_pos (.inl h32)])
        clear h10 h32 hx0
        go_wp2_with fail
        exact HSK.out _ 1 0 _ (by simp) rfl (by omega) HST.out (by omega) (by omega)
      have d32 : ((b.toNat : Int) == 32) = false := by rw [beq_eq_false_iff_ne]; omega
      by_cases h9 : b.toNat = 9
      · have d9 : ((b.toNat : Int) == 9) = true := by rw [beq_iff_eq]; omega
        have HST : Hid (stepI ln b r = .skip 1 0) := Lib.hid (by unfold stepI; rw [if_neg h10, if_pos (.inr h9)])
        clear h10 h32 h9 hx0
        go_wp2_with fail
        exact HSK.out _ 1 0 _ (by simp) rfl (by omega) HST.out (by omega) (by omega)
      have d9 : ((b.toNat : Int) == 9) = false := by rw [beq_eq_false_iff_ne]; omega
      by_cases h35 : b.toNat = 35
      · have d35 : ((b.toNat : Int) == 35) = true := by rw [beq_iff_eq]; omega
        have HST : Hid (stepI ln b r = .skip (run nl8 x.data.toList).length 0) := Lib.hid (by unfold stepI; rw [if_neg h10, if_neg (by omega), if_pos h35, hx0])
        have hrl := run_len nl8 x.data.toList
        rw [st_len] at hrl
        clear h10 h32 h9 h35 hx0
        go_wp2_with fail
        refine (run_nonl x (by omega) _).mono ?_
        rintro e w1 ⟨rfl, hw1⟩
        subst hw1
        obtain ⟨t, ht⟩ : ∃ t, run nl8 x.data.toList = t := ⟨_, rfl⟩
        rw [ht] at HST hrl ⊢
        clear ht
        go_wp2_with fail
        exact HSK.out _ _ 0 _ (by simp) rfl hrl HST.out (by omega) (by omega)
      have d35 : ((b.toNat : Int) == 35) = false := by rw [beq_eq_false_iff_ne]; omega
      have HST : Hid (stepI ln b r = if (nxI (b :: r)).2.2.2 = true then .tok ⟨(nxI (b :: r)).1, ln, (nxI (b :: r)).2.1, (nxI (b :: r)).2.2.1⟩ else .bad) := Lib.hid (by unfold stepI; rw [if_neg h10, if_neg (by omega), if_neg h35])
      clear h10 h32 h9 h35 hx0
      go_wp2_with fail
      refine (next_any x (by omega) hpos _ (HW.out.below HR.out.1)).mono ?_
      rintro e w1 ⟨hb1, k, v, t, ok, rfl, hnx⟩
      rw [HX0.out] at hnx
      have hsz := HR.out.1.size
      have HB1 := Lib.hid (HR.out.1.trans (hb1.mono HR.out.1.size))
      have HO1 := Lib.hid (own_below HR.out.2 hb1)
      clear hb1
      cases ok
      · have HBAD : Hid (scan s.data.toList = (none, ln)) := Lib.hid (by
          rw [HS.out]
          refine sc_bad HX0.out ?_
          rw [HST.out, if_neg]
          rcases hnx with h | ⟨_, h⟩ <;> rw [h] <;> simp)
        clear hnx
        go_wp2_with fail
        refine bodyPost_ret (v := .tuple #[.slice none 0 0, .int .i64 ln, .int .i64 6]) (by simp [results, Tryd.results9, go_sem]) rfl ?_
        exact HFIN.out _ _ (HB1.out.alloc HB1.out.size _) (.inl ⟨by rw [HBAD.out], by rw [HBAD.out]⟩)
      · have hnx2 : nxI (b :: r) = (k, v, t, true) := by
          rcases hnx with h | ⟨h, _⟩
          · exact h
          · cases h
        have HST2 : Hid (stepI ln b r = .tok ⟨k, ln, v, t⟩) := Lib.hid (by rw [HST.out, hnx2]; simp)
        have ht1 : 1 ≤ t.length := by have := nx_pos (b := b) (r := r) (by rw [hnx2]); rw [hnx2] at this; exact this
        have ht2 : t.length ≤ x.size := by have := nx_le (b :: r); rw [hnx2, ← HX0.out, st_len] at this; exact this
        clear hnx hnx2
        have hsz1 := HB1.out.size
        go_upto_region 10 with fail
        obtain ⟨w2, hw2⟩ : ∃ w2, w2 = (w1.alloc (.cells #[.int .i64 k, .int .i64 ln, .int .i64 v, .string (st t)] 33)) := ⟨_, rfl⟩
        rw [← hw2]
        have hbb : Below w1.heap.size w1 w2 := by rw [hw2]; exact (Below.refl _ _).alloc (Nat.le_refl _) _
        have hblk : w2.heap[w1.heap.size]? = some (.cells #[.int .i64 k, .int .i64 ln, .int .i64 v, .string (st t)] 33 (0, 0)) := by rw [hw2]; exact heap_alloc_new w1 _
        have HB2 := Lib.hid (HB1.out.trans (hbb.mono HB1.out.size))
        have HO2 := Lib.hid (own_below HO1.out hbb)
        have HNG : Hid (∀ q, u2.ownBlock = some q → q ≠ w1.heap.size) := Lib.hid (fun q hq => by have := (HO1.out.lt q hq).2; omega)
        have HBL := Lib.hid hblk
        have c0 := cell_of_row _ _ 0 _ _ _ hblk
        have c1 := cell_of_row _ _ 1 _ _ _ hblk
        have c2 := cell_of_row _ _ 2 _ _ _ hblk
        have c3 := cell_of_row _ _ 3 _ _ _ hblk
        have cl := heap_lt hblk
        obtain ⟨g5, hg5⟩ : ∃ g5, w1.heap.size = g5 := ⟨_, rfl⟩
        rw [hg5] at HNG HBL c0 c1 c2 c3 cl ⊢
        clear hw2 hbb hblk hg5 hsz1
        have HOA := Lib.hid (HO2.out.alloc (.cells #[.int .i64 k, .int .i64 ln, .int .i64 v, .string (st t)] 33))
        have HBA := Lib.hid (HB2.out.alloc HB2.out.size (.cells #[.int .i64 k, .int .i64 ln, .int .i64 v, .string (st t)] 33))
        have HBLA : Hid ((w2.alloc (.cells #[.int .i64 k, .int .i64 ln, .int .i64 v, .string (st t)] 33)).heap[g5]? = some (.cells #[.int .i64 k, .int .i64 ln, .int .i64 v, .string (st t)] 33 (0, 0))) := Lib.hid ((Below.heap_alloc w2 _ g5 cl).trans HBL.out)
        have hsz2 := HB2.out.size
        clear HB1 HO1
        clear w1
        go_upto_region 11 with (at_builtin; refine wpList_append_own _ rfl _ _ _ rfl w.heap.size 33 i0 _ 4 40 Tryd.underlying26 HI.out HZ0.out HZ1.out HZ2.out rfl (by omega) _ _ _ rfl HOA.out ⟨w2.heap.size, 0, none⟩ 1 1 [.int .i64 k, .int .i64 ln, .int .i64 v, .string (st t)] rfl rfl (World.news_of_block (cs := #[.int .i64 k, .int .i64 ln, .int .i64 v, .string (st t)]) (t := 33) (fr := (0, 0)) (heap_alloc_new w2 _)) (by simp [Value.oneCell']) (by unfold maxLen; omega) (by omega) (by simp; omega) ?_; intro v' w9 hown9 hgrow9 _; have HO9 := Lib.hid hown9; have HG9 := Lib.hid hgrow9; clear hown9 hgrow9)
        have h9 : w9.heap[g5]? = _ := (HG9.out.block g5 (heap_lt HBLA.out) (fun e => HNG.out g5 e.symm rfl)).trans HBLA.out
        have HB9 := Lib.hid (HBA.out.grown HG9.out HBA.out.size (fun k hk => (HOA.out.lt k hk).1))
        clear c0 c1 c2 c3 cl
        have c3 := cell_of_row _ _ 3 _ _ _ h9
        have cl := heap_lt h9
        clear h9
        have ht2' : (t.length : Int) ≤ (x.size : Int) := by omega
        go_wp2_with fail
        have hyl := ext_end x t.length
        have hys : (x.extract t.length x.size).size = x.size - t.length := by rw [← st_len, hyl, List.length_drop, st_len]
        refine ⟨⟨x.extract t.length x.size, ln, acc ++ [⟨k, ln, v, t⟩], rfl, rfl, by omega, by omega, by omega, by simp; omega, Lib.hid ?_, Lib.hid ⟨HB9.out, ?_⟩⟩, by show (x.extract t.length x.size).size < x.size; rw [hys]; omega⟩
        · rw [HS.out]
          exact sc_tok HX0.out HST2.out ht1 (by rw [hyl, HX0.out])
        · have := HO9.out
          rw [← tkcs_push]
          simpa using this
end Go.Proofs.YthcagbplolcbpaaDoor
