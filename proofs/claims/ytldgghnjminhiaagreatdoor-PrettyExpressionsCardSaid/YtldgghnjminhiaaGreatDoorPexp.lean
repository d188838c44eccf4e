/-
  The law PrettyExpressions holds of the given program at every input that can be read (the card's tied claim).
-/
import Derived.Test.YtldgghnjminhiaaGreatDoorG10
import Derived.Test.YtldgghnjminhiaaGreatDoorG0
import Derived.Test.YtldgghnjminhiaaGreatDoorLaidU
import Derived.ChangeMaps5
import Derived.Test.YtldgghnjminhiaaGreatDoorTie
import Derived.Test.YtldgghnjminhiaaGreatDoorCards
namespace Go.Proofs.YtldgghnjminhiaaGreatDoor.prettyExpressions
open Go.ChangeShapes Go.WideShapes Go.ChangeAt Go.RowKit
set_option linter.unusedVariables false

set_option linter.unusedVariables false
set_option linter.unusedSimpArgs false

def Tx5 (w : World) (g : Nat) (l : List Bt) : Prop := g < w.heap.size ∧ ∀ (j : Nat) (x : Bt), l[j]? = some x → w.cell? ⟨g, j, none⟩ = some (.string (st x))
theorem Tx5.be {w w' : World} {g : Nat} {l : List Bt} (h : Tx5 w g l) (hb : Below w.heap.size w w') : Tx5 w' g l := ⟨by have := hb.size; have := h.1; omega, fun j x hj => (World.cell?_of_block (a := ⟨g, j, none⟩) (hb.block g h.1)).trans (h.2 j x hj)⟩
theorem Tx5.gr {w w' : World} {g k : Nat} {l : List Bt} (h : Tx5 w g l) (hg : w.grownBy w' (some k)) (hn : g ≠ k) : Tx5 w' g l := ⟨by have := hg.size; have := h.1; omega, fun j x hj => (World.cell?_of_block (a := ⟨g, j, none⟩) (hg.block g h.1 (fun e => hn (Option.some.inj e)))).trans (h.2 j x hj)⟩
theorem Tx5.new (w : World) (l : List Bt) (t : TypeId) : Tx5 (w.alloc (.cells (l.map (fun x => Value.string (st x))).toArray t)) w.heap.size l := ⟨by simp, fun j x hj => Eb w _ t rfl (by simp [hj])⟩
def wd5 : List Bt := [[49], [120], [102, 40], [41], [40], [97, 91], [93], [32, 43, 32], [32, 45, 32], [45], [33], [32, 42, 32], [32, 60, 32], [32, 38, 38, 32], [32, 124, 124, 32], [38, 102], [114, 101, 97, 100], [44, 32], [50]]
theorem wd5_len {j : Nat} {x : Bt} (h : wd5[j]? = some x) : x.length ≤ 4 := by
 have : ∀ y ∈ wd5, y.length ≤ 4 := by decide
 exact this x (List.mem_of_getElem? h)
def tx5 (S T : Bt) : List Bt := [S, T, [120, 40] ++ (T ++ [41, 40, 49, 41]), [45, 40] ++ (T ++ [41])]
theorem tx5_len {S T : Bt} {j : Nat} {x : Bt} (h : (tx5 S T)[j]? = some x) (hS : S.length ≤ 300) (hT : T.length ≤ 60) : x.length ≤ 300 := by
 have hm := List.mem_of_getElem? h
 simp only [tx5, List.mem_cons, List.not_mem_nil, or_false] at hm
 rcases hm with rfl | rfl | rfl | rfl
 ·exact hS
 ·omega
 ·simp; omega
 ·simp; omega
theorem st_cat5 (x y : Bt) : st x ++ st y = st (x ++ y) := by apply ByteArray.ext; simp [ByteArray.data_append]
set_option maxRecDepth 100000 in
set_option maxHeartbeats 8000000 in
theorem walk (a0 : Option Addr) (len0 cap0 : Nat) (z0 : List Int) (s : ByteArray) (w : World) (w0 : Vb .u8 w a0 len0 cap0 z0) (w1 : s.size ≤ maxLen) (hw : Lad w) :
  Calls Tryz.prog 4 #[.slice a0 len0 cap0, .string s] w fun e w' => e = .returned (.bool true) ∧ Below w.heap.size w w' := by
 have HI := Lib.hid w0
 have HW := Lib.hid hw
 unfold maxLen at w1
 clear w0 hw
 obtain ⟨S, rfl⟩ := Px s
 by_cases hbig : 300 < S.length
 ·have d0 : decide ((300 : Int) < (S.length : Int)) = true := by rw [decide_eq_true_iff]; omega
  have d1 : decide (300 < S.length) = true := by rw [decide_eq_true_iff]; omega
  clear hbig
  go_enter Tryz.func4, Tryz.ntmps4
  go_wp2_with fail
  refine (Kn w HW.out).mono ?_
  rintro e w2 ⟨rfl, hb2⟩
  go_wp2_with fail
  go_ret
  exact ⟨rfl, hb2⟩
 have d0 : decide ((300 : Int) < (S.length : Int)) = false := by rw [decide_eq_false_iff_not]; omega
 have d1 : decide (300 < S.length) = false := by rw [decide_eq_false_iff_not]; omega
 have HSZ : Hid (S.length ≤ 300) := Lib.hid (by omega)
 clear hbig w1
 go_enter Tryz.func4, Tryz.ntmps4
 go_wp2_with fail
 refine (Kn w HW.out).mono ?_
 rintro e w2 ⟨rfl, hb2⟩
 have HB2 := Lib.hid hb2
 have HI2 := Lib.hid (HI.out.below hb2)
 clear hb2
 go_wp2_with fail
 refine (Bg a0 len0 cap0 z0 60 (by omega) (by omega) _ HI2.out).mono ?_
 rintro e w3 ⟨gc, rfl, hgc, hcod, hb3⟩
 have HGC : Hid (w.heap.size ≤ gc) := Lib.hid (by have := HB2.out.size; omega)
 have HB3 := Lib.hid (HB2.out.trans (hb3.mono HB2.out.size))
 have HC3 := Lib.hid hcod
 have HT4 := Lib.hid (Tx5.new w3 wd5 9)
 have hb4 := Xk w3 (.cells (wd5.map (fun x => Value.string (st x))).toArray 9)
 have HB4 := Lib.hid (HB3.out.trans (hb4.mono HB3.out.size))
 have HC4 := Lib.hid (HC3.out.below hb4 HC3.out.lt)
 have HNE : Hid (w3.heap.size ≠ gc) := Lib.hid (by have := HC3.out.lt; omega)
 clear hgc hcod hb3 HI2 d0 d1 hb4
 go_upto_region 5 with fail
 obtain ⟨w4, hw4⟩ : ∃ W, w3.alloc (.cells (wd5.map (fun x => Value.string (st x))).toArray 9) = W := ⟨_, rfl⟩
 obtain ⟨gw, hgw⟩ : ∃ x, w3.heap.size = x := ⟨_, rfl⟩
 rw [hw4] at HT4 HB4 HC4
 rw [hgw] at HT4 HNE
 have hw5 := hw4
 simp only [wd5, List.map_cons, List.map_nil] at hw5
 (try rw [hw5])
 (try rw [hgw])
 clear hw4 hw5 hgw
 go_wp2_with fail
 refine (Wq gc 14 (by omega) w4 HC4.out).mono ?_
 rintro e w5 ⟨z, rfl, z0', z1', hcod, hg5⟩
 have HB5 := Lib.hid (Ut HB4.out hg5 HB4.out.size HGC.out)
 have HC5 := Lib.hid hcod
 have HT5 := Lib.hid (HT4.out.gr hg5 HNE.out)
 have HZ : Hid (0 ≤ z ∧ z ≤ 13) := Lib.hid ⟨z0', by omega⟩
 clear hcod hg5 z0' z1'
 go_upto_block 0 with fail
 go_wp2_with fail
 go_loopw [7, 8] (fun v7 v8 wr => ∃ (T : Bt) (k : Int), v7 = .string (st T) ∧ v8 = .int .i64 k ∧ Hid (0 ≤ k ∧ k ≤ 13 ∧ (T.length : Int) + 4 * k ≤ 52 ∧ Below w.heap.size w wr ∧ Cod wr gc ∧ Tx5 wr gw wd5)) (fun _ v8 _ => (intOf v8).toNat)
 case atStart => exact ⟨[], z, rfl, rfl, Lib.hid ⟨HZ.out.1, HZ.out.2, by have := HZ.out.2; simp; omega, HB5.out, HC5.out, HT5.out⟩⟩
 case round =>
  rename World => wa
  obtain ⟨T, k, rfl, rfl, HR⟩ := hrel
  by_cases hk : 0 < k
  ·have dk : decide (0 < k) = true := decide_eq_true hk
   have HK := Lib.hid hk
   have hk13 : k ≤ 13 := HR.out.2.1
   go_wp2_with fail
   refine (Wq gc 19 (by omega) wa HR.out.2.2.2.2.1).mono ?_
   rintro e wb ⟨y, rfl, y0, y1, hcod, hgb⟩
   obtain ⟨j, rfl⟩ : ∃ j : Nat, y = (j : Int) := ⟨y.toNat, by omega⟩
   have hj : (j : Int) < 19 := by omega
   have hj2 : j < 19 := by omega
   obtain ⟨x, hx⟩ : ∃ x, wd5[j]? = some x := ⟨wd5[j]'hj2, List.getElem?_eq_getElem _⟩
   have HTB := Lib.hid (HR.out.2.2.2.2.2.gr hgb HNE.out)
   have hcell := HTB.out.2 j x hx
   have hlg := HTB.out.1
   have HXL := Lib.hid (wd5_len hx)
   have HBB := Lib.hid (Ut HR.out.2.2.2.1 hgb HR.out.2.2.2.1.size HGC.out)
   have HCB := Lib.hid hcod
   have hst := st_cat5
   have hxl : x.length ≤ 4 := HXL.out
   have htl : T.length ≤ 70 := by have := HR.out.2.2.1; have := HR.out.1; omega
   have hwk : IntKind.i64.wrap (k - 1) = k - 1 := by rw [IntKind.wrap_i64]; omega
   clear hcod hgb y1 hx
   go_wp2_with fail
   go_roundw
   case rel =>
    refine ⟨T ++ x, k - 1, rfl, rfl, Lib.hid ⟨by omega, by omega, ?_, HBB.out, HCB.out, HTB.out⟩⟩
    have := HR.out.2.2.1
    have := HXL.out
    simp
    omega
   case measure => simp [intOf]; omega
  ·have dk : decide (0 < k) = false := decide_eq_false hk
   have HTL : Hid (T.length ≤ 60) := Lib.hid (by have := HR.out.2.2.1; have := HR.out.1; omega)
   have hst := st_cat5
   have htl : T.length ≤ 60 := HTL.out
   have HTX := Lib.hid (Tx5.new wa (tx5 S T) 9)
   have HBA := Lib.hid (HR.out.2.2.2.1.alloc HR.out.2.2.2.1.size (.cells ((tx5 S T).map (fun x => Value.string (st x))).toArray 9))
   clear hk
   go_upto_block 2 with fail
   go_wp2_with fail
   go_loopw [55] (fun v55 wr => ∃ i : Nat, v55 = .int .i64 (i : Int) ∧ i ≤ 4 ∧ Hid (Below w.heap.size w wr ∧ Tx5 wr wa.heap.size (tx5 S T))) (fun v55 _ => 4 - (intOf v55).toNat)
   case atStart => exact ⟨0, rfl, by omega, Lib.hid ⟨HBA.out, HTX.out⟩⟩
   case round =>
    rename World => wb
    obtain ⟨i, rfl, hi, HQ⟩ := hrel
    by_cases hi6 : i < 4
    ·obtain ⟨x, hx⟩ : ∃ x, (tx5 S T)[i]? = some x := ⟨(tx5 S T)[i]'hi6, List.getElem?_eq_getElem _⟩
     have HXL := Lib.hid (tx5_len hx HSZ.out HTL.out)
     have hcell := HQ.out.2.2 i x hx
     have hlg := HQ.out.2.1
     have hi7 : (i : Int) < 4 := by omega
     clear hx
     go_wp2_with fail
     refine (Uy x (by have := HXL.out; omega) wb (HW.out.below HQ.out.1)).mono ?_
     intro e wc hp
     have hbc := hp.1
     rcases Pl hp with ⟨h1, ar1, a1, n1, c1, ts, r, rfl, hA1, hs1, hps⟩ | ⟨h1, a1, n1, c1, ln, er, rfl, her⟩
     ·obtain ⟨hwg, hlen1, hct⟩ := Aq hs1 hps
      have hxl := HXL.out
      have hle := At hwg
      have HFL : Hid ((Xn h1 ar1).length ≤ 65536) := Lib.hid (by omega)
      obtain ⟨hne, ts2, F2, r2, hs2, hps2, hk2, heq⟩ := Az hwg
      have HNE2 := Lib.hid hne
      have HPR := Lib.hid (Fo.wg.pr hwg (by omega))
      have HBK := Lib.hid (And.intro hs2 (And.intro hps2 (And.intro hk2 heq)))
      have hb1 := Xk wc (.cells #[.int .i64 h1.k, .int .i64 h1.op, .int .i64 h1.v, .int .i64 h1.ln, .string (st h1.nm), .slice a1 n1 c1] 37)
      have hr1 := heap_alloc_new wc (.cells #[.int .i64 h1.k, .int .i64 h1.op, .int .i64 h1.v, .int .i64 h1.ln, .string (st h1.nm), .slice a1 n1 c1] 37)
      have HA1 := Lib.hid (hA1.keep (Q := fun _ => True) (fun b hb hlt => ⟨hb1.block b hlt, trivial⟩) hb1.size)
      have HB1 := Lib.hid (hbc.trans (hb1.mono hbc.size))
      clear hp hcell hlg hA1 hs1 hps hwg hlen1 hct hxl hle hne hs2 hps2 hk2 heq hbc
      go_upto_region 14 with fail
      obtain ⟨wd, hwd⟩ : ∃ W, wc.alloc (.cells #[.int .i64 h1.k, .int .i64 h1.op, .int .i64 h1.v, .int .i64 h1.ln, .string (st h1.nm), .slice a1 n1 c1] 37) = W := ⟨_, rfl⟩
      obtain ⟨g1, hg1⟩ : ∃ x, wc.heap.size = x := ⟨_, rfl⟩
      (try rw [hwd])
      rw [hwd] at hr1 HA1 HB1
      rw [hg1] at hr1
      (try rw [hg1])
      clear hwd hg1 hb1
      have HR1 := Lib.hid hr1
      obtain ⟨p0, p1, p2, p3, p4, p5⟩ := Yq hr1
      clear hr1
      go_wp2_with fail
      refine (Wh h1 ar1 HPR.out (by have := HFL.out; omega) HNE2.out _ _ HA1.out (HW.out.below (HQ.out.1.trans (HB1.out.mono HQ.out.1.size)))).mono ?_
      rintro e we ⟨rfl, hbe⟩
      have HBE := Lib.hid (HB1.out.trans (hbe.mono HB1.out.size))
      have HRE := Lib.hid ((hbe.block g1 (Xp HR1.out)).trans HR1.out)
      have HAE := Lib.hid (HA1.out.keep (Q := fun _ => True) (fun b hb hlt => ⟨hbe.block b hlt, trivial⟩) hbe.size)
      clear hbe p0 p1 p2 p3 p4 p5
      go_wp2_with fail
      refine (Uy (Xn h1 ar1) (by have := HFL.out; omega) we (HW.out.below (HQ.out.1.trans (HBE.out.mono HQ.out.1.size)))).mono ?_
      intro e wf hp
      obtain ⟨h2, ar2, a2, n2, c2, hF2, rfl, hA2⟩ := Ph hp HFL.out HBK.out.1 HBK.out.2.1 HBK.out.2.2.1
      have hbf := hp.1
      have hb2 := Xk wf (.cells #[.int .i64 h2.k, .int .i64 h2.op, .int .i64 h2.v, .int .i64 h2.ln, .string (st h2.nm), .slice a2 n2 c2] 37)
      have hr2 := heap_alloc_new wf (.cells #[.int .i64 h2.k, .int .i64 h2.op, .int .i64 h2.v, .int .i64 h2.ln, .string (st h2.nm), .slice a2 n2 c2] 37)
      have HEQ : Hid (eqF false (Xb h1 ar1) (Xb h2 ar2) = true) := Lib.hid (by rw [← hF2]; exact Sj _ _ HBK.out.2.2.2)
      have hbg := hbf.trans (hb2.mono hbf.size)
      have HA2 := Lib.hid (hA2.keep (Q := fun _ => True) (fun b hb hlt => ⟨hb2.block b hlt, trivial⟩) hb2.size)
      have HAG := Lib.hid (HAE.out.keep (Q := fun _ => True) (fun b hb hlt => ⟨hbg.block b hlt, trivial⟩) hbg.size)
      have HRG := Lib.hid ((hbg.block g1 (Xp HRE.out)).trans HRE.out)
      have HBG := Lib.hid (HBE.out.trans (hbg.mono HBE.out.size))
      clear hp hbf hbg hA2 hF2
      go_upto_region 16 with fail
      obtain ⟨wg, hwg⟩ : ∃ W, wf.alloc (.cells #[.int .i64 h2.k, .int .i64 h2.op, .int .i64 h2.v, .int .i64 h2.ln, .string (st h2.nm), .slice a2 n2 c2] 37) = W := ⟨_, rfl⟩
      obtain ⟨g2, hg2⟩ : ∃ x, wf.heap.size = x := ⟨_, rfl⟩
      (try rw [hwg])
      rw [hwg] at hr2 HA2 HAG HRG HBG
      rw [hg2] at hr2
      (try rw [hg2])
      clear hwg hg2 hb2
      obtain ⟨p0, p1, p2, p3, p4, p5⟩ := Yq HRG.out
      obtain ⟨q0, q1, q2, q3, q4, q5⟩ := Yq hr2
      clear hr2
      go_wp2_with fail
      refine (Wy (fun _ => True) (fun _ => True) h1 h2 ar1 ar2 _ _ wg HAG.out HA2.out).mono ?_
      rintro e wh ⟨rfl, hbh⟩
      rw [HEQ.out]
      have HBH := Lib.hid (HBG.out.trans (hbh.mono HBG.out.size))
      clear hbh p0 p1 p2 p3 p4 p5 q0 q1 q2 q3 q4 q5
      go_wp2_with fail
      go_roundw
      case rel => exact ⟨i + 1, by go_num, by omega, Lib.hid ⟨HQ.out.1.trans (HBH.out.mono HQ.out.1.size), HQ.out.2.be HBH.out⟩⟩
      case measure => simp [intOf]; omega
     ·have d5 : (er != 0) = true := by rw [bne_iff_ne]; exact her
      have hb1 := Xk wc (.cells #[.int .i64 h1.k, .int .i64 h1.op, .int .i64 h1.v, .int .i64 h1.ln, .string (st h1.nm), .slice a1 n1 c1] 37)
      have HB1 := Lib.hid (hbc.trans (hb1.mono hbc.size))
      clear hp hbc hb1 hcell hlg her
      go_wp2_with fail
      go_roundw
      case rel => exact ⟨i + 1, by go_num, by omega, Lib.hid ⟨HQ.out.1.trans (HB1.out.mono HQ.out.1.size), HQ.out.2.be HB1.out⟩⟩
      case measure => simp [intOf]; omega
    ·obtain rfl : i = 4 := by omega
     go_wp2_with fail
     go_ret
     exact ⟨rfl, HQ.out.1⟩

/-! ### THE ROW's STEP -/
set_option maxRecDepth 100000 in
theorem lifted (os : Os) (started : os.Started) (H : Type) (enc : TypeId × Value → H) :
    ReturnsInHanded {} Tryz.checked os 4 .any (fun w args => (Rows.prettyExpressionsSpec.pre enc Tryz.prog Tryz.f4 [] false w args ∧ laidMetH Tryz.prog [("math/bits.deBruijn32tab", Rows.laid_math_bits_deBruijn32tab), ("math/bits.deBruijn64tab", Rows.laid_math_bits_deBruijn64tab), ("internal/strconv.uint64pow10", Rows.laid_internal_strconv_uint64pow10), ("strconv.ErrRange", Rows.laid_strconv_ErrRange), ("strconv.ErrSyntax", Rows.laid_strconv_ErrSyntax)] w) ∧ sizedMet enc Tryz.prog Tryz.f4 (OpenSpec.ofChange Rows.prettyExpressionsSpec) false w args)
      (Rows.prettyExpressionsSpec.post enc Tryz.prog Tryz.f4 false true false false) := by
  refine returnsInHanded_of_change_and (C := Tryz.checked) (X := fun w _ => laidMetH Tryz.prog [("math/bits.deBruijn32tab", Rows.laid_math_bits_deBruijn32tab), ("math/bits.deBruijn64tab", Rows.laid_math_bits_deBruijn64tab), ("internal/strconv.uint64pow10", Rows.laid_internal_strconv_uint64pow10), ("strconv.ErrRange", Rows.laid_strconv_ErrRange), ("strconv.ErrSyntax", Rows.laid_strconv_ErrSyntax)] w) (fun _ _ _ hh h => h.of_heap hh) ownLd started (by kernel_rfl) Tryz.func4
    (ChangeSpec.witness_shaped (enc := enc) (C := Tryz.checked) (os := os) (X := fun w _ => laidMetH Tryz.prog [("math/bits.deBruijn32tab", Rows.laid_math_bits_deBruijn32tab), ("math/bits.deBruijn64tab", Rows.laid_math_bits_deBruijn64tab), ("internal/strconv.uint64pow10", Rows.laid_internal_strconv_uint64pow10), ("strconv.ErrRange", Rows.laid_strconv_ErrRange), ("strconv.ErrSyntax", Rows.laid_strconv_ErrSyntax)] w) false (World.doorLaid Tryz.prog 400 os) #[.slice none 0 0, .string ⟨#[]⟩] 8 rfl (World.shaped_of_RefB (by kernel_rfl) (by kernel_rfl)) (by kernel_rfl) (by kernel_rfl) (by kernel_rfl) (door_met os _)) ?_
  intro W base args ds gs before hval0 hW _ _ hL _
  have hval : ∀ (j : Nat) t v, Tryz.f4.params[j]? = some t → args[j]? = some v → Value.okWide Tryz.prog W .any base t v := hval0
  have hW' := hW
  obtain ⟨p, q, hA0, hV, rfl, hfz, hnd⟩ := hW
  have hA : DataW.TrodAll enc Tryz.prog W 0 (fun _ => true) true Tryz.f4.params.toList args.toList ds p := hA0
  rw [Tryz.params4] at hA hval
  obtain ⟨v0, vs0, d0, ds0, p0, q0, hargs, rfl, rfl, h0, r0⟩ := trodAll_cons hA
  obtain ⟨v1, vs1, d1, ds1, p1, q1, rfl, rfl, rfl, h1, r1⟩ := trodAll_cons r0
  obtain ⟨rfl, rfl, rfl⟩ := trodAll_nil r1
  obtain rfl : args = #[v0, v1] := by cases args; simp_all
  obtain ⟨rfl, rfl⟩ := trodVars_none hV
  have k0 := h0
  have lt0 : ∀ x ∈ p0, x.block < W.heap.size := by obtain ⟨m, hm⟩ := k0; exact DataW.trod_lt m _ _ _ hm
  obtain ⟨a0, len0, cap0, zs0, rfl, w0⟩ := Ag (k := .u8) Tryz.underlying22 Tryz.underlying5 (by kernel_rfl) (hval 0 22 v0 rfl rfl) h0
  obtain ⟨s1, rfl, rfl, rfl, w1⟩ := Go.ChangeMaps.open_string Tryz.underlying9 (hval 1 9 v1 rfl rfl) h1
  clear hA0 hval0
  refine (walk a0 len0 cap0 zs0 s1 W w0 w1 (of_laid hL)).mono fun e W' ⟨he, bel⟩ => ?_
  subst he
  exact ⟨_, rfl, _, _, _, [], _, [], hW', trodAll_mk1 (shut_bool Tryz.underlying4 _), (trodAll_cons_mk (Below.trod laidOut (by kernel_rfl) (of_decide_eq_true (by kernel_rfl)) k0 bel lt0) (trodAll_cons_mk (Go.ChangeMaps.shut_string Tryz.underlying9 w1) trodAll_mk0)), rfl, bel.frame _, fun h => by cases h⟩

theorem over : Rows.PrettyExpressionsSaid :=
  OpenClaim.holds_of_wide 4 Tryz.f4 rfl rfl rfl rfl rfl rfl rfl ⟨rfl, rfl, rfl, rfl, rfl⟩ rfl rfl rfl rfl rfl (by kernel_rfl) Tryz.func4 (by kernel_rfl)
    (of_decide_eq_true (by kernel_rfl)) (by unfold Func.isWrapper; first | (rw [if_pos (by decide +kernel)]; kernel_rfl) | (rw [if_neg (by decide +kernel)]; exact ⟨rfl, rfl⟩))
    (fun os started H enc _ => lifted os started H enc)

/-- the tied card -/
theorem proved : Rows.PrettyExpressionsCardSaid :=
  Claim7.holds_tied_plain_at .later [] [.data, .data, .data, .sentinel, .sentinel] true (true, "a3db093cac5306058e55fb603508202bee0051a466cb6eb0cc1b6b1f729ed927") true
    over (fun _ h => by cases h) (by kernel_rfl) (fun _ h => by cases h) prettyExpressions_row_tie rfl ⟨rfl, rfl⟩ (by kernel_rfl) rfl
    (fun f fn hf hfn => by
      obtain rfl : f = 4 := Option.some.inj ((show Tryz.prog.funcNamed "warmpath/warmpathlaw05.PrettyExpressions" = some 4 by kernel_rfl).symm.trans hf) |>.symm
      obtain rfl : fn = Tryz.f4 := (Option.some.inj (Tryz.func4.symm.trans hfn)).symm
      exact ⟨by kernel_rfl, fun j t ht => by
        rw [Tryz.params4] at ht
        have hm : t ∈ [22, 9] := by simpa using Array.mem_of_getElem? ht
        have hall : ([22, 9].all fun u => !Tryz.prog.wantsStandIn u) = true := by kernel_rfl
        exact (show Tryz.prog.wantsStandIn t = false by simpa using List.all_eq_true.1 hall t hm)⟩)
    (by kernel_rfl)
#print axioms proved
end Go.Proofs.YtldgghnjminhiaaGreatDoor.prettyExpressions
