/-
  For all inputs the encodings of numbers, and what bytes mean as a number, are the document's; no condition beyond the listed table, which is tied.
-/
import Derived.Test.YtfgjnkgadnmegaaDoorSpo
import Derived.Test.YtfgjnkgadnmegaaDoorLaidT
import Derived.Test.YtfgjnkgadnmegaaDoorTie
import Derived.Test.YtfgjnkgadnmegaaDoorCards
namespace Go.Proofs.YtfgjnkgadnmegaaDoor.codecNumbers
open Go.ChangeShapes Go.WideShapes Go.ChangeAt Go.RowKit
set_option linter.unusedVariables false


theorem own_of_block {w : World} {base n e g cap : Nat} {xs : List Value} (hg : w.heap[g]? = some (.cells xs.toArray e (0, 0))) (hl : xs.length = n) (hc : cap = n) (hb : base ≤ g) (hm : n ≤ maxLen) : w.ownsRow base e 1 (.slice (some ⟨g, 0, none⟩) n cap) n xs := by
  subst hc
  exact ⟨by omega, .inr ⟨g, cap, xs.toArray, rfl, hb, hg, Nat.le_refl _, hm, by simp [hl], List.take_of_length_le (by simp; omega)⟩⟩
theorem own_grown {w w' : World} {B e size n g : Nat} {v : Value} {xs : List Value} (h : w.ownsRow B e size v n xs) (hg : w.grownBy w' (some g)) (hgB : g < B) : w'.ownsRow B e size v n xs :=
  h.kept hg (.inr (fun e => by have := (h.lt _ e).1; omega))
theorem grown_below {w w' : World} {g : Nat} (h : w.grownBy w' (some g)) {B : Nat} (hB : B ≤ w.heap.size) (hg : B ≤ g) : Below B w w' := below_grown1 (Below.refl _ _) h hB hg
theorem byts_nine : byts (List.replicate 9 255) = [.int .u8 255, .int .u8 255, .int .u8 255, .int .u8 255, .int .u8 255, .int .u8 255, .int .u8 255, .int .u8 255, .int .u8 255] := rfl
/-- a row of slices of bytes -/
def Rowed (w : World) (T m : Nat) : Prop := ∀ k, k < m → ∃ (a : Option Addr) (n cap : Nat) (ys : List Nat), w.cell? ⟨T, k, none⟩ = some (.slice a n cap) ∧ Bs w a n cap ys ∧ Byt ys ∧ n ≤ 100000
set_option maxRecDepth 100000 in
set_option maxHeartbeats 4000000 in
theorem walk (a : Option Addr) (len cap : Nat) (zs : List Int) (x1 x2 : Int) (a3 : Option Addr) (len3 cap3 : Nat) (zs3 : List Int) (w : World) (w0 : InInts .u8 w a len cap zs) (w1 : (Lit.int .u64 x1).wf = true) (w2 : (Lit.int .i64 x2).wf = true) (w3 : InInts .u8 w a3 len3 cap3 zs3) (hl : Laid w) :
    Calls Tryd.prog 3 #[.slice a len cap, .int .u64 x1, .int .i64 x2, .slice a3 len3 cap3] w fun e w' => e = .returned (.bool true) ∧ Below w.heap.size w w' := by
  obtain ⟨i0, hi0, hz0, hz1, hz2⟩ := info_parts Tryd.info5
  obtain ⟨N, hN, rfl⟩ : ∃ N : Nat, N < 18446744073709551616 ∧ x1 = N := ⟨x1.toNat, by have := bounds_u64 w1; omega, by have := bounds_u64 w1; omega⟩
  have hi := bounds_i64 w2
  have hi1 : -9223372036854775808 ≤ x2 := by omega
  have hi2 : x2 ≤ 9223372036854775807 := by omega
  obtain ⟨ns, hns, hnb, hbs⟩ := in_byts w0
  have HL := Lib.hid hl
  have HB := Lib.hid hbs
  have HNB := Lib.hid hnb
  have H3 := Lib.hid w3
  have hlc := hbs.2.1
  have hcm := hbs.2.2.1
  clear w0 w1 w2 w3 hl hbs hnb hi
  by_cases hbig : 200 < len
  · go_enter Tryd.func3, Tryd.ntmps3
    go_wp2_with fail
    refine (awake_any _ HL.out).mono ?_
    rintro e w1 ⟨rfl, hb1⟩
    go_wp2_with fail
    go_ret
    exact ⟨rfl, hb1⟩
  · go_enter Tryd.func3, Tryd.ntmps3
    go_wp2_with fail
    refine (awake_any _ HL.out).mono ?_
    rintro e w1 ⟨rfl, hb1⟩
    have H31 := Lib.hid (H3.out.below hb1)
    go_wp2_with fail
    refine (New_any a3 len3 cap3 zs3 60 (by omega) (by omega) _ H31.out).mono ?_
    rintro e w2 ⟨g, rfl, hg, hcod2, hb2⟩
    have hsz1 := hb1.size
    have hb12 := hb1.trans (hb2.mono hsz1)
    have hsz2 := hb12.size
    clear hb1 hb2
    go_wp2_with fail
    refine (PutUint_any a len cap N ns (by omega) hN _ (HB.out.below hb12)).mono ?_
    rintro e w3 ⟨v3, rfl, hown3, hb3⟩
    obtain ⟨L, hL⟩ : ∃ L, ns ++ uenc N = L := ⟨_, rfl⟩
    have hl3 : L.length ≤ 300 := by have := uenc_len10 hN; rw [← hL, List.length_append]; omega
    obtain ⟨m, hm⟩ : ∃ m, L.length = m := ⟨_, rfl⟩
    rw [hL, hm] at hown3
    rw [hm] at hl3
    obtain ⟨b3, c3, rfl, hbs3⟩ := Bs.of_own hown3
    have hb13 := hb12.trans (hb3.mono hsz2)
    have hsz3 := hb13.size
    have hcod3 := hcod2.below hb3 hcod2.lt
    have H3 := Lib.hid hbs3
    clear hown3 hbs3 hb3
    go_wp2_with fail
    refine (refPutUint_any a len cap N ns (by omega) hN _ (HB.out.below hb13)).mono ?_
    rintro e w4 ⟨v4, rfl, hown4, hb4⟩
    rw [hL, hm] at hown4
    obtain ⟨b4, c4, rfl, hbs4⟩ := Bs.of_own hown4
    have H34 := Lib.hid (H3.out.below hb4)
    have H4 := Lib.hid hbs4
    have hb14 := hb13.trans (hb4.mono hsz3)
    have hsz4 := hb14.size
    have hcod4 := hcod3.below hb4 hcod3.lt
    clear hown4 hbs4 hb4 hL hm
    go_wp2_with fail
    refine (Equal_same b3 b4 m c3 c4 L (by omega) _ H34.out H4.out).mono ?_
    rintro e w5 ⟨rfl, hb5⟩
    have hb15 := hb14.trans (hb5.mono hsz4)
    have hsz5 := hb15.size
    have hcod5 := hcod4.below hb5 hcod4.lt
    clear hb5 hcod4 hcod3 hcod2 hb14 hb13 hb12 H3 H34 H4 hsz3 hsz4
    go_wp2_with fail
    refine (PutInt_any a len cap x2 ns (by omega) hi1 hi2 _ (HB.out.below hb15)).mono ?_
    rintro e w6 ⟨v6, rfl, hown6, hb6⟩
    obtain ⟨L2, hL⟩ : ∃ L, ns ++ uenc (zig x2) = L := ⟨_, rfl⟩
    have hl6 : L2.length ≤ 300 := by have := uenc_len10 (zig_lt hi1 hi2); rw [← hL, List.length_append]; omega
    obtain ⟨m2, hm⟩ : ∃ m, L2.length = m := ⟨_, rfl⟩
    rw [hL, hm] at hown6
    rw [hm] at hl6
    obtain ⟨b6, c6, rfl, hbs6⟩ := Bs.of_own hown6
    have hb16 := hb15.trans (hb6.mono hsz5)
    have hsz6 := hb16.size
    have hcod6 := hcod5.below hb6 hcod5.lt
    have H6 := Lib.hid hbs6
    clear hown6 hbs6 hb6
    go_wp2_with fail
    refine (refPutInt_any a len cap x2 ns (by omega) hi1 hi2 _ (HB.out.below hb16)).mono ?_
    rintro e w7 ⟨v7, rfl, hown7, hb7⟩
    rw [hL, hm] at hown7
    obtain ⟨b7, c7, rfl, hbs7⟩ := Bs.of_own hown7
    have H67 := Lib.hid (H6.out.below hb7)
    have H7 := Lib.hid hbs7
    have hb17 := hb16.trans (hb7.mono hsz6)
    have hsz7 := hb17.size
    have hcod7 := hcod6.below hb7 hcod6.lt
    clear hown7 hbs7 hb7 hL hm
    go_wp2_with fail
    refine (Equal_same b6 b7 m2 c6 c7 L2 (by omega) _ H67.out H7.out).mono ?_
    rintro e w8 ⟨rfl, hb8⟩
    have hb18 := hb17.trans (hb8.mono hsz7)
    have hsz8 := hb18.size
    have hcod8 := hcod7.below hb8 hcod7.lt
    clear hb8 hcod7 hcod6 hcod5 hb17 hb16 hb15 H6 H67 H7 hsz6 hsz7
    go_wp2_with fail
    -- the table
    refine (refPutUint_any none 0 0 N [] (by omega) hN _ (nil_bs _)).mono ?_
    rintro e w9 ⟨v9, rfl, hown9, hb9⟩
    obtain ⟨U, hU⟩ : ∃ U, [] ++ uenc N = U := ⟨_, rfl⟩
    have hUb : Byt U := by rw [← hU, List.nil_append]; exact uenc_byt N
    have hUl : U.length ≤ 10 := by rw [← hU, List.nil_append]; exact uenc_len10 hN
    rw [hU] at hown9
    obtain ⟨u, hu⟩ : ∃ u, U.length = u := ⟨_, rfl⟩
    rw [hu] at hown9 hUl
    obtain ⟨b9, c9, rfl, hbs9⟩ := Bs.of_own hown9
    have hb19 := hb18.trans (hb9.mono hsz8)
    have hsz9 := hb19.size
    have hcod9 := hcod8.below hb9 hcod8.lt
    have hg9 : g < w8.heap.size := hcod8.lt
    clear hbs9 hb9 hcod8 hb18
    go_wp2_with fail
    refine (refPutUint_any none 0 0 N [] (by omega) hN _ (nil_bs _)).mono ?_
    rintro e w10 ⟨v10, rfl, hown10, hb10⟩
    rw [hU, hu] at hown10
    obtain ⟨b10, c10, rfl, hbs10⟩ := Bs.of_own hown10
    have hown9' := own_below hown9 hb10
    have hb110 := hb19.trans (hb10.mono hsz9)
    have hsz10 := hb110.size
    have hcod10 := hcod9.below hb10 hcod9.lt
    have hg10 : g < w9.heap.size := hcod9.lt
    have hdis : ∀ x, b10 = some x → x.block ≠ g := by
      obtain ⟨_, _, e, _, _, _, _, hh⟩ := Cells.of_own hown10
      injection e with e _ _
      subst e
      intro x hx; have := hh x hx; omega
    clear hown10 hown9 hb10 hb19 hcod9 hu hU
    go_wp2_with fail
    refine (Spoilt_any g b10 u c10 U (by omega) hUb _ hcod10 hbs10 hdis).mono ?_
    rintro e w11 ⟨b11, m11, c11, ys11, rfl, hbs11, hy11, hm11, hcod11, hgr11⟩
    have hown11 := own_grown hown9' hgr11 hg9
    have hb111 := hb110.trans (grown_below hgr11 hsz10 (by omega))
    have hsz11 := hb111.size
    have hsz1011 := hgr11.size
    have HBN := Lib.hid (HB.out.below hb111)
    clear hown9' hgr11 hb110 hbs10 hcod10
    have HBA := Lib.hid (HBN.out.below ((Below.refl w11.heap.size w11).alloc (Nat.le_refl _) (.cells #[.int .u8 255, .int .u8 255, .int .u8 255, .int .u8 255, .int .u8 255, .int .u8 255, .int .u8 255, .int .u8 255, .int .u8 255] 5)))
    go_wp2_with (at_builtin; refine wpList_append_src rfl _ _ _ rfl w11.heap.size 5 i0 _ 1 1 Tryd.underlying22 hi0 hz0 hz1 hz2 rfl (by omega) _ _ _ rfl (own_of_block (n := 9) (cap := 9) (xs := [.int .u8 255, .int .u8 255, .int .u8 255, .int .u8 255, .int .u8 255, .int .u8 255, .int .u8 255, .int .u8 255, .int .u8 255]) (heap_alloc_new w11 _) rfl rfl (Nat.le_refl _) (by simp [maxLen])) a len cap (byts ns) rfl HBA.out.2.1 HBA.out.2.2.2.1 (by simp [HBA.out.1]) HBA.out.2.2.2.2 (byts_one _) (by unfold maxLen; omega) (by omega) (by simp) ?_; intro v12 w12 hown12 hgr12; have hb12 := ((Below.refl w11.heap.size w11).alloc (Nat.le_refl _) (.cells #[.int .u8 255, .int .u8 255, .int .u8 255, .int .u8 255, .int .u8 255, .int .u8 255, .int .u8 255, .int .u8 255, .int .u8 255] 5)).grown hgr12 (by simp) (fun q e => by have e : some w11.heap.size = some q := e; injection e with e; omega); rw [← byts_nine, ← byts_append] at hown12; obtain ⟨b12, c12, rfl, hbs12⟩ := Bs.of_own hown12; clear hgr12)
    have hRow : Rowed (w12.alloc (.cells #[.slice a len cap, .slice b9 u c9, .slice b11 m11 c11, .slice b12 (9 + len) c12] 22)) w12.heap.size 4 := by
      obtain ⟨b9', c9', e9, hbs9⟩ := Bs.of_own hown11
      injection e9 with e9a _ e9b
      subst e9a e9b
      have hal : ∀ {a n cap zs}, Bs w12 a n cap zs → Bs (w12.alloc (.cells #[.slice a len cap, .slice b9 u c9, .slice b11 m11 c11, .slice b12 (9 + len) c12] 22)) a n cap zs := fun h => h.below ((Below.refl _ _).alloc (Nat.le_refl _) _)
      have hc : ∀ k v, (#[.slice a len cap, .slice b9 u c9, .slice b11 m11 c11, .slice b12 (9 + len) c12] : Array Value)[k]? = some v → (w12.alloc (.cells #[.slice a len cap, .slice b9 u c9, .slice b11 m11 c11, .slice b12 (9 + len) c12] 22)).cell? ⟨w12.heap.size, k, none⟩ = some v := fun k v h => by
        rw [cell_of_row _ _ _ _ _ _ (heap_alloc_new w12 _)]; exact h
      intro k hk
      rcases (show k = 0 ∨ k = 1 ∨ k = 2 ∨ k = 3 by omega) with rfl | rfl | rfl | rfl
      · exact ⟨_, _, _, _, hc 0 _ rfl, (HBN.out.below hb12).below ((Below.refl _ _).alloc (Nat.le_refl _) _), HNB.out, by omega⟩
      · exact ⟨_, _, _, _, hc 1 _ rfl, (hbs9.below hb12).below ((Below.refl _ _).alloc (Nat.le_refl _) _), hUb, by omega⟩
      · exact ⟨_, _, _, _, hc 2 _ rfl, (hbs11.below hb12).below ((Below.refl _ _).alloc (Nat.le_refl _) _), hy11, by omega⟩
      · exact ⟨_, _, _, _, hc 3 _ rfl, hbs12.below ((Below.refl _ _).alloc (Nat.le_refl _) _), Byt.append (by unfold Byt; decide) HNB.out, by omega⟩
    have hbT := (hb111.trans (hb12.mono hsz11)).alloc (by have := hb12.size; omega) (.cells #[.slice a len cap, .slice b9 u c9, .slice b11 m11 c11, .slice b12 (9 + len) c12] 22)
    have HR := Lib.hid hRow
    clear hRow hb12 hown12 hbs12 hown11 hbs11 hb111 HBN HBA
    generalize (w12.alloc (.cells #[.slice a len cap, .slice b9 u c9, .slice b11 m11 c11, .slice b12 (9 + len) c12] 22)) = wT at *
    go_loopw [66] (fun v66 wr => ∃ k : Nat, k ≤ 4 ∧ v66 = .int .i64 k ∧ wr = wT) (fun v _ => 4 - (intOf v).toNat)
    case atStart => exact ⟨0, by omega, rfl, rfl⟩
    case round =>
      obtain ⟨k, hk, rfl, rfl⟩ := hrel
      by_cases hlt : k < 4
      · obtain ⟨a1, n1, c1, ys, hcell, hbs, hyb, hn1⟩ := HR.out k hlt
        have hsz := ud_bd ys
        obtain ⟨⟨v, l, r⟩, hud⟩ : ∃ u, ud ys = u := ⟨_, rfl⟩
        have HU := Lib.hid hud
        have HX := Lib.hid hbs
        have HY := Lib.hid hyb
        obtain ⟨z, hz⟩ : ∃ z, zag v = z := ⟨_, rfl⟩
        have HZ := Lib.hid hz
        have d1 : ((v : Int) != (v : Int)) = false := by simp
        have d2 : ((l : Int) != (l : Int)) = false := by simp
        have d3 : ((r : Int) != (r : Int)) = false := by simp
        have d4 : (z != z) = false := by simp
        clear hbs hyb hud hz hsz
        go_wp2_with fail
        refine (Uint_any a1 n1 c1 ys hn1 HY.out _ HX.out).mono ?_
        rintro e w1 ⟨he, rfl⟩
        rw [HU.out] at he
        subst he
        go_wp2_with fail
        refine (refUint_any a1 n1 c1 ys hn1 HY.out _ HX.out).mono ?_
        rintro e w1 ⟨he, rfl⟩
        rw [HU.out] at he
        subst he
        go_wp2_with fail
        refine (Int_any a1 n1 c1 ys hn1 HY.out _ HX.out).mono ?_
        rintro e w1 ⟨he, rfl⟩
        rw [HU.out] at he
        simp only [HZ.out] at he
        subst he
        go_wp2_with fail
        refine (refInt_any a1 n1 c1 ys hn1 HY.out _ HX.out).mono ?_
        rintro e w1 ⟨he, rfl⟩
        rw [HU.out] at he
        simp only [HZ.out] at he
        subst he
        go_wp2_with fail
        exact ⟨⟨k + 1, by omega, by go_num, trivial⟩, by simp [intOf]; omega⟩
      · obtain rfl : k = 4 := by omega
        go_wp2_with fail
        go_ret
        exact ⟨rfl, hbT⟩

/-! ### THE ROW's STEP -/
set_option maxRecDepth 100000 in
theorem lifted (os : Os) (started : os.Started) (H : Type) (enc : TypeId × Value → H) :
    ReturnsInHanded {} Tryd.checked os 3 .any (fun w args => (Rows.codecNumbersSpec.pre enc Tryd.prog Tryd.f3 [] false w args ∧ laidMetH Tryd.prog [("warmpath/codec.remainders", Rows.laid_warmpath_codec_remainders)] w) ∧ sizedMet enc Tryd.prog Tryd.f3 (OpenSpec.ofChange Rows.codecNumbersSpec) false w args)
      (Rows.codecNumbersSpec.post enc Tryd.prog Tryd.f3 false true false false) := by
  refine returnsInHanded_of_change_and (C := Tryd.checked) (X := fun w _ => laidMetH Tryd.prog [("warmpath/codec.remainders", Rows.laid_warmpath_codec_remainders)] w) (fun _ _ _ hh h => h.of_heap hh) own started (by kernel_rfl) Tryd.func3
    (ChangeSpec.witness_shaped (enc := enc) (C := Tryd.checked) (os := os) (X := fun w _ => laidMetH Tryd.prog [("warmpath/codec.remainders", Rows.laid_warmpath_codec_remainders)] w) false (World.doorLaid Tryd.prog 400 os) #[.slice none 0 0, .int .u64 0, .int .i64 0, .slice none 0 0] 8 rfl (World.shaped_of_RefB (by kernel_rfl) (by kernel_rfl)) (by kernel_rfl) (by kernel_rfl) (by kernel_rfl) (door_met os _)) ?_
  intro W base args ds gs before hval0 hW _ _ hL _
  have hval : ∀ (j : Nat) t v, Tryd.f3.params[j]? = some t → args[j]? = some v → Value.okWide Tryd.prog W .any base t v := hval0
  have hW' := hW
  obtain ⟨p, q, hA0, hV, rfl, hfz, hnd⟩ := hW
  have hA : DataW.TrodAll enc Tryd.prog W 0 (fun _ => true) true Tryd.f3.params.toList args.toList ds p := hA0
  rw [Tryd.params3] at hA hval
  obtain ⟨v0, vs0, d0, ds0, p0, q0, hargs, rfl, rfl, h0, r0⟩ := trodAll_cons hA
  obtain ⟨v1, vs1, d1, ds1, p1, q1, rfl, rfl, rfl, h1, r1⟩ := trodAll_cons r0
  obtain ⟨v2, vs2, d2, ds2, p2, q2, rfl, rfl, rfl, h2, r2⟩ := trodAll_cons r1
  obtain ⟨v3, vs3, d3, ds3, p3, q3, rfl, rfl, rfl, h3, r3⟩ := trodAll_cons r2
  obtain ⟨rfl, rfl, rfl⟩ := trodAll_nil r3
  obtain rfl : args = #[v0, v1, v2, v3] := by cases args; simp_all
  obtain ⟨rfl, rfl⟩ := trodVars_none hV
  have k0 := h0
  have lt0 : ∀ x ∈ p0, x.block < W.heap.size := by obtain ⟨m, hm⟩ := k0; exact DataW.trod_lt m _ _ _ hm
  obtain ⟨a0, len0, cap0, zs0, rfl, w0⟩ := in_ints (k := .u8) Tryd.underlying22 Tryd.underlying5 (by kernel_rfl) (hval 0 22 v0 rfl rfl) h0
  obtain ⟨a1, rfl, rfl, rfl, w1⟩ := open_int Tryd.underlying23 (hval 1 23 v1 rfl rfl) h1
  obtain ⟨a2, rfl, rfl, rfl, w2⟩ := open_int Tryd.underlying3 (hval 2 3 v2 rfl rfl) h2
  have k3 := h3
  have lt3 : ∀ x ∈ p3, x.block < W.heap.size := by obtain ⟨m, hm⟩ := k3; exact DataW.trod_lt m _ _ _ hm
  obtain ⟨a3, len3, cap3, zs3, rfl, w3⟩ := in_ints (k := .u8) Tryd.underlying22 Tryd.underlying5 (by kernel_rfl) (hval 3 22 v3 rfl rfl) h3
  clear hA0 hval0
  refine (walk a0 len0 cap0 zs0 a1 a2 a3 len3 cap3 zs3 W w0 w1 w2 w3 (of_laid hL)).mono fun e W' ⟨he, bel⟩ => ?_
  subst he
  exact ⟨_, rfl, _, _, _, [], _, [], hW', trodAll_mk1 (shut_bool Tryd.underlying4 _), (trodAll_cons_mk (Below.trod laidOut (by kernel_rfl) (of_decide_eq_true (by kernel_rfl)) k0 bel lt0) (trodAll_cons_mk (shut_int Tryd.underlying23 w1) (trodAll_cons_mk (shut_int Tryd.underlying3 w2) (trodAll_cons_mk (Below.trod laidOut (by kernel_rfl) (of_decide_eq_true (by kernel_rfl)) k3 bel lt3) trodAll_mk0)))), rfl, bel.frame _, fun h => by cases h⟩

theorem over : Rows.CodecNumbersSaid :=
  OpenClaim.holds_of_wide 3 Tryd.f3 rfl rfl rfl rfl rfl rfl rfl ⟨rfl, rfl, rfl, rfl, rfl⟩ rfl rfl rfl rfl rfl (by kernel_rfl) Tryd.func3 (by kernel_rfl)
    (of_decide_eq_true (by kernel_rfl)) (by unfold Func.isWrapper; first | (rw [if_pos (by decide +kernel)]; kernel_rfl) | (rw [if_neg (by decide +kernel)]; exact ⟨rfl, rfl⟩))
    (fun os started H enc _ => lifted os started H enc)

/-- the tied card -/
theorem proved : Rows.CodecNumbersCardSaid :=
  Claim7.holds_tied_plain_at .later [] [.data] true (true, "61aeac0dd48ce8b2014925adcdba2620fba36b42f97a5ce8af2eb1bcb5960bdd") false
    over (fun _ h => by cases h) (by kernel_rfl) (fun _ h => by cases h) codecNumbers_row_tie rfl ⟨rfl, rfl⟩ (by kernel_rfl) rfl
    (fun f fn hf hfn => by
      obtain rfl : f = 3 := Option.some.inj ((show Tryd.prog.funcNamed "warmpath/warmpathlaw01.CodecNumbers" = some 3 by kernel_rfl).symm.trans hf) |>.symm
      obtain rfl : fn = Tryd.f3 := (Option.some.inj (Tryd.func3.symm.trans hfn)).symm
      exact ⟨by kernel_rfl, fun j t ht => by
        rw [Tryd.params3] at ht
        have hm : t ∈ [22, 23, 3, 22] := by simpa using Array.mem_of_getElem? ht
        have hall : ([22, 23, 3, 22].all fun u => !Tryd.prog.wantsStandIn u) = true := by kernel_rfl
        exact (show Tryd.prog.wantsStandIn t = false by simpa using List.all_eq_true.1 hall t hm)⟩)
    (by kernel_rfl)
#print axioms proved
end Go.Proofs.YtfgjnkgadnmegaaDoor.codecNumbers
