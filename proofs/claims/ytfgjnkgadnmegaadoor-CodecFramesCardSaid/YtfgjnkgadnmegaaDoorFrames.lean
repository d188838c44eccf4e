/-
  For all inputs the frames of payloads, and what bytes mean as a frame, are the document's; no condition beyond the listed table, which is tied.
-/
import Derived.Test.YtfgjnkgadnmegaaDoorSpo
import Derived.Test.YtfgjnkgadnmegaaDoorLaidT
import Derived.Test.YtfgjnkgadnmegaaDoorTie
import Derived.Test.YtfgjnkgadnmegaaDoorCards
namespace Go.Proofs.YtfgjnkgadnmegaaDoor.codecFrames
open Go.ChangeShapes Go.WideShapes Go.ChangeAt Go.RowKit
set_option linter.unusedVariables false


theorem own_grown {w w' : World} {B e size n g : Nat} {v : Value} {xs : List Value} (h : w.ownsRow B e size v n xs) (hg : w.grownBy w' (some g)) (hgB : g < B) : w'.ownsRow B e size v n xs :=
  h.kept hg (.inr (fun e => by have := (h.lt _ e).1; omega))
theorem grown_below {w w' : World} {g : Nat} (h : w.grownBy w' (some g)) {B : Nat} (hB : B ≤ w.heap.size) (hg : B ≤ g) : Below B w w' := below_grown1 (Below.refl _ _) h hB hg
/-- a row of slices of bytes -/
def Rowed (w : World) (T m : Nat) : Prop := ∀ k, k < m → ∃ (a : Option Addr) (n cap : Nat) (ys : List Nat), w.cell? ⟨T, k, none⟩ = some (.slice a n cap) ∧ Bs w a n cap ys ∧ Byt ys ∧ n ≤ 100000
/-- a frame behind other bytes, or nothing -/
def pf (zs ps : List Nat) : List Nat := if ps.length ≤ 65535 then zs ++ frame ps else []
def pe (ps : List Nat) : Nat := if ps.length ≤ 65535 then 0 else 5
theorem pf_len (zs ps : List Nat) : (pf zs ps).length ≤ zs.length + 65549 := by
  unfold pf
  split
  · rename_i h
    have := uenc_len10 (n := ps.length) (by omega)
    rw [List.length_append]; unfold frame; simp [le4]; omega
  · simp
theorem pf_byt {zs ps : List Nat} (h1 : Byt zs) (h2 : Byt ps) : Byt (pf zs ps) := by
  unfold pf
  split
  · refine Byt.append h1 ?_
    unfold frame
    refine Byt.append (Byt.append (uenc_byt _) h2) ?_
    have := crc_lt h2
    intro x hx
    simp only [le4, List.mem_cons, List.not_mem_nil, or_false] at hx
    rcases hx with rfl | rfl | rfl | rfl <;> omega
  · exact Byt.nil
theorem put_pf {zs ps : List Nat} {w : World} {e : Ending} {w' : World} (h : Put zs ps w e w') : ∃ v, e = .returned (.tuple #[v, .int .i64 ((pe ps : Nat) : Int)]) ∧ w'.ownsRow w.heap.size 5 1 v (pf zs ps).length (byts (pf zs ps)) ∧ Below w.heap.size w w' := by
  rcases h with ⟨h1, rfl, hb⟩ | ⟨h1, v, rfl, ho, hb⟩
  · refine ⟨.slice none 0 0, ?_, ?_, hb⟩
    · unfold pe; rw [if_neg (by omega)]; rfl
    · unfold pf; rw [if_neg (by omega)]; exact World.ownsRow_nil _ _ _ _
  · refine ⟨v, ?_, ?_, hb⟩
    · unfold pe; rw [if_pos (by omega)]; rfl
    · unfold pf; rw [if_pos (by omega)]; exact ho
theorem fd_len (l : List Nat) : (fd l).1.length ≤ l.length := by
  unfold fd
  split
  · simp
  · split
    · simp
    · split
      · simp
      · split
        · simp; omega
        · simp
theorem zero_byts (n : Nat) : (madeCells (Value.int .u8 0).cells (n * 1)).toList = byts (List.replicate n 0) := by
  rw [Nat.mul_one]; show (madeCells #[Value.int .u8 0] n).toList = _; rw [toList_madeCells_one]; simp
theorem zero_byt (n : Nat) : Byt (List.replicate n 0) := fun x hx => by
  have := List.eq_of_mem_replicate hx; omega
set_option maxRecDepth 100000 in
set_option maxHeartbeats 8000000 in
theorem walk (a : Option Addr) (len cap : Nat) (zs : List Int) (a1 : Option Addr) (len1 cap1 : Nat) (zs1 : List Int) (x2 : Int) (a3 : Option Addr) (len3 cap3 : Nat) (zs3 : List Int) (w : World) (w0 : InInts .u8 w a len cap zs) (w1 : InInts .u8 w a1 len1 cap1 zs1) (w2 : (Lit.int .u32 x2).wf = true) (w3 : InInts .u8 w a3 len3 cap3 zs3) (hl : Laid w) :
    Calls Tryd.prog 5 #[.slice a len cap, .slice a1 len1 cap1, .int .u32 x2, .slice a3 len3 cap3] w fun e w' => e = .returned (.bool true) ∧ Below w.heap.size w w' := by
  obtain ⟨i0, hi0, hz0, hz1, hz2⟩ := info_parts Tryd.info5
  obtain ⟨N, hN, rfl⟩ : ∃ N : Nat, N < 4294967296 ∧ x2 = N := ⟨x2.toNat, by have := bounds_u32 w2; omega, by have := bounds_u32 w2; omega⟩
  obtain ⟨ns, hns, hnb, hbs⟩ := in_byts w0
  obtain ⟨qs, hqs, hqb, hbsq⟩ := in_byts w1
  have HL := Lib.hid hl
  have HB := Lib.hid hbs
  have HNB := Lib.hid hnb
  have HQ := Lib.hid hbsq
  have HQB := Lib.hid hqb
  have H3 := Lib.hid w3
  have hlc := hbs.2.1
  have hcm := hbs.2.2.1
  have hlc1 := hbsq.2.1
  have hcm1 := hbsq.2.2.1
  clear w0 w1 w2 w3 hl hbs hnb hbsq hqb
  by_cases hbig : 1000 < len
  · go_enter Tryd.func5, Tryd.ntmps5
    go_wp2_with fail
    refine (awake_any _ HL.out).mono ?_
    rintro e w1 ⟨rfl, hb1⟩
    go_wp2_with fail
    go_ret
    exact ⟨rfl, hb1⟩
  by_cases hbig1 : 1000 < len1
  · go_enter Tryd.func5, Tryd.ntmps5
    go_wp2_with fail
    refine (awake_any _ HL.out).mono ?_
    rintro e w1 ⟨rfl, hb1⟩
    go_wp2_with fail
    go_ret
    exact ⟨congrArg (fun b => Ending.returned (Value.bool b)) (show (decide ((1000 : Int) < (len : Int)) || decide ((1000 : Int) < (len1 : Int))) = true by simp; omega), hb1⟩
  go_enter Tryd.func5, Tryd.ntmps5
  go_wp2_with fail
  refine (awake_any _ HL.out).mono ?_
  rintro e w1 ⟨rfl, hb1⟩
  have H31 := Lib.hid (H3.out.below hb1)
  go_wp2_with fail
  refine (New_any a3 len3 cap3 zs3 60 (by omega) (by omega) _ H31.out).mono ?_
  rintro e w2 ⟨g, rfl, hg, hcod2, hb2⟩
  have hsz1 := hb1.size
  have hb12 := hb1.trans (hb2.mono hsz1)
  have hsz2 := hb12.size
  clear hb1 hb2
  go_wp2_with fail
  refine (Next_small g 12 (by omega) _ hcod2).mono ?_
  rintro e w3 ⟨x, rfl, x0, x1, hcod3, hgr3⟩
  have hb13 := hb12.trans (grown_below hgr3 hsz2 (by omega))
  have hsz3 := hb13.size
  clear hgr3 hb12 hcod2
  by_cases hx : x = 11
  · subst hx
    obtain ⟨M, hM⟩ : ∃ M, 65530 + N % 10 = M := ⟨_, rfl⟩
    have hMl : M ≤ 65539 := by omega
    have eM : (65530 : Int) + (N : Int) % 10 = (M : Int) := by omega
    clear hM
    go_wp2_with (refine wpList_make_full _ rfl _ _ _ rfl w3.heap.size 5 i0 (.int .u8 0) 1 Tryd.underlying22 hi0 hz0 hz1 .i64 .i64 _ _ M rfl rfl (by omega) (by omega) (by rw [hz2]; omega) (by unfold maxLen; omega) (Nat.le_refl _) ?_; intro w4 hown4 hg4; rw [zero_byts] at hown4; have hb4 := (Below.refl w3.heap.size w3).grown hg4 (Nat.le_refl _) (fun k e => by cases e))
    have hcod4 := hcod3.below hb4 hcod3.lt
    have hb14 := hb13.trans (hb4.mono hsz3)
    have hsz4 := hb14.size
    have hPB := zero_byt M
    obtain ⟨ps, hps⟩ : ∃ ps, List.replicate M 0 = ps := ⟨_, rfl⟩
    rw [hps] at hown4 hPB
    obtain ⟨a4, c4, he4, hbs4⟩ := Bs.of_own hown4
    injection he4 with he4 _ he5
    subst he4 he5
    have HP := Lib.hid hbs4
    have HPB := Lib.hid hPB
    have hpl : M ≤ 70000 := by omega
    have hg4' : g < w4.heap.size := hcod4.lt
    clear hown4 hbs4 hPB hps hg4 hb13 hcod3 hb4
    go_wp2_with fail
    refine (PutFrame_any a (some ⟨w3.heap.size, 0, none⟩) len cap M M ns ps (by omega) hpl HPB.out _ (HB.out.below hb14) HP.out (HL.out.below hb14)).mono ?_
    intro e w5 hput
    obtain ⟨v5, rfl, hown5, hb5⟩ := put_pf hput
    clear hput
    obtain ⟨L, hL⟩ : ∃ L, pf ns ps = L := ⟨_, rfl⟩
    have hl5 : L.length ≤ 66600 := by have := pf_len ns ps; rw [← hL]; omega
    obtain ⟨m, hm⟩ : ∃ m, L.length = m := ⟨_, rfl⟩
    obtain ⟨E, hE⟩ : ∃ E, pe ps = E := ⟨_, rfl⟩
    rw [hL, hm] at hown5
    rw [hm] at hl5
    rw [hE]
    obtain ⟨b5, c5, rfl, hbs5⟩ := Bs.of_own hown5
    have hsz45 := hb5.size
    have HP5 := Lib.hid (HP.out.below hb5)
    have hcod5 := hcod4.below hb5 hcod4.lt
    have hb15 := hb14.trans (hb5.mono hsz4)
    have hsz5 := hb15.size
    have H5 := Lib.hid hbs5
    clear hown5 hbs5 hb5 hb14
    go_wp2_with fail
    refine (refPutFrame_any a (some ⟨w3.heap.size, 0, none⟩) len cap M M ns ps (by omega) hpl HPB.out _ (HB.out.below hb15) HP5.out).mono ?_
    intro e w6 hput
    obtain ⟨v6, rfl, hown6, hb6⟩ := put_pf hput
    clear hput
    rw [hL, hm] at hown6
    rw [hE]
    obtain ⟨b6, c6, rfl, hbs6⟩ := Bs.of_own hown6
    have HP6 := Lib.hid (HP5.out.below hb6)
    have H56 := Lib.hid (H5.out.below hb6)
    have hcod6 := hcod5.below hb6 hcod5.lt
    have hb16 := hb15.trans (hb6.mono hsz5)
    have hsz6 := hb16.size
    have hsz56 := hb6.size
    have H6 := Lib.hid hbs6
    have dE : ((E : Int) != (E : Int)) = false := by simp
    clear hown6 hbs6 hb6 hL hm hE hb15
    go_wp2_with fail
    refine (Equal_same b5 b6 m c5 c6 L (by omega) _ H56.out H6.out).mono ?_
    rintro e w7 ⟨rfl, hb7⟩
    have HP7 := Lib.hid (HP6.out.below hb7)
    have hcod7 := hcod6.below hb7 hcod6.lt
    have hb17 := hb16.trans (hb7.mono hsz6)
    have hsz7 := hb17.size
    have hsz67 := hb7.size
    clear hb7 H5 H56 H6 hb16
    go_wp2_with fail
    refine (Checksum_any (some ⟨w3.heap.size, 0, none⟩) M M ps (by omega) HPB.out _ HP7.out (HL.out.below hb17)).mono ?_
    rintro e w8 ⟨rfl, hb8⟩
    obtain ⟨cc, hcc⟩ : ∃ c, crc ps = c := ⟨_, rfl⟩
    rw [hcc]
    have HP8 := Lib.hid (HP7.out.below hb8)
    have hcod8 := hcod7.below hb8 hcod7.lt
    have hb18 := hb17.trans (hb8.mono hsz7)
    have hsz8 := hb18.size
    have hsz78 := hb8.size
    clear hb8 hb17
    go_wp2_with fail
    refine (refChecksum_any (some ⟨w3.heap.size, 0, none⟩) M M ps (by omega) HPB.out _ HP8.out).mono ?_
    rintro e w9 ⟨rfl, hb9⟩
    rw [hcc]
    have dc : ((cc : Int) != (cc : Int)) = false := by simp
    have HP9 := Lib.hid (HP8.out.below hb9)
    have hcod9 := hcod8.below hb9 hcod8.lt
    have hb19 := hb18.trans (hb9.mono hsz8)
    have hsz9 := hb19.size
    have hsz89 := hb9.size
    clear hb9 hb18 hcc HP5 HP6 HP7 HP8 hcod4 hcod5 hcod6 hcod7 hcod8
    go_wp2_with fail
    -- z
    refine (refPutFrame_any none (some ⟨w3.heap.size, 0, none⟩) 0 0 M M [] ps (by omega) hpl HPB.out _ (nil_bs _) HP9.out).mono ?_
    intro e w10 hput
    obtain ⟨v10, rfl, hown10, hb10⟩ := put_pf hput
    clear hput
    obtain ⟨U, hU⟩ : ∃ L, pf [] ps = L := ⟨_, rfl⟩
    have hl10 : U.length ≤ 65549 := by have := pf_len [] ps; rw [hU] at this; simpa using this
    have hUB : Byt U := by rw [← hU]; exact pf_byt Byt.nil HPB.out
    obtain ⟨u, hu⟩ : ∃ m, U.length = m := ⟨_, rfl⟩
    obtain ⟨E2, hE2⟩ : ∃ E, pe ps = E := ⟨_, rfl⟩
    rw [hU, hu] at hown10
    rw [hu] at hl10
    rw [hE2]
    have HUB := Lib.hid hUB
    obtain ⟨b10, c10, rfl, hbs10⟩ := Bs.of_own hown10
    have hb110 := hb19.trans (hb10.mono hsz9)
    have hsz10 := hb110.size
    have hcod10 := hcod9.below hb10 hcod9.lt
    have hg9 : g < w9.heap.size := hcod9.lt
    have hdis : ∀ x, b10 = some x → x.block ≠ g := by
      obtain ⟨_, _, e, _, _, _, _, hh⟩ := Cells.of_own hown10
      injection e with e _ _
      subst e
      intro x hx; have := hh x hx; omega
    clear hb10 hb19 hcod9 hU hu hE2 hUB HP9
    go_wp2_with fail
    refine (Spoilt_any g b10 u c10 U (by omega) HUB.out _ hcod10 hbs10 hdis).mono ?_
    rintro e w11 ⟨b11, m11, c11, ys11, rfl, hbs11, hy11, hm11, hcod11, hgr11⟩
    have hown11 := own_grown hown10 hgr11 hg9
    have hb111 := hb110.trans (grown_below hgr11 hsz10 (by omega))
    have hsz11 := hb111.size
    have hsz1011 := hgr11.size
    obtain ⟨b10', c10', e10, hbs1011⟩ := Bs.of_own hown11
    injection e10 with e10a _ e10b
    subst e10a e10b
    have HU11 := Lib.hid hbs1011
    have HX11 := Lib.hid hbs11
    have HY11 := Lib.hid hy11
    have HB11 := Lib.hid (HB.out.below hb111)
    clear hgr11 hb110 hbs10 hcod10 hown10 hown11 hbs1011 hbs11 hy11 hcod11 hdis
    go_wp2_with (first | (at_builtin; refine wpList_append_src rfl _ _ _ rfl w11.heap.size 5 i0 _ 1 1 Tryd.underlying22 hi0 hz0 hz1 hz2 rfl (by omega) _ _ _ rfl (World.ownsRow_nil _ _ _ _) b10 u c10 (byts U) rfl HU11.out.2.1 HU11.out.2.2.2.1 (by simp [HU11.out.1]) HU11.out.2.2.2.2 (byts_one _) (by unfold maxLen; omega) (by omega) (Nat.le_refl _) ?_; intro v12 w12 hown12 hgr12; have hb12 := (Below.refl w11.heap.size w11).grown hgr12 (Nat.le_refl _) (fun k e => by cases e); clear hgr12; rw [Nat.zero_add, List.nil_append] at hown12; have hsz12 := hb12.size; have HB12 := Lib.hid (HB11.out.below hb12)) | (at_builtin; refine wpList_append_src rfl _ _ _ rfl w11.heap.size 5 i0 _ 1 1 Tryd.underlying22 hi0 hz0 hz1 hz2 rfl (by omega) _ _ _ rfl hown12 a len cap (byts ns) rfl HB12.out.2.1 HB12.out.2.2.2.1 (by simp [HB12.out.1]) HB12.out.2.2.2.2 (byts_one _) (by unfold maxLen; omega) (by omega) (by omega) ?_; intro v13 w13 hown13 hgr13; have hb13 := hb12.grown hgr13 (by omega) (fun k e => (hown12.lt k e).1); clear hgr13))
    rw [← byts_append] at hown13
    have hsz13 := hb13.size
    have hb113 := hb111.trans (hb13.mono hsz11)
    have hsz113 := hb113.size
    have HU13 := Lib.hid (HU11.out.below hb13)
    have HX13 := Lib.hid (HX11.out.below hb13)
    obtain ⟨b13, c13, rfl, hbs13⟩ := Bs.of_own hown13
    have HV13 := Lib.hid hbs13
    clear hb111 hb12 hb13 hown12 hown13 hbs13
    go_wp2_with fail
    refine (refPutUint_any none 0 0 N [] (by omega) (by omega) _ (nil_bs _)).mono ?_
    rintro e w14 ⟨v14, rfl, hown14, hb14⟩
    rw [List.nil_append] at hown14
    have hl14 : (uenc N).length ≤ 10 := uenc_len10 (by omega)
    obtain ⟨b14, c14, rfl, hbs14⟩ := Bs.of_own hown14
    obtain ⟨u14, hu14⟩ : ∃ m, (uenc N).length = m := ⟨_, rfl⟩
    rw [hu14] at hbs14 hl14 ⊢
    have hb114 := hb113.trans (hb14.mono hsz113)
    have hsz14 := hb114.size
    have HB14 := Lib.hid (HB.out.below hb114)
    have HU14 := Lib.hid (HU13.out.below hb14)
    have HX14 := Lib.hid (HX13.out.below hb14)
    have HV14 := Lib.hid (HV13.out.below hb14)
    have HW14 := Lib.hid hbs14
    clear hb113 hb14 hown14 hu14 hbs14
    go_wp2_with fail
    have hRow : Rowed (w14.alloc (.cells #[.slice a len cap, .slice b10 u c10, .slice b11 m11 c11, .slice b13 (u + len) c13, .slice b14 u14 c14] 22)) w14.heap.size 5 := by
      have hc : ∀ k v, (#[.slice a len cap, .slice b10 u c10, .slice b11 m11 c11, .slice b13 (u + len) c13, .slice b14 u14 c14] : Array Value)[k]? = some v → (w14.alloc (.cells #[.slice a len cap, .slice b10 u c10, .slice b11 m11 c11, .slice b13 (u + len) c13, .slice b14 u14 c14] 22)).cell? ⟨w14.heap.size, k, none⟩ = some v := fun k v h => by
        rw [cell_of_row _ _ _ _ _ _ (heap_alloc_new w14 _)]; exact h
      intro k hk
      rcases (show k = 0 ∨ k = 1 ∨ k = 2 ∨ k = 3 ∨ k = 4 by omega) with rfl | rfl | rfl | rfl | rfl
      · exact ⟨_, _, _, _, hc 0 _ rfl, HB14.out.below ((Below.refl _ _).alloc (Nat.le_refl _) _), HNB.out, by omega⟩
      · exact ⟨_, _, _, _, hc 1 _ rfl, HU14.out.below ((Below.refl _ _).alloc (Nat.le_refl _) _), HUB.out, by omega⟩
      · exact ⟨_, _, _, _, hc 2 _ rfl, HX14.out.below ((Below.refl _ _).alloc (Nat.le_refl _) _), HY11.out, by omega⟩
      · exact ⟨_, _, _, _, hc 3 _ rfl, HV14.out.below ((Below.refl _ _).alloc (Nat.le_refl _) _), Byt.append HUB.out HNB.out, by omega⟩
      · exact ⟨_, _, _, _, hc 4 _ rfl, HW14.out.below ((Below.refl _ _).alloc (Nat.le_refl _) _), uenc_byt N, by omega⟩
    have hbT := hb114.alloc hsz14 (.cells #[.slice a len cap, .slice b10 u c10, .slice b11 m11 c11, .slice b13 (u + len) c13, .slice b14 u14 c14] 22)
    have hTl : w14.heap.size < (w14.alloc (.cells #[.slice a len cap, .slice b10 u c10, .slice b11 m11 c11, .slice b13 (u + len) c13, .slice b14 u14 c14] 22)).heap.size := by simp
    have HR := Lib.hid hRow
    have HLT := Lib.hid (HL.out.below hbT)
    clear hRow hb114 HB14 HU14 HX14 HV14 HW14 HU13 HX13 HV13 HU11 HX11 HB11 HB12
    generalize (w14.alloc (.cells #[.slice a len cap, .slice b10 u c10, .slice b11 m11 c11, .slice b13 (u + len) c13, .slice b14 u14 c14] 22)) = wT at *
    have hszT := hbT.size
    go_loopw [101] (fun v66 wr => ∃ k : Nat, k ≤ 5 ∧ v66 = .int .i64 k ∧ Below wT.heap.size wT wr) (fun v _ => 5 - (intOf v).toNat)
    case atStart => exact ⟨0, by omega, rfl, Below.refl _ _⟩
    case round =>
      obtain ⟨k, hk, rfl, hbr⟩ := hrel
      by_cases hlt : k < 5
      · obtain ⟨aY, nY, cY, ys, hcell, hbs, hyb, hn1⟩ := HR.out k hlt
        replace hcell := (hbr.cell (p := ⟨w14.heap.size, k, none⟩) hTl).trans hcell
        have hszr := hbr.size
        have HX := Lib.hid (hbs.below hbr)
        have HY := Lib.hid hyb
        have hfl := fd_len ys
        rw [hbs.1] at hfl
        obtain ⟨⟨fp, fn, fe⟩, hfd⟩ : ∃ f, fd ys = f := ⟨_, rfl⟩
        rw [hfd] at hfl
        simp only at hfl
        have HF := Lib.hid hfd
        obtain ⟨fl, hfl2⟩ : ∃ l, fp.length = l := ⟨_, rfl⟩
        rw [hfl2] at hfl
        have HFL := Lib.hid hfl2
        have d1 : ((fn : Int) != (fn : Int)) = false := by simp
        have d2 : ((fe : Int) != (fe : Int)) = false := by simp
        clear hbs hyb hfd hfl2
        go_wp2_with fail
        refine (Frame_any aY nY cY ys hn1 HY.out _ HX.out (HLT.out.below hbr)).mono ?_
        rintro e w15 ⟨v15, rfl, hown15, hb15⟩
        rw [HF.out] at hown15 ⊢
        simp only at hown15 ⊢
        rw [HFL.out] at hown15
        obtain ⟨b15, c15, rfl, hbs15⟩ := Bs.of_own hown15
        have HX15 := Lib.hid (HX.out.below hb15)
        have HZ15 := Lib.hid hbs15
        have hbr15 := hbr.trans (hb15.mono hszr)
        have hszr15 := hbr15.size
        clear hown15 hb15 hbs15 hbr
        go_wp2_with fail
        refine (refFrame_any aY nY cY ys hn1 HY.out _ HX15.out).mono ?_
        rintro e w16 ⟨v16, rfl, hown16, hb16⟩
        rw [HF.out] at hown16 ⊢
        simp only at hown16 ⊢
        rw [HFL.out] at hown16
        obtain ⟨b16, c16, rfl, hbs16⟩ := Bs.of_own hown16
        have HZ1516 := Lib.hid (HZ15.out.below hb16)
        have HZ16 := Lib.hid hbs16
        have hbr16 := hbr15.trans (hb16.mono hszr15)
        have hszr16 := hbr16.size
        clear hown16 hb16 hbs16 hbr15
        go_wp2_with fail
        refine (Equal_same b15 b16 fl c15 c16 fp (by omega) _ HZ1516.out HZ16.out).mono ?_
        rintro e w17 ⟨rfl, hb17⟩
        have hbr17 := hbr16.trans (hb17.mono hszr16)
        clear hb17 hbr16
        go_wp2_with fail
        exact ⟨⟨k + 1, by omega, by go_num, hbr17⟩, by simp [intOf]; omega⟩
      · obtain rfl : k = 5 := by omega
        go_wp2_with fail
        go_ret
        exact ⟨rfl, hbT.trans (hbr.mono hszT)⟩
  · have d0 : (x == 11) = false := by simp; omega
    have HP := Lib.hid (HQ.out.below hb13)
    have HPB := HQB
    have hpl : len1 ≤ 70000 := by omega
    have hcod4 := hcod3
    have hb14 := hb13
    have hsz4 := hsz3
    have hg4' : g < w3.heap.size := hcod4.lt
    clear hcod3 hb13 hsz3
    go_wp2_with fail
    refine (PutFrame_any a a1 len cap len1 cap1 ns qs (by omega) hpl HPB.out _ (HB.out.below hb14) HP.out (HL.out.below hb14)).mono ?_
    intro e w5 hput
    obtain ⟨v5, rfl, hown5, hb5⟩ := put_pf hput
    clear hput
    obtain ⟨L, hL⟩ : ∃ L, pf ns qs = L := ⟨_, rfl⟩
    have hl5 : L.length ≤ 66600 := by have := pf_len ns qs; rw [← hL]; omega
    obtain ⟨m, hm⟩ : ∃ m, L.length = m := ⟨_, rfl⟩
    obtain ⟨E, hE⟩ : ∃ E, pe qs = E := ⟨_, rfl⟩
    rw [hL, hm] at hown5
    rw [hm] at hl5
    rw [hE]
    obtain ⟨b5, c5, rfl, hbs5⟩ := Bs.of_own hown5
    have hsz45 := hb5.size
    have HP5 := Lib.hid (HP.out.below hb5)
    have hcod5 := hcod4.below hb5 hcod4.lt
    have hb15 := hb14.trans (hb5.mono hsz4)
    have hsz5 := hb15.size
    have H5 := Lib.hid hbs5
    clear hown5 hbs5 hb5 hb14
    go_wp2_with fail
    refine (refPutFrame_any a a1 len cap len1 cap1 ns qs (by omega) hpl HPB.out _ (HB.out.below hb15) HP5.out).mono ?_
    intro e w6 hput
    obtain ⟨v6, rfl, hown6, hb6⟩ := put_pf hput
    clear hput
    rw [hL, hm] at hown6
    rw [hE]
    obtain ⟨b6, c6, rfl, hbs6⟩ := Bs.of_own hown6
    have HP6 := Lib.hid (HP5.out.below hb6)
    have H56 := Lib.hid (H5.out.below hb6)
    have hcod6 := hcod5.below hb6 hcod5.lt
    have hb16 := hb15.trans (hb6.mono hsz5)
    have hsz6 := hb16.size
    have hsz56 := hb6.size
    have H6 := Lib.hid hbs6
    have dE : ((E : Int) != (E : Int)) = false := by simp
    clear hown6 hbs6 hb6 hL hm hE hb15
    go_wp2_with fail
    refine (Equal_same b5 b6 m c5 c6 L (by omega) _ H56.out H6.out).mono ?_
    rintro e w7 ⟨rfl, hb7⟩
    have HP7 := Lib.hid (HP6.out.below hb7)
    have hcod7 := hcod6.below hb7 hcod6.lt
    have hb17 := hb16.trans (hb7.mono hsz6)
    have hsz7 := hb17.size
    have hsz67 := hb7.size
    clear hb7 H5 H56 H6 hb16
    go_wp2_with fail
    refine (Checksum_any a1 len1 cap1 qs (by omega) HPB.out _ HP7.out (HL.out.below hb17)).mono ?_
    rintro e w8 ⟨rfl, hb8⟩
    obtain ⟨cc, hcc⟩ : ∃ c, crc qs = c := ⟨_, rfl⟩
    rw [hcc]
    have HP8 := Lib.hid (HP7.out.below hb8)
    have hcod8 := hcod7.below hb8 hcod7.lt
    have hb18 := hb17.trans (hb8.mono hsz7)
    have hsz8 := hb18.size
    have hsz78 := hb8.size
    clear hb8 hb17
    go_wp2_with fail
    refine (refChecksum_any a1 len1 cap1 qs (by omega) HPB.out _ HP8.out).mono ?_
    rintro e w9 ⟨rfl, hb9⟩
    rw [hcc]
    have dc : ((cc : Int) != (cc : Int)) = false := by simp
    have HP9 := Lib.hid (HP8.out.below hb9)
    have hcod9 := hcod8.below hb9 hcod8.lt
    have hb19 := hb18.trans (hb9.mono hsz8)
    have hsz9 := hb19.size
    have hsz89 := hb9.size
    clear hb9 hb18 hcc HP5 HP6 HP7 HP8 hcod4 hcod5 hcod6 hcod7 hcod8
    go_wp2_with fail
    -- z
    refine (refPutFrame_any none a1 0 0 len1 cap1 [] qs (by omega) hpl HPB.out _ (nil_bs _) HP9.out).mono ?_
    intro e w10 hput
    obtain ⟨v10, rfl, hown10, hb10⟩ := put_pf hput
    clear hput
    obtain ⟨U, hU⟩ : ∃ L, pf [] qs = L := ⟨_, rfl⟩
    have hl10 : U.length ≤ 65549 := by have := pf_len [] qs; rw [hU] at this; simpa using this
    have hUB : Byt U := by rw [← hU]; exact pf_byt Byt.nil HPB.out
    obtain ⟨u, hu⟩ : ∃ m, U.length = m := ⟨_, rfl⟩
    obtain ⟨E2, hE2⟩ : ∃ E, pe qs = E := ⟨_, rfl⟩
    rw [hU, hu] at hown10
    rw [hu] at hl10
    rw [hE2]
    have HUB := Lib.hid hUB
    obtain ⟨b10, c10, rfl, hbs10⟩ := Bs.of_own hown10
    have hb110 := hb19.trans (hb10.mono hsz9)
    have hsz10 := hb110.size
    have hcod10 := hcod9.below hb10 hcod9.lt
    have hg9 : g < w9.heap.size := hcod9.lt
    have hdis : ∀ x, b10 = some x → x.block ≠ g := by
      obtain ⟨_, _, e, _, _, _, _, hh⟩ := Cells.of_own hown10
      injection e with e _ _
      subst e
      intro x hx; have := hh x hx; omega
    clear hb10 hb19 hcod9 hU hu hE2 hUB HP9
    go_wp2_with fail
    refine (Spoilt_any g b10 u c10 U (by omega) HUB.out _ hcod10 hbs10 hdis).mono ?_
    rintro e w11 ⟨b11, m11, c11, ys11, rfl, hbs11, hy11, hm11, hcod11, hgr11⟩
    have hown11 := own_grown hown10 hgr11 hg9
    have hb111 := hb110.trans (grown_below hgr11 hsz10 (by omega))
    have hsz11 := hb111.size
    have hsz1011 := hgr11.size
    obtain ⟨b10', c10', e10, hbs1011⟩ := Bs.of_own hown11
    injection e10 with e10a _ e10b
    subst e10a e10b
    have HU11 := Lib.hid hbs1011
    have HX11 := Lib.hid hbs11
    have HY11 := Lib.hid hy11
    have HB11 := Lib.hid (HB.out.below hb111)
    clear hgr11 hb110 hbs10 hcod10 hown10 hown11 hbs1011 hbs11 hy11 hcod11 hdis
    go_wp2_with (first | (at_builtin; refine wpList_append_src rfl _ _ _ rfl w11.heap.size 5 i0 _ 1 1 Tryd.underlying22 hi0 hz0 hz1 hz2 rfl (by omega) _ _ _ rfl (World.ownsRow_nil _ _ _ _) b10 u c10 (byts U) rfl HU11.out.2.1 HU11.out.2.2.2.1 (by simp [HU11.out.1]) HU11.out.2.2.2.2 (byts_one _) (by unfold maxLen; omega) (by omega) (Nat.le_refl _) ?_; intro v12 w12 hown12 hgr12; have hb12 := (Below.refl w11.heap.size w11).grown hgr12 (Nat.le_refl _) (fun k e => by cases e); clear hgr12; rw [Nat.zero_add, List.nil_append] at hown12; have hsz12 := hb12.size; have HB12 := Lib.hid (HB11.out.below hb12)) | (at_builtin; refine wpList_append_src rfl _ _ _ rfl w11.heap.size 5 i0 _ 1 1 Tryd.underlying22 hi0 hz0 hz1 hz2 rfl (by omega) _ _ _ rfl hown12 a len cap (byts ns) rfl HB12.out.2.1 HB12.out.2.2.2.1 (by simp [HB12.out.1]) HB12.out.2.2.2.2 (byts_one _) (by unfold maxLen; omega) (by omega) (by omega) ?_; intro v13 w13 hown13 hgr13; have hb13 := hb12.grown hgr13 (by omega) (fun k e => (hown12.lt k e).1); clear hgr13))
    rw [← byts_append] at hown13
    have hsz13 := hb13.size
    have hb113 := hb111.trans (hb13.mono hsz11)
    have hsz113 := hb113.size
    have HU13 := Lib.hid (HU11.out.below hb13)
    have HX13 := Lib.hid (HX11.out.below hb13)
    obtain ⟨b13, c13, rfl, hbs13⟩ := Bs.of_own hown13
    have HV13 := Lib.hid hbs13
    clear hb111 hb12 hb13 hown12 hown13 hbs13
    go_wp2_with fail
    refine (refPutUint_any none 0 0 N [] (by omega) (by omega) _ (nil_bs _)).mono ?_
    rintro e w14 ⟨v14, rfl, hown14, hb14⟩
    rw [List.nil_append] at hown14
    have hl14 : (uenc N).length ≤ 10 := uenc_len10 (by omega)
    obtain ⟨b14, c14, rfl, hbs14⟩ := Bs.of_own hown14
    obtain ⟨u14, hu14⟩ : ∃ m, (uenc N).length = m := ⟨_, rfl⟩
    rw [hu14] at hbs14 hl14 ⊢
    have hb114 := hb113.trans (hb14.mono hsz113)
    have hsz14 := hb114.size
    have HB14 := Lib.hid (HB.out.below hb114)
    have HU14 := Lib.hid (HU13.out.below hb14)
    have HX14 := Lib.hid (HX13.out.below hb14)
    have HV14 := Lib.hid (HV13.out.below hb14)
    have HW14 := Lib.hid hbs14
    clear hb113 hb14 hown14 hu14 hbs14
    go_wp2_with fail
    have hRow : Rowed (w14.alloc (.cells #[.slice a len cap, .slice b10 u c10, .slice b11 m11 c11, .slice b13 (u + len) c13, .slice b14 u14 c14] 22)) w14.heap.size 5 := by
      have hc : ∀ k v, (#[.slice a len cap, .slice b10 u c10, .slice b11 m11 c11, .slice b13 (u + len) c13, .slice b14 u14 c14] : Array Value)[k]? = some v → (w14.alloc (.cells #[.slice a len cap, .slice b10 u c10, .slice b11 m11 c11, .slice b13 (u + len) c13, .slice b14 u14 c14] 22)).cell? ⟨w14.heap.size, k, none⟩ = some v := fun k v h => by
        rw [cell_of_row _ _ _ _ _ _ (heap_alloc_new w14 _)]; exact h
      intro k hk
      rcases (show k = 0 ∨ k = 1 ∨ k = 2 ∨ k = 3 ∨ k = 4 by omega) with rfl | rfl | rfl | rfl | rfl
      · exact ⟨_, _, _, _, hc 0 _ rfl, HB14.out.below ((Below.refl _ _).alloc (Nat.le_refl _) _), HNB.out, by omega⟩
      · exact ⟨_, _, _, _, hc 1 _ rfl, HU14.out.below ((Below.refl _ _).alloc (Nat.le_refl _) _), HUB.out, by omega⟩
      · exact ⟨_, _, _, _, hc 2 _ rfl, HX14.out.below ((Below.refl _ _).alloc (Nat.le_refl _) _), HY11.out, by omega⟩
      · exact ⟨_, _, _, _, hc 3 _ rfl, HV14.out.below ((Below.refl _ _).alloc (Nat.le_refl _) _), Byt.append HUB.out HNB.out, by omega⟩
      · exact ⟨_, _, _, _, hc 4 _ rfl, HW14.out.below ((Below.refl _ _).alloc (Nat.le_refl _) _), uenc_byt N, by omega⟩
    have hbT := hb114.alloc hsz14 (.cells #[.slice a len cap, .slice b10 u c10, .slice b11 m11 c11, .slice b13 (u + len) c13, .slice b14 u14 c14] 22)
    have hTl : w14.heap.size < (w14.alloc (.cells #[.slice a len cap, .slice b10 u c10, .slice b11 m11 c11, .slice b13 (u + len) c13, .slice b14 u14 c14] 22)).heap.size := by simp
    have HR := Lib.hid hRow
    have HLT := Lib.hid (HL.out.below hbT)
    clear hRow hb114 HB14 HU14 HX14 HV14 HW14 HU13 HX13 HV13 HU11 HX11 HB11 HB12
    generalize (w14.alloc (.cells #[.slice a len cap, .slice b10 u c10, .slice b11 m11 c11, .slice b13 (u + len) c13, .slice b14 u14 c14] 22)) = wT at *
    have hszT := hbT.size
    go_loopw [101] (fun v66 wr => ∃ k : Nat, k ≤ 5 ∧ v66 = .int .i64 k ∧ Below wT.heap.size wT wr) (fun v _ => 5 - (intOf v).toNat)
    case atStart => exact ⟨0, by omega, rfl, Below.refl _ _⟩
    case round =>
      obtain ⟨k, hk, rfl, hbr⟩ := hrel
      by_cases hlt : k < 5
      · obtain ⟨aY, nY, cY, ys, hcell, hbs, hyb, hn1⟩ := HR.out k hlt
        replace hcell := (hbr.cell (p := ⟨w14.heap.size, k, none⟩) hTl).trans hcell
        have hszr := hbr.size
        have HX := Lib.hid (hbs.below hbr)
        have HY := Lib.hid hyb
        have hfl := fd_len ys
        rw [hbs.1] at hfl
        obtain ⟨⟨fp, fn, fe⟩, hfd⟩ : ∃ f, fd ys = f := ⟨_, rfl⟩
        rw [hfd] at hfl
        simp only at hfl
        have HF := Lib.hid hfd
        obtain ⟨fl, hfl2⟩ : ∃ l, fp.length = l := ⟨_, rfl⟩
        rw [hfl2] at hfl
        have HFL := Lib.hid hfl2
        have d1 : ((fn : Int) != (fn : Int)) = false := by simp
        have d2 : ((fe : Int) != (fe : Int)) = false := by simp
        clear hbs hyb hfd hfl2
        go_wp2_with fail
        refine (Frame_any aY nY cY ys hn1 HY.out _ HX.out (HLT.out.below hbr)).mono ?_
        rintro e w15 ⟨v15, rfl, hown15, hb15⟩
        rw [HF.out] at hown15 ⊢
        simp only at hown15 ⊢
        rw [HFL.out] at hown15
        obtain ⟨b15, c15, rfl, hbs15⟩ := Bs.of_own hown15
        have HX15 := Lib.hid (HX.out.below hb15)
        have HZ15 := Lib.hid hbs15
        have hbr15 := hbr.trans (hb15.mono hszr)
        have hszr15 := hbr15.size
        clear hown15 hb15 hbs15 hbr
        go_wp2_with fail
        refine (refFrame_any aY nY cY ys hn1 HY.out _ HX15.out).mono ?_
        rintro e w16 ⟨v16, rfl, hown16, hb16⟩
        rw [HF.out] at hown16 ⊢
        simp only at hown16 ⊢
        rw [HFL.out] at hown16
        obtain ⟨b16, c16, rfl, hbs16⟩ := Bs.of_own hown16
        have HZ1516 := Lib.hid (HZ15.out.below hb16)
        have HZ16 := Lib.hid hbs16
        have hbr16 := hbr15.trans (hb16.mono hszr15)
        have hszr16 := hbr16.size
        clear hown16 hb16 hbs16 hbr15
        go_wp2_with fail
        refine (Equal_same b15 b16 fl c15 c16 fp (by omega) _ HZ1516.out HZ16.out).mono ?_
        rintro e w17 ⟨rfl, hb17⟩
        have hbr17 := hbr16.trans (hb17.mono hszr16)
        clear hb17 hbr16
        go_wp2_with fail
        exact ⟨⟨k + 1, by omega, by go_num, hbr17⟩, by simp [intOf]; omega⟩
      · obtain rfl : k = 5 := by omega
        go_wp2_with fail
        go_ret
        exact ⟨rfl, hbT.trans (hbr.mono hszT)⟩

/-! ### THE ROW's STEP -/
set_option maxRecDepth 100000 in
theorem lifted (os : Os) (started : os.Started) (H : Type) (enc : TypeId × Value → H) :
    ReturnsInHanded {} Tryd.checked os 5 .any (fun w args => (Rows.codecFramesSpec.pre enc Tryd.prog Tryd.f5 [] false w args ∧ laidMetH Tryd.prog [("warmpath/codec.remainders", Rows.laid_warmpath_codec_remainders)] w) ∧ sizedMet enc Tryd.prog Tryd.f5 (OpenSpec.ofChange Rows.codecFramesSpec) false w args)
      (Rows.codecFramesSpec.post enc Tryd.prog Tryd.f5 false true false false) := by
  refine returnsInHanded_of_change_and (C := Tryd.checked) (X := fun w _ => laidMetH Tryd.prog [("warmpath/codec.remainders", Rows.laid_warmpath_codec_remainders)] w) (fun _ _ _ hh h => h.of_heap hh) own started (by kernel_rfl) Tryd.func5
    (ChangeSpec.witness_shaped (enc := enc) (C := Tryd.checked) (os := os) (X := fun w _ => laidMetH Tryd.prog [("warmpath/codec.remainders", Rows.laid_warmpath_codec_remainders)] w) false (World.doorLaid Tryd.prog 400 os) #[.slice none 0 0, .slice none 0 0, .int .u32 0, .slice none 0 0] 8 rfl (World.shaped_of_RefB (by kernel_rfl) (by kernel_rfl)) (by kernel_rfl) (by kernel_rfl) (by kernel_rfl) (door_met os _)) ?_
  intro W base args ds gs before hval0 hW _ _ hL _
  have hval : ∀ (j : Nat) t v, Tryd.f5.params[j]? = some t → args[j]? = some v → Value.okWide Tryd.prog W .any base t v := hval0
  have hW' := hW
  obtain ⟨p, q, hA0, hV, rfl, hfz, hnd⟩ := hW
  have hA : DataW.TrodAll enc Tryd.prog W 0 (fun _ => true) true Tryd.f5.params.toList args.toList ds p := hA0
  rw [Tryd.params5] at hA hval
  obtain ⟨v0, vs0, d0, ds0, p0, q0, hargs, rfl, rfl, h0, r0⟩ := trodAll_cons hA
  obtain ⟨v1, vs1, d1, ds1, p1, q1, rfl, rfl, rfl, h1, r1⟩ := trodAll_cons r0
  obtain ⟨v2, vs2, d2, ds2, p2, q2, rfl, rfl, rfl, h2, r2⟩ := trodAll_cons r1
  obtain ⟨v3, vs3, d3, ds3, p3, q3, rfl, rfl, rfl, h3, r3⟩ := trodAll_cons r2
  obtain ⟨rfl, rfl, rfl⟩ := trodAll_nil r3
  obtain rfl : args = #[v0, v1, v2, v3] := by cases args; simp_all
  obtain ⟨rfl, rfl⟩ := trodVars_none hV
  have k0 := h0
  have lt0 : ∀ x ∈ p0, x.block < W.heap.size := by obtain ⟨m, hm⟩ := k0; exact DataW.trod_lt m _ _ _ hm
  obtain ⟨a0, len0, cap0, zs0, rfl, w0⟩ := in_ints (k := .u8) Tryd.underlying22 Tryd.underlying5 (by kernel_rfl) (hval 0 22 v0 rfl rfl) h0
  have k1 := h1
  have lt1 : ∀ x ∈ p1, x.block < W.heap.size := by obtain ⟨m, hm⟩ := k1; exact DataW.trod_lt m _ _ _ hm
  obtain ⟨a1, len1, cap1, zs1, rfl, w1⟩ := in_ints (k := .u8) Tryd.underlying22 Tryd.underlying5 (by kernel_rfl) (hval 1 22 v1 rfl rfl) h1
  obtain ⟨a2, rfl, rfl, rfl, w2⟩ := open_int Tryd.underlying39 (hval 2 39 v2 rfl rfl) h2
  have k3 := h3
  have lt3 : ∀ x ∈ p3, x.block < W.heap.size := by obtain ⟨m, hm⟩ := k3; exact DataW.trod_lt m _ _ _ hm
  obtain ⟨a3, len3, cap3, zs3, rfl, w3⟩ := in_ints (k := .u8) Tryd.underlying22 Tryd.underlying5 (by kernel_rfl) (hval 3 22 v3 rfl rfl) h3
  clear hA0 hval0
  refine (walk a0 len0 cap0 zs0 a1 len1 cap1 zs1 a2 a3 len3 cap3 zs3 W w0 w1 w2 w3 (of_laid hL)).mono fun e W' ⟨he, bel⟩ => ?_
  subst he
  exact ⟨_, rfl, _, _, _, [], _, [], hW', trodAll_mk1 (shut_bool Tryd.underlying4 _), (trodAll_cons_mk (Below.trod laidOut (by kernel_rfl) (of_decide_eq_true (by kernel_rfl)) k0 bel lt0) (trodAll_cons_mk (Below.trod laidOut (by kernel_rfl) (of_decide_eq_true (by kernel_rfl)) k1 bel lt1) (trodAll_cons_mk (shut_int Tryd.underlying39 w2) (trodAll_cons_mk (Below.trod laidOut (by kernel_rfl) (of_decide_eq_true (by kernel_rfl)) k3 bel lt3) trodAll_mk0)))), rfl, bel.frame _, fun h => by cases h⟩

theorem over : Rows.CodecFramesSaid :=
  OpenClaim.holds_of_wide 5 Tryd.f5 rfl rfl rfl rfl rfl rfl rfl ⟨rfl, rfl, rfl, rfl, rfl⟩ rfl rfl rfl rfl rfl (by kernel_rfl) Tryd.func5 (by kernel_rfl)
    (of_decide_eq_true (by kernel_rfl)) (by unfold Func.isWrapper; first | (rw [if_pos (by decide +kernel)]; kernel_rfl) | (rw [if_neg (by decide +kernel)]; exact ⟨rfl, rfl⟩))
    (fun os started H enc _ => lifted os started H enc)

/-- the tied card -/
theorem proved : Rows.CodecFramesCardSaid :=
  Claim7.holds_tied_plain_at .later [] [.data] true (true, "61aeac0dd48ce8b2014925adcdba2620fba36b42f97a5ce8af2eb1bcb5960bdd") false
    over (fun _ h => by cases h) (by kernel_rfl) (fun _ h => by cases h) codecFrames_row_tie rfl ⟨rfl, rfl⟩ (by kernel_rfl) rfl
    (fun f fn hf hfn => by
      obtain rfl : f = 5 := Option.some.inj ((show Tryd.prog.funcNamed "warmpath/warmpathlaw01.CodecFrames" = some 5 by kernel_rfl).symm.trans hf) |>.symm
      obtain rfl : fn = Tryd.f5 := (Option.some.inj (Tryd.func5.symm.trans hfn)).symm
      exact ⟨by kernel_rfl, fun j t ht => by
        rw [Tryd.params5] at ht
        have hm : t ∈ [22, 22, 39, 22] := by simpa using Array.mem_of_getElem? ht
        have hall : ([22, 22, 39, 22].all fun u => !Tryd.prog.wantsStandIn u) = true := by kernel_rfl
        exact (show Tryd.prog.wantsStandIn t = false by simpa using List.all_eq_true.1 hall t hm)⟩)
    (by kernel_rfl)
#print axioms proved
end Go.Proofs.YtfgjnkgadnmegaaDoor.codecFrames
