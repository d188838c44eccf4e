/-
  For all inputs of a drawn profile that was cut behind its header the whole records are recovered, and what follows without being a record changes nothing; no condition beyond the listed table, which is tied.
-/
import Derived.Test.YtkgdogccnkjcgaaDoorCutP
import Derived.IntWalk
import Derived.Test.YtkgdogccnkjcgaaDoorLaidT
import Derived.Test.YtkgdogccnkjcgaaDoorTie
import Derived.Test.YtkgdogccnkjcgaaDoorCards
namespace Go.Proofs.YtkgdogccnkjcgaaDoor.recordCuts
open Go.ChangeShapes Go.WideShapes Go.ChangeAt Go.RowKit
set_option linter.unusedVariables false

set_option maxRecDepth 100000 in
set_option maxHeartbeats 16000000 in
theorem walk (a : Option Addr) (len cap : Nat) (zs : List Int) (x1 : Int) (w : World) (w0 : InInts .u8 w a len cap zs) (w1 : (Lit.int .u16 x1).wf = true) (hl : Laid w) :
    Calls Tryd.prog 6 #[.slice a len cap, .int .u16 x1] w fun e w' => e = .returned (.bool true) ∧ Below w.heap.size w w' := by
  obtain ⟨i3, hi3, hy0, hy1, hy2⟩ := info_parts Tryd.info3
  obtain ⟨K, hK, rfl⟩ : ∃ N : Nat, N < 65536 ∧ x1 = N := ⟨x1.toNat, by have := bounds_u16 w1; omega, by have := bounds_u16 w1; omega⟩
  have HL := Lib.hid hl
  have H0 := Lib.hid w0
  clear hl w0 w1
  go_enter Tryd.func6, Tryd.ntmps6
  go_wp2_with fail
  refine (awake_any _ HL.out).mono ?_
  rintro e w1 ⟨rfl, hb1⟩
  have H1 := Lib.hid (H0.out.below hb1)
  go_wp2_with fail
  refine (New_any a len cap zs 500 (by omega) (by omega) _ H1.out).mono ?_
  rintro e w2 ⟨g, rfl, hg1, hcod2, hb2⟩
  have hb12 := hb1.trans (hb2.mono hb1.size)
  have hgw : w.heap.size ≤ g := by have := hb1.size; omega
  clear hb1 hb2 H1 hg1
  go_wp2_with fail
  refine (Shard_any g 12 (by omega) _ hcod2).mono ?_
  rintro e w3 ⟨h, v, wh, ls, rfl, _, hown3, hch3, hls, hgd, hck, hpr, hcod3, hgr3⟩
  obtain ⟨sa, sc, rfl, hrs3⟩ := Rs.of_own hown3 hch3
  have hb3 := below_grown1 hb12 hgr3 hb12.size hgw
  obtain ⟨rs, hrs⟩ : ∃ rs, ls.map (·.1) = rs := ⟨_, rfl⟩
  have hgd' : ∀ r ∈ rs, Good r ∧ r.kind ≠ 3 ∧ r.chain.length ≤ 5 := by
    rw [← hrs]; intro r hr; obtain ⟨p, hp, rfl⟩ := List.mem_map.1 hr; exact hgd p hp
  have hrl : ls.length = rs.length := by rw [← hrs]; simp
  rw [hrs] at hrs3
  rw [hrl] at hls hrs3 ⊢
  have hal := (Below.refl w3.heap.size w3).alloc (Nat.le_refl _) (.cells #[.int .i64 h.rel, .int .i64 h.mach, .int .i64 h.num, .int .i64 h.per, .int .u64 ((h.print : Nat) : Int), .slice sa rs.length sc, .bool wh] 32)
  have hb4 := hb3.alloc hb3.size (.cells #[.int .i64 h.rel, .int .i64 h.mach, .int .i64 h.num, .int .i64 h.per, .int .u64 ((h.print : Nat) : Int), .slice sa rs.length sc, .bool wh] 32)
  have hT4 : (w3.alloc (.cells #[.int .i64 h.rel, .int .i64 h.mach, .int .i64 h.num, .int .i64 h.per, .int .u64 ((h.print : Nat) : Int), .slice sa rs.length sc, .bool wh] 32)).heap[w3.heap.size]? = some (.cells #[.int .i64 h.rel, .int .i64 h.mach, .int .i64 h.num, .int .i64 h.per, .int .u64 ((h.print : Nat) : Int), .slice sa rs.length sc, .bool wh] 32 (0, 0)) := heap_alloc_new _ _
  have HRS4 := Lib.hid (hrs3.below hal)
  have HGD := Lib.hid hgd'
  have hw4 : (w3.alloc (.cells #[.int .i64 h.rel, .int .i64 h.mach, .int .i64 h.num, .int .i64 h.per, .int .u64 ((h.print : Nat) : Int), .slice sa rs.length sc, .bool wh] 32)).heap.size = w3.heap.size + 1 := by simp
  have hwS : w.heap.size ≤ w3.heap.size := hb3.size
  clear hcod2 hb12 hrs3 hgd hcod3 hgr3 hb3 hal hown3 hch3 hrs hrl hgd'
  go_upto_region 5 with fail
  generalize (w3.alloc (.cells #[.int .i64 h.rel, .int .i64 h.mach, .int .i64 h.num, .int .i64 h.per, .int .u64 ((h.print : Nat) : Int), .slice sa rs.length sc, .bool wh] 32)) = w4 at *
  generalize w3.heap.size = S at *
  have c0 : w4.cell? ⟨S, 0, none⟩ = some (.int .i64 h.rel) := cell_of_row _ _ 0 _ _ _ hT4
  have c1 : w4.cell? ⟨S, 1, none⟩ = some (.int .i64 h.mach) := cell_of_row _ _ 1 _ _ _ hT4
  have c2 : w4.cell? ⟨S, 2, none⟩ = some (.int .i64 h.num) := cell_of_row _ _ 2 _ _ _ hT4
  have c3 : w4.cell? ⟨S, 3, none⟩ = some (.int .i64 h.per) := cell_of_row _ _ 3 _ _ _ hT4
  have c4 : w4.cell? ⟨S, 4, none⟩ = some (.int .u64 ((h.print : Nat) : Int)) := cell_of_row _ _ 4 _ _ _ hT4
  have c5 : w4.cell? ⟨S, 5, none⟩ = some (.slice sa rs.length sc) := cell_of_row _ _ 5 _ _ _ hT4
  have c6 : w4.cell? ⟨S, 6, none⟩ = some (.bool wh) := cell_of_row _ _ 6 _ _ _ hT4
  have hSl := (Array.getElem?_eq_some_iff.1 hT4).1
  have hrl8 : (recs rs).length ≤ 6000 := by have := recs_le (fun r hr => (HGD.out r hr).1); omega
  have hpl := pre_len hck hpr
  obtain ⟨P, hP⟩ : ∃ P, lettersV ++ frame (hpay h) = P := ⟨_, rfl⟩
  obtain ⟨np, hnp⟩ : ∃ np, P.length = np := ⟨_, rfl⟩
  rw [hP, hnp] at hpl
  have hbP : Byt P := by rw [← hP]; exact Byt.append (by intro x hx; simp at hx; omega) (frame_byt (hpay_byt h))
  have HP := Lib.hid hP
  have HNP := Lib.hid hnp
  have HBP := Lib.hid hbP
  clear hP hnp hbP
  go_wp2_with fail
  refine (Begin_any h hpr _ (HL.out.below hb4)).mono ?_
  rintro e w5 ⟨v5, rfl, hown5, hb5⟩
  rw [hck]
  rw [if_pos hck, HP.out, HNP.out] at hown5
  obtain ⟨a5, cap5, rfl, hbs5⟩ := Bs.of_own hown5
  have hal5 := (Below.refl w5.heap.size w5).alloc (Nat.le_refl _) (.cells #[.int .i64 (np : Int)] 3)
  have hb56 := hb5.trans (hal5.mono hb5.size)
  have hown6 := ownsRow_mono2 (b' := S + 1) (own_below hown5 hal5) (by omega)
  have hend6 : (w5.alloc (.cells #[.int .i64 (np : Int)] 3)).ownsRow (S + 1) 3 1 (.slice (some ⟨w5.heap.size, 0, none⟩) 1 1) (0 + 1) (ints (endsL np rs 0)) := by
    have := own_fresh (S + 1) (heap_alloc_new w5 (.cells #[.int .i64 (np : Int)] 3)) (by have := hb5.size; omega)
    simpa [endsL, ends, recs] using this
  have hb46 : Below (S + 1) w4 (w5.alloc (.cells #[.int .i64 (np : Int)] 3)) := by have := hb56; rw [hw4] at this; exact this
  clear hbs5 hal5 hown5 hb5 hb56 c0 c1 c2 c3 c4 c5 c6
  go_upto_region 7 with fail
  generalize (w5.alloc (.cells #[.int .i64 (np : Int)] 3)) = w6 at *
  generalize w5.heap.size = EB at *
  go_wp2_with fail
  go_loopw [7, 9, 10] (fun v7 v9 v10 wr => ∃ i : Nat, i ≤ rs.length ∧ v10 = .int .i64 i ∧ wr.ownsRow (S + 1) 5 1 v7 (P ++ recs (rs.take i)).length (byts (P ++ recs (rs.take i))) ∧ wr.ownsRow (S + 1) 3 1 v9 (i + 1) (ints (endsL np rs i)) ∧ Below (S + 1) w4 wr) (fun _ _ v _ => rs.length - (intOf v).toNat)
  case atStart => exact ⟨0, by omega, rfl, by have e : P ++ recs (rs.take 0) = P := by simp [recs]
                                              rw [e, HNP.out]; exact hown6, hend6, hb46⟩
  case round =>
    clear hown6 hend6 hb46
    obtain ⟨i, hi, rfl, hown7, hown9, hb⟩ := hrel
    have hTr := (hb.block S (by omega)).trans hT4
    have hSr := (Array.getElem?_eq_some_iff.1 hTr).1
    have r5 : wr.cell? ⟨S, 5, none⟩ = some (.slice sa rs.length sc) := cell_of_row _ _ 5 _ _ _ hTr
    have hb4r : Below w4.heap.size w4 wr := by rw [hw4]; exact hb
    have HLr := Lib.hid (HL.out.below (hb4.trans (hb4r.mono hb4.size)))
    have HRSr := Lib.hid (HRS4.out.below hb4r)
    have hle := recs_take_mono rs (show i ≤ rs.length from hi)
    rw [List.take_length] at hle
    have hL7 : (P ++ recs (rs.take i)).length = np + (recs (rs.take i)).length := by rw [List.length_append, HNP.out]
    by_cases hlt : i < rs.length
    case pos =>
      obtain ⟨b, off, rfl, hbl, hrec⟩ := HRSr.out.2.2.2.2 i hlt
      have hgr := HGD.out (rs.getD i default) (by simp [List.getD, hlt])
      have hrt := recs_take rs i hlt
      obtain ⟨x, hx⟩ : ∃ x, rs.getD i default = x := ⟨_, rfl⟩
      rw [hx] at hrec hgr hrt
      obtain ⟨ca, cn, cc, ⟨c0, c1, c2, c3, c4, c5, c6⟩, hic⟩ := hrec
      have hcn : cn ≤ 4000 := by have := hic.1; have := hgr.2.2; omega
      have hz := hgr.1.zero
      have HIC := Lib.hid hic
      obtain ⟨a7, cap7, rfl, hbs7⟩ := Bs.of_own hown7
      have HBS7 := Lib.hid hbs7
      have hown9' := hown9
      have hnext : P ++ recs (rs.take i) ++ frame (pay x) = P ++ recs (rs.take (i + 1)) := by rw [hrt, List.append_assoc]
      have hL8 : (P ++ recs (rs.take (i + 1))).length = np + (recs (rs.take (i + 1))).length := by rw [List.length_append, HNP.out]
      have hle8 := recs_take_mono rs (show i + 1 ≤ rs.length by omega)
      rw [List.take_length] at hle8
      obtain ⟨L8, hl8⟩ : ∃ L8, (P ++ recs (rs.take (i + 1))).length = L8 := ⟨_, rfl⟩
      have hends : ends np rs (i + 1) = (L8 : Int) := by unfold ends; rw [← hl8, hL8]
      have HNX := Lib.hid hnext
      have HL8 := Lib.hid hl8
      have HEN := Lib.hid hends
      have hL8b : L8 ≤ 7000 := by omega
      obtain ⟨L7, hl7⟩ : ∃ L7, (P ++ recs (rs.take i)).length = L7 := ⟨_, rfl⟩
      have hL7b : L7 ≤ 7000 := by omega
      rw [hl7] at HBS7 ⊢
      clear hbs7 hic hx hrt hnext hL8 hl8 hends hL7 hle hle8 hown7 hown9' hl7
      go_wp2_with fail
      refine (Append_any a7 ca L7 cap7 cn cc _ x (by omega) hcn _ HBS7.out HIC.out HLr.out).mono ?_
      rintro e w7 ⟨v8, rfl, hown8, hb8⟩
      rw [hz]
      rw [if_pos hz, HNX.out, HL8.out] at hown8
      obtain ⟨a8, cap8, rfl, _⟩ := Bs.of_own hown8
      have hal8 := (Below.refl w7.heap.size w7).alloc (Nat.le_refl _) (.cells #[.int .i64 (L8 : Int)] 3)
      have hown8 := own_below (ownsRow_mono2 (b' := S + 1) hown8 (by omega)) hal8
      have hb78 := hb8.trans (hal8.mono hb8.size)
      have hown9 := own_below hown9 hb78
      have hb10 : Below (S + 1) w4 (w7.alloc (.cells #[.int .i64 (L8 : Int)] 3)) := hb.trans (hb78.mono (by omega))
      have HNEW := Lib.hid (show Cells (w7.alloc (.cells #[.int .i64 (L8 : Int)] 3)) (some ⟨w7.heap.size, 0, none⟩) [.int .i64 (L8 : Int)] from fun _ => ⟨_, 0, rfl, by simp, fun j u hj => by rw [Nat.zero_add, cell_of_row _ _ _ _ _ _ (heap_alloc_new w7 _)]; simpa using hj⟩)
      have HOWN9 := Lib.hid hown9
      have HOWN8 := Lib.hid hown8
      have HB10 := Lib.hid hb10
      have hs7 := hb8.size
      have hz7 : (w7.alloc (.cells #[.int .i64 (L8 : Int)] 3)).heap.size = w7.heap.size + 1 := by simp
      clear hb8 hal8 hown8 hb78 hown9 hb10 hz c0 c1 c2 c3 c4 c5 c6 r5 hTr hb hb4r
      go_wp2_with (at_builtin; refine wpList_append_src rfl _ _ _ rfl (S + 1) 3 i3 _ 1 8 Tryd.und41 hi3 hy0 hy1 hy2 rfl (by omega) _ _ _ rfl HOWN9.out _ 1 1 [.int .i64 (L8 : Int)] rfl (Nat.le_refl _) (fun e => by cases e) rfl HNEW.out (by simp [Value.oneCell']) (by unfold maxLen; omega) (by omega) (by omega) ?_; intro v11 w11 hown11 hgr11; have HO8 := Lib.hid (own_other HOWN8.out HOWN9.out (by decide) hgr11); have HB11 := Lib.hid (HB10.out.grown hgr11 (by omega) (fun k hk => (HOWN9.out.lt k hk).1)); clear hgr11)
      exact ⟨⟨i + 1, by omega, by go_num, by rw [HL8.out]; exact HO8.out, by rw [endsL_succ, HEN.out]; simpa using hown11, HB11.out⟩, by simp [intOf]; omega⟩
    obtain rfl : i = rs.length := by omega
    rw [List.take_length] at hown7 hL7
    clear hle hTr
    obtain ⟨d, hd⟩ : ∃ d, (recs rs).length = d := ⟨_, rfl⟩
    obtain ⟨lb, hlb⟩ : ∃ lb, (P ++ recs rs).length = lb := ⟨_, rfl⟩
    have hlbd : lb = np + d := by rw [← hlb, hL7, hd]
    rw [hlb] at hown7
    obtain ⟨b7, cap7, hv7, _, hb7l, hlc7, hcm7, _, hcell7⟩ := own_block hown7 (byts_ne _ 0 (by rw [hlb]; have := frame_len_ge (hpay h); have h1 := HNP.out; rw [← HP.out] at h1; simp at h1; omega))
    obtain ⟨a7, cap7', hv7', hbs7⟩ := Bs.of_own hown7
    rw [hv7] at hv7'
    injection hv7' with e1 _ e2
    subst e1 e2 hv7
    obtain ⟨gb, cap9, rfl, hgb, hgbl, hlc9, hcm9, _, hcell9⟩ := own_block hown9 (by simp [endsL])
    have HE9 := Lib.hid (show ∀ j, j ≤ rs.length → wr.cell? ⟨gb, j, none⟩ = some (.int .i64 (ends np rs j)) from fun j hj => hcell9 j _ (endsL_get np rs hj))
    have e0 : wr.cell? ⟨gb, 0, none⟩ = some (.int .i64 (np : Int)) := by have := HE9.out 0 (by omega); rw [this]; simp [ends, recs]
    obtain ⟨q, hq⟩ : ∃ q, K % (d + 1) = q := ⟨_, rfl⟩
    have hqd : q ≤ d := by have := Nat.mod_lt K (show 0 < d + 1 by omega); omega
    have s1 : IntKind.i64.wrap ((lb : Int) - (np : Int)) = (d : Int) := by rw [show (lb : Int) - (np : Int) = (d : Int) by omega]; exact IntWalk.i64_in _ (by omega)
    have s2 : IntKind.i64.wrap ((d : Int) + 1) = ((d + 1 : Nat) : Int) := IntWalk.i64_in _ (by omega)
    have HBS7 := Lib.hid hbs7
    have HD := Lib.hid hd
    have HLB := Lib.hid hlb
    have HLBD := Lib.hid hlbd
    obtain ⟨nl, hnl⟩ : ∃ nl, rs.length + 1 = nl := ⟨_, rfl⟩
    rw [hnl] at hlc9 ⊢
    have HNL := Lib.hid hnl
    have i0 : (0 : Int) ≤ 0 := by omega
    have i1 : (0 : Int) < (nl : Int) := by omega
    have hlb8 : lb ≤ 7000 := by omega
    have hnp8 : np ≤ lb := by omega
    have hd8 : d ≤ 7000 := by omega
    have er : (K : Int) % ((d : Int) + 1) = (q : Int) := by rw [← hq]; exact (Int.natCast_emod K (d + 1)).symm
    obtain ⟨A, hA⟩ : ∃ A, np + q = A := ⟨_, rfl⟩
    have s3 : (np : Int) + (q : Int) = (A : Int) := by omega
    have HA := Lib.hid hA
    have hAl : A ≤ lb := by omega
    clear hown7 hown9 hbs7 hcell7 hcell9 hd hlb hL7 hlbd hnl hq hA
    unfold maxLen at hcm7 hcm9
    go_wp2_with fail
    go_quiet (fail)
    have HBW := Lib.hid (show Below w4.heap.size w4 (wr.drewN nq) from below_drewN hb4r nq)
    have hE0 := HE9
    have HED := Lib.hid (show ∀ j, j ≤ rs.length → (wr.drewN nq).cell? ⟨gb, j, none⟩ = some (.int .i64 (ends np rs j)) from HE9.out)
    have HB7 := Lib.hid (show Bs (wr.drewN nq) (some ⟨b7, 0, none⟩) lb cap7 (P ++ recs rs) from HBS7.out)
    have hgl : gb < (wr.drewN nq).heap.size := hgbl
    clear hE0 HE9 HBS7 e0 hb hb4r HLr HRSr r5 s1 s2 er hgbl hb7l hSr
    generalize wr.drewN nq = w8 at *
    obtain ⟨k, hk, hkq, hkn, hsc1, hsc2⟩ := scan_cut (fun r hr => ⟨(HGD.out r hr).1, (HGD.out r hr).2.1⟩) (by omega) (q := q) (by rw [HD.out]; exact hqd)
    have HS1 := Lib.hid hsc1
    have HS2 := Lib.hid hsc2
    have HKQ := Lib.hid hkq
    have HKN := Lib.hid hkn
    clear hsc1 hsc2 hkq hkn
    have hcut : (P ++ recs rs).take A = lettersV ++ frame (hpay h) ++ (recs rs).take q := by
      rw [HP.out, List.take_append, List.take_of_length_le (by rw [HNP.out]; omega), HNP.out]
      congr 2
      have := HA.out; omega
    have hbA := (HB7.out.take hAl)
    rw [hcut] at hbA
    have HBA := Lib.hid hbA
    have HLW := Lib.hid (HL.out.below (hb4.trans (HBW.out.mono hb4.size)))
    clear hcut hbA
    go_wp2_with fail
    refine (Recover_any h hck hpr ((recs rs).take q) ((recs_byt rs).take q) _ A cap7 _ (by omega) HBA.out HLW.out).mono ?_
    rintro e w9 ⟨ls9, v9, rfl, hown9, hch9, hls9, hb9⟩
    rw [HS1.out] at hls9 ⊢
    simp only at hls9 ⊢
    obtain ⟨sa9, sc9, rfl, hrs9⟩ := Rs.of_own hown9 hch9
    have hl9 : ls9.length = k := by
      have := congrArg List.length hls9
      rw [List.length_map, List.length_take] at this
      omega
    rw [hls9] at hrs9
    rw [hl9] at hrs9 ⊢
    have hFl : 4 + (frame (hpay h)).length + (recs (rs.take k)).length = np + (recs (rs.take k)).length := by
      have := HNP.out
      rw [← HP.out, List.length_append] at this
      simp only [List.length_cons, List.length_nil] at this
      omega
    rw [hFl]
    have hal := (Below.refl w9.heap.size w9).alloc (Nat.le_refl _) (.cells #[.int .i64 h.rel, .int .i64 h.mach, .int .i64 h.num, .int .i64 h.per, .int .u64 ((h.print : Nat) : Int), .slice sa9 k sc9, .bool false] 32)
    have hb9a := hb9.trans (hal.mono hb9.size)
    have hw8 := HBW.out.size
    have HBX := Lib.hid (HBW.out.trans (hb9a.mono hw8))
    have hU10 : (w9.alloc (.cells #[.int .i64 h.rel, .int .i64 h.mach, .int .i64 h.num, .int .i64 h.per, .int .u64 ((h.print : Nat) : Int), .slice sa9 k sc9, .bool false] 32)).heap[w9.heap.size]? = some (.cells #[.int .i64 h.rel, .int .i64 h.mach, .int .i64 h.num, .int .i64 h.per, .int .u64 ((h.print : Nat) : Int), .slice sa9 k sc9, .bool false] 32 (0, 0)) := heap_alloc_new _ _
    have HRT := Lib.hid (hrs9.below hal)
    have HE10 := Lib.hid (show ∀ j, j ≤ rs.length → (w9.alloc (.cells #[.int .i64 h.rel, .int .i64 h.mach, .int .i64 h.num, .int .i64 h.per, .int .u64 ((h.print : Nat) : Int), .slice sa9 k sc9, .bool false] 32)).cell? ⟨gb, j, none⟩ = some (.int .i64 (ends np rs j)) from fun j hj => (hb9a.cell (p := ⟨gb, j, none⟩) hgl).trans (HED.out j hj))
    have HB10 := Lib.hid (HB7.out.below hb9a)
    have hgl10 := Nat.lt_of_lt_of_le hgl hb9a.size
    have hends : ((np + (recs (rs.take k)).length : Nat) : Int) = ends np rs k := rfl
    rw [hends]
    obtain ⟨ek, hek⟩ : ∃ ek, np + (recs (rs.take k)).length = ek := ⟨_, rfl⟩
    have hekI : ends np rs k = (ek : Int) := by unfold ends; rw [hek]
    rw [hekI]
    have hekA : ek ≤ A := by have := HKQ.out; have := HA.out; omega
    have HEK := Lib.hid hek
    have HEKI := Lib.hid hekI
    clear hrs9 hb9 hal hb9a hown9 hch9 hls9 hl9 hFl HED HB7 HBA HLW hgl hw8 hends hek hekI
    go_upto_region 17 with fail
    generalize (w9.alloc (.cells #[.int .i64 h.rel, .int .i64 h.mach, .int .i64 h.num, .int .i64 h.per, .int .u64 ((h.print : Nat) : Int), .slice sa9 k sc9, .bool false] 32)) = w10 at *
    generalize w9.heap.size = T at *
    go_wp2_with fail
    go_loopw [17] (fun v17 wr => ∃ i : Nat, i ≤ k ∧ v17 = .int .i64 i ∧ wr = w10) (fun v _ => k - (intOf v).toNat)
    case atStart => exact ⟨0, by omega, rfl, rfl⟩
    case round =>
      obtain ⟨i, hi, rfl, rfl⟩ := hrel
      by_cases hik : i < k
      case pos =>
        have hmono := recs_take_mono rs (show i + 1 ≤ k by omega)
        have hkq := HKQ.out
        have hAA := HA.out
        obtain ⟨ei, hei⟩ : ∃ ei, np + (recs (rs.take (i + 1))).length = ei := ⟨_, rfl⟩
        have ce : wr.cell? ⟨gb, i + 1, none⟩ = some (.int .i64 (ei : Int)) := by rw [HE10.out (i + 1) (by omega)]; unfold ends; rw [hei]
        have heA : ei ≤ A := by omega
        have hnl := HNL.out
        have j1 : (i : Int) + 1 < (nl : Int) := by omega
        have j2 : decide ((i : Int) + 1 < (nl : Int)) = true := by simpa using j1
        have j3 : decide ((ei : Int) ≤ (A : Int)) = true := by simp; omega
        clear hmono hkq hAA hei hnl
        go_wp2_with fail
        exact ⟨⟨i + 1, by omega, by go_num, trivial⟩, by simp [intOf]; omega⟩
      obtain rfl : i = k := by omega
      by_cases hkn : i < rs.length
      case pos =>
        obtain ⟨ei, hei⟩ : ∃ ei, np + (recs (rs.take (i + 1))).length = ei := ⟨_, rfl⟩
        have ce : wr.cell? ⟨gb, i + 1, none⟩ = some (.int .i64 (ei : Int)) := by rw [HE10.out (i + 1) (by omega)]; unfold ends; rw [hei]
        have heA : A < ei := by have := HKN.out hkn; have := HA.out; omega
        have j1 : (i : Int) + 1 < (nl : Int) := by have := HNL.out; omega
        have j2 : decide ((i : Int) + 1 < (nl : Int)) = true := by simpa using j1
        have j3 : decide ((ei : Int) ≤ (A : Int)) = false := by simp; omega
        clear hei
        go_upto_region 20 with fail
        have hTS := (HBX.out.block S (by omega)).trans hT4
        have hSx : S < wr.heap.size := (Array.getElem?_eq_some_iff.1 hTS).1
        have hTx : T < wr.heap.size := (Array.getElem?_eq_some_iff.1 hU10).1
        have HRSk := Lib.hid ((HRS4.out.below HBX.out).take hk)
        have hik3 := HRS4.out.2.1
        have hik4 := HRS4.out.2.2.1
        unfold maxLen at hik4
        have hcl : ∀ r ∈ rs.take i, r.chain.length ≤ 100000 := fun r hr => by have := (HGD.out r (List.mem_of_mem_take hr)).2.2; omega
        have HSM := Lib.hid (fun x : Since wr => (Same_any h h false false sa9 sa i i sc9 sc (rs.take i) (rs.take i) (by omega) (by omega) hcl hcl x.val (HRT.out.below x.property) (HRSk.out.below x.property)).mono (R' := fun e w' => e = .returned (.bool true) ∧ Below x.val.heap.size x.val w') (fun e w' he => ⟨by rw [he.1, decide_eq_true ⟨rfl, rfl, rfl⟩], he.2⟩))
        have ce : wr.cell? ⟨gb, i, none⟩ = some (.int .i64 (ek : Int)) := by rw [HE10.out i hk, HEKI.out]
        refine wp_region_below (by kernel_rfl) (by kernel_rfl) ?_
        have p0 : ∀ x : Since wr, x.val.cell? ⟨S, 0, none⟩ = some (.int .i64 h.rel) := fun x => (x.property.cell (p := ⟨S, 0, none⟩) hSx).trans (cell_of_row _ _ 0 _ _ _ hTS)
        have p1 : ∀ x : Since wr, x.val.cell? ⟨S, 1, none⟩ = some (.int .i64 h.mach) := fun x => (x.property.cell (p := ⟨S, 1, none⟩) hSx).trans (cell_of_row _ _ 1 _ _ _ hTS)
        have p2 : ∀ x : Since wr, x.val.cell? ⟨S, 2, none⟩ = some (.int .i64 h.num) := fun x => (x.property.cell (p := ⟨S, 2, none⟩) hSx).trans (cell_of_row _ _ 2 _ _ _ hTS)
        have p3 : ∀ x : Since wr, x.val.cell? ⟨S, 3, none⟩ = some (.int .i64 h.per) := fun x => (x.property.cell (p := ⟨S, 3, none⟩) hSx).trans (cell_of_row _ _ 3 _ _ _ hTS)
        have p4 : ∀ x : Since wr, x.val.cell? ⟨S, 4, none⟩ = some (.int .u64 ((h.print : Nat) : Int)) := fun x => (x.property.cell (p := ⟨S, 4, none⟩) hSx).trans (cell_of_row _ _ 4 _ _ _ hTS)
        have p5 : ∀ x : Since wr, x.val.cell? ⟨S, 5, none⟩ = some (.slice sa rs.length sc) := fun x => (x.property.cell (p := ⟨S, 5, none⟩) hSx).trans (cell_of_row _ _ 5 _ _ _ hTS)
        have p6 : ∀ x : Since wr, x.val.cell? ⟨S, 6, none⟩ = some (.bool wh) := fun x => (x.property.cell (p := ⟨S, 6, none⟩) hSx).trans (cell_of_row _ _ 6 _ _ _ hTS)
        have q0 : ∀ x : Since wr, x.val.cell? ⟨T, 0, none⟩ = some (.int .i64 h.rel) := fun x => (x.property.cell (p := ⟨T, 0, none⟩) hTx).trans (cell_of_row _ _ 0 _ _ _ hU10)
        have q1 : ∀ x : Since wr, x.val.cell? ⟨T, 1, none⟩ = some (.int .i64 h.mach) := fun x => (x.property.cell (p := ⟨T, 1, none⟩) hTx).trans (cell_of_row _ _ 1 _ _ _ hU10)
        have q2 : ∀ x : Since wr, x.val.cell? ⟨T, 2, none⟩ = some (.int .i64 h.num) := fun x => (x.property.cell (p := ⟨T, 2, none⟩) hTx).trans (cell_of_row _ _ 2 _ _ _ hU10)
        have q3 : ∀ x : Since wr, x.val.cell? ⟨T, 3, none⟩ = some (.int .i64 h.per) := fun x => (x.property.cell (p := ⟨T, 3, none⟩) hTx).trans (cell_of_row _ _ 3 _ _ _ hU10)
        have q4 : ∀ x : Since wr, x.val.cell? ⟨T, 4, none⟩ = some (.int .u64 ((h.print : Nat) : Int)) := fun x => (x.property.cell (p := ⟨T, 4, none⟩) hTx).trans (cell_of_row _ _ 4 _ _ _ hU10)
        have q5 : ∀ x : Since wr, x.val.cell? ⟨T, 5, none⟩ = some (.slice sa9 i sc9) := fun x => (x.property.cell (p := ⟨T, 5, none⟩) hTx).trans (cell_of_row _ _ 5 _ _ _ hU10)
        have q6 : ∀ x : Since wr, x.val.cell? ⟨T, 6, none⟩ = some (.bool false) := fun x => (x.property.cell (p := ⟨T, 6, none⟩) hTx).trans (cell_of_row _ _ 6 _ _ _ hU10)
        have x9 : ∀ x : Since wr, x.val.cell? ⟨gb, i, none⟩ = some (.int .i64 (ek : Int)) := fun x => (x.property.cell (p := ⟨gb, i, none⟩) hgl10).trans ce
        have k0 : (0 : Int) ≤ (i : Int) := by omega
        have k1 : (i : Int) < (nl : Int) := by have := HNL.out; omega
        have k2 : (i : Int) ≤ (sc : Int) := by omega
        repeat (go_big_quiet_step ((first | (go_at_call 27; exact calls_since _ (HSM.out _)))))
        refine wpQuiet_nil ?_
        intro w11 hb11
        have pp := fun z u (hu : (#[.int .i64 h.rel, .int .i64 h.mach, .int .i64 h.num, .int .i64 h.per, .int .u64 ((h.print : Nat) : Int), .slice sa rs.length sc, .bool wh] : Array Value)[z]? = some u) => (hb11.cell (p := ⟨S, z, none⟩) hSx).trans ((cell_of_row _ _ z _ _ _ hTS).trans hu)
        have hU11 := (hb11.block T hTx).trans hU10
        have ce11 := (hb11.cell (p := ⟨gb, i, none⟩) hgl10).trans ce
        have HB11 := Lib.hid (HB10.out.below hb11)
        have HBY := Lib.hid (HBX.out.trans (hb11.mono (show w4.heap.size ≤ wr.heap.size from HBX.out.size)))
        have HRT11 := Lib.hid (HRT.out.below hb11)
        have hg11 := Nat.lt_of_lt_of_le hgl10 hb11.size
        have hT11 := Nat.lt_of_lt_of_le hTx hb11.size
        clear hb11 p0 q0 p1 q1 p2 q2 p3 q3 p4 q4 p5 q5 p6 q6 x9 pp ce hTS hSx hTx hgl10 hU10
        go_upto_region 22 with fail
        have hPk : (P ++ recs rs).take ek = P ++ recs (rs.take i) := by
          have he := HEK.out
          have h1 : (recs rs).take ((recs (rs.take i)).length) = recs (rs.take i) := by
            conv => lhs; arg 2; rw [← List.take_append_drop i rs, recs_app]
            exact List.take_left
          rw [List.take_append, List.take_of_length_le (by rw [HNP.out]; omega), HNP.out, show ek - np = (recs (rs.take i)).length by omega, h1]
        have hekl : ek ≤ lb := by omega
        have HPK := Lib.hid hPk
        have l1 : (ek : Int) ≤ (cap7 : Int) := by omega
        have l0 : (0 : Int) ≤ (ek : Int) := by omega
        clear hPk
        go_region_held3 (fun w' => w'.cell? ⟨gb, i, none⟩ = some (.int .i64 (ek : Int)) ∧ Below w11.heap.size w11 w')
          ((go_split_ands; (repeat' apply And.intro) <;> first | (with_reducible assumption) | (exact ce11) | (exact (Below.refl _ _).drew) | (with_reducible refine Below.drew ?_; with_reducible assumption) | (exact (hbc.cell (p := ⟨gb, i, none⟩) (by show gb < _; omega)).trans (by assumption)) | (exact Below.trans (by assumption) (hbc.mono (by omega)))))
          (first | (go_at_call 30; have hbx : Below w11.heap.size w11 _ := (by go_split_ands; assumption); refine (refPutFrame_any _ none ek ek 0 0 (P ++ recs (rs.take i)) [] (by omega) (by omega) Byt.nil _ (HPK.out ▸ ((HB11.out.below hbx).take hekl).capped) (nil_bs _)).mono ?_; rintro e wc (⟨h9, _⟩ | ⟨_, vc, rfl, hownc, hbc⟩); (exact absurd h9 (by simp)); have hsx := hbx.size))
        have hbc2 : Below w11.heap.size w11 wc := (by go_split_ands; assumption)
        obtain ⟨aN, capN, rfl, hbsN⟩ := Bs.of_own hownc
        obtain ⟨nN, hnN⟩ : ∃ nN, (P ++ recs (rs.take i) ++ frame []).length = nN := ⟨_, rfl⟩
        have hf0 : (frame []).length = 5 := by unfold frame; simp [le4, uenc_small]
        have hPl : (P ++ recs (rs.take i)).length = ek := by rw [List.length_append, HNP.out, HEK.out]
        have hnN2 : nN = ek + 5 := by rw [← hnN, List.length_append, hf0, hPl]
        have hNE : P ++ recs (rs.take i) ++ frame [] = lettersV ++ frame (hpay h) ++ (recs (rs.take i) ++ frame []) := by rw [HP.out, List.append_assoc]
        rw [hnN] at hbsN ⊢
        rw [hNE] at hbsN
        have HBN := Lib.hid hbsN
        have hT13 := (hbc2.block T hT11).trans hU11
        have HRT13 := Lib.hid (HRT11.out.below hbc2)
        have HBZ := Lib.hid (HBY.out.trans (hbc2.mono HBY.out.size))
        have hTc := Nat.lt_of_lt_of_le hT11 hbc2.size
        have hwc := HBZ.out.size
        have hnN3 : nN ≤ 90000 := by omega
        clear hbsN hownc hbc hbc2 hnN hf0 hPl hNE hU11 hT11 ce11 hsx hnN2
        go_upto_region 23 with fail
        go_wp2_with fail
        refine (Recover_any h hck hpr (recs (rs.take i) ++ frame []) (Byt.append (recs_byt _) (frame_byt Byt.nil)) aN nN capN _ hnN3 HBN.out (HL.out.below (hb4.trans (HBZ.out.mono hb4.size)))).mono ?_
        rintro e w14 ⟨lsU, vU, rfl, hownU, hchU, hlsU, hbU⟩
        rw [HS2.out] at hlsU ⊢
        simp only at hlsU ⊢
        obtain ⟨saU, scU, rfl, hrsU⟩ := Rs.of_own hownU hchU
        have hlU : lsU.length = i := by
          have := congrArg List.length hlsU
          rw [List.length_map, List.length_take] at this
          omega
        rw [hlsU] at hrsU
        rw [hlU] at hrsU ⊢
        have hFl : 4 + (frame (hpay h)).length + (recs (rs.take i)).length = ek := by
          have := HNP.out
          have h2 := HEK.out
          rw [← HP.out, List.length_append] at this
          simp only [List.length_cons, List.length_nil] at this
          omega
        rw [hFl]
        have hal := (Below.refl w14.heap.size w14).alloc (Nat.le_refl _) (.cells #[.int .i64 h.rel, .int .i64 h.mach, .int .i64 h.num, .int .i64 h.per, .int .u64 ((h.print : Nat) : Int), .slice saU i scU, .bool false] 32)
        have hbUa := hbU.trans (hal.mono hbU.size)
        have hT15 := (hbUa.block T hTc).trans hT13
        have hU15 : (w14.alloc (.cells #[.int .i64 h.rel, .int .i64 h.mach, .int .i64 h.num, .int .i64 h.per, .int .u64 ((h.print : Nat) : Int), .slice saU i scU, .bool false] 32)).heap[w14.heap.size]? = some (.cells #[.int .i64 h.rel, .int .i64 h.mach, .int .i64 h.num, .int .i64 h.per, .int .u64 ((h.print : Nat) : Int), .slice saU i scU, .bool false] 32 (0, 0)) := heap_alloc_new _ _
        have HRT15 := Lib.hid (HRT13.out.below hbUa)
        have HRU15 := Lib.hid (hrsU.below hal)
        have hb15 := hb4.trans ((HBZ.out.trans (hbUa.mono hwc)).mono hb4.size)
        clear hrsU hbU hal hbUa hownU hchU hlsU hlU hFl hT13 hTc hwc
        go_upto_region 24 with fail
        generalize (w14.alloc (.cells #[.int .i64 h.rel, .int .i64 h.mach, .int .i64 h.num, .int .i64 h.per, .int .u64 ((h.print : Nat) : Int), .slice saU i scU, .bool false] 32)) = w15 at *
        generalize w14.heap.size = U at *
        have t0 : w15.cell? ⟨T, 0, none⟩ = some (.int .i64 h.rel) := cell_of_row _ _ 0 _ _ _ hT15
        have t1 : w15.cell? ⟨T, 1, none⟩ = some (.int .i64 h.mach) := cell_of_row _ _ 1 _ _ _ hT15
        have t2 : w15.cell? ⟨T, 2, none⟩ = some (.int .i64 h.num) := cell_of_row _ _ 2 _ _ _ hT15
        have t3 : w15.cell? ⟨T, 3, none⟩ = some (.int .i64 h.per) := cell_of_row _ _ 3 _ _ _ hT15
        have t4 : w15.cell? ⟨T, 4, none⟩ = some (.int .u64 ((h.print : Nat) : Int)) := cell_of_row _ _ 4 _ _ _ hT15
        have t5 : w15.cell? ⟨T, 5, none⟩ = some (.slice sa9 i sc9) := cell_of_row _ _ 5 _ _ _ hT15
        have t6 : w15.cell? ⟨T, 6, none⟩ = some (.bool false) := cell_of_row _ _ 6 _ _ _ hT15
        have u0 : w15.cell? ⟨U, 0, none⟩ = some (.int .i64 h.rel) := cell_of_row _ _ 0 _ _ _ hU15
        have u1 : w15.cell? ⟨U, 1, none⟩ = some (.int .i64 h.mach) := cell_of_row _ _ 1 _ _ _ hU15
        have u2 : w15.cell? ⟨U, 2, none⟩ = some (.int .i64 h.num) := cell_of_row _ _ 2 _ _ _ hU15
        have u3 : w15.cell? ⟨U, 3, none⟩ = some (.int .i64 h.per) := cell_of_row _ _ 3 _ _ _ hU15
        have u4 : w15.cell? ⟨U, 4, none⟩ = some (.int .u64 ((h.print : Nat) : Int)) := cell_of_row _ _ 4 _ _ _ hU15
        have u5 : w15.cell? ⟨U, 5, none⟩ = some (.slice saU i scU) := cell_of_row _ _ 5 _ _ _ hU15
        have u6 : w15.cell? ⟨U, 6, none⟩ = some (.bool false) := cell_of_row _ _ 6 _ _ _ hU15
        go_wp2_with fail
        have hcl : ∀ r ∈ rs.take i, r.chain.length ≤ 100000 := fun r hr => by have := (HGD.out r (List.mem_of_mem_take hr)).2.2; omega
        refine (Same_any h h false false sa9 saU i i sc9 scU (rs.take i) (rs.take i) (by omega) (by omega) hcl hcl _ HRT15.out HRU15.out).mono ?_
        rintro e w16 ⟨rfl, hb16⟩
        rw [decide_eq_true ⟨rfl, rfl, rfl⟩]
        have hend := hb15.trans (hb16.mono hb15.size)
        clear hcl hb16 hb15
        go_wp2_with fail
        go_ret
        exact ⟨rfl, hend⟩
      case neg =>
        have j2 : decide ((i : Int) + 1 < (nl : Int)) = false := by simp; have := HNL.out; omega
        go_upto_region 20 with fail
        have hTS := (HBX.out.block S (by omega)).trans hT4
        have hSx : S < wr.heap.size := (Array.getElem?_eq_some_iff.1 hTS).1
        have hTx : T < wr.heap.size := (Array.getElem?_eq_some_iff.1 hU10).1
        have HRSk := Lib.hid ((HRS4.out.below HBX.out).take hk)
        have hik3 := HRS4.out.2.1
        have hik4 := HRS4.out.2.2.1
        unfold maxLen at hik4
        have hcl : ∀ r ∈ rs.take i, r.chain.length ≤ 100000 := fun r hr => by have := (HGD.out r (List.mem_of_mem_take hr)).2.2; omega
        have HSM := Lib.hid (fun x : Since wr => (Same_any h h false false sa9 sa i i sc9 sc (rs.take i) (rs.take i) (by omega) (by omega) hcl hcl x.val (HRT.out.below x.property) (HRSk.out.below x.property)).mono (R' := fun e w' => e = .returned (.bool true) ∧ Below x.val.heap.size x.val w') (fun e w' he => ⟨by rw [he.1, decide_eq_true ⟨rfl, rfl, rfl⟩], he.2⟩))
        have ce : wr.cell? ⟨gb, i, none⟩ = some (.int .i64 (ek : Int)) := by rw [HE10.out i hk, HEKI.out]
        refine wp_region_below (by kernel_rfl) (by kernel_rfl) ?_
        have p0 : ∀ x : Since wr, x.val.cell? ⟨S, 0, none⟩ = some (.int .i64 h.rel) := fun x => (x.property.cell (p := ⟨S, 0, none⟩) hSx).trans (cell_of_row _ _ 0 _ _ _ hTS)
        have p1 : ∀ x : Since wr, x.val.cell? ⟨S, 1, none⟩ = some (.int .i64 h.mach) := fun x => (x.property.cell (p := ⟨S, 1, none⟩) hSx).trans (cell_of_row _ _ 1 _ _ _ hTS)
        have p2 : ∀ x : Since wr, x.val.cell? ⟨S, 2, none⟩ = some (.int .i64 h.num) := fun x => (x.property.cell (p := ⟨S, 2, none⟩) hSx).trans (cell_of_row _ _ 2 _ _ _ hTS)
        have p3 : ∀ x : Since wr, x.val.cell? ⟨S, 3, none⟩ = some (.int .i64 h.per) := fun x => (x.property.cell (p := ⟨S, 3, none⟩) hSx).trans (cell_of_row _ _ 3 _ _ _ hTS)
        have p4 : ∀ x : Since wr, x.val.cell? ⟨S, 4, none⟩ = some (.int .u64 ((h.print : Nat) : Int)) := fun x => (x.property.cell (p := ⟨S, 4, none⟩) hSx).trans (cell_of_row _ _ 4 _ _ _ hTS)
        have p5 : ∀ x : Since wr, x.val.cell? ⟨S, 5, none⟩ = some (.slice sa rs.length sc) := fun x => (x.property.cell (p := ⟨S, 5, none⟩) hSx).trans (cell_of_row _ _ 5 _ _ _ hTS)
        have p6 : ∀ x : Since wr, x.val.cell? ⟨S, 6, none⟩ = some (.bool wh) := fun x => (x.property.cell (p := ⟨S, 6, none⟩) hSx).trans (cell_of_row _ _ 6 _ _ _ hTS)
        have q0 : ∀ x : Since wr, x.val.cell? ⟨T, 0, none⟩ = some (.int .i64 h.rel) := fun x => (x.property.cell (p := ⟨T, 0, none⟩) hTx).trans (cell_of_row _ _ 0 _ _ _ hU10)
        have q1 : ∀ x : Since wr, x.val.cell? ⟨T, 1, none⟩ = some (.int .i64 h.mach) := fun x => (x.property.cell (p := ⟨T, 1, none⟩) hTx).trans (cell_of_row _ _ 1 _ _ _ hU10)
        have q2 : ∀ x : Since wr, x.val.cell? ⟨T, 2, none⟩ = some (.int .i64 h.num) := fun x => (x.property.cell (p := ⟨T, 2, none⟩) hTx).trans (cell_of_row _ _ 2 _ _ _ hU10)
        have q3 : ∀ x : Since wr, x.val.cell? ⟨T, 3, none⟩ = some (.int .i64 h.per) := fun x => (x.property.cell (p := ⟨T, 3, none⟩) hTx).trans (cell_of_row _ _ 3 _ _ _ hU10)
        have q4 : ∀ x : Since wr, x.val.cell? ⟨T, 4, none⟩ = some (.int .u64 ((h.print : Nat) : Int)) := fun x => (x.property.cell (p := ⟨T, 4, none⟩) hTx).trans (cell_of_row _ _ 4 _ _ _ hU10)
        have q5 : ∀ x : Since wr, x.val.cell? ⟨T, 5, none⟩ = some (.slice sa9 i sc9) := fun x => (x.property.cell (p := ⟨T, 5, none⟩) hTx).trans (cell_of_row _ _ 5 _ _ _ hU10)
        have q6 : ∀ x : Since wr, x.val.cell? ⟨T, 6, none⟩ = some (.bool false) := fun x => (x.property.cell (p := ⟨T, 6, none⟩) hTx).trans (cell_of_row _ _ 6 _ _ _ hU10)
        have x9 : ∀ x : Since wr, x.val.cell? ⟨gb, i, none⟩ = some (.int .i64 (ek : Int)) := fun x => (x.property.cell (p := ⟨gb, i, none⟩) hgl10).trans ce
        have k0 : (0 : Int) ≤ (i : Int) := by omega
        have k1 : (i : Int) < (nl : Int) := by have := HNL.out; omega
        have k2 : (i : Int) ≤ (sc : Int) := by omega
        repeat (go_big_quiet_step ((first | (go_at_call 27; exact calls_since _ (HSM.out _)))))
        refine wpQuiet_nil ?_
        intro w11 hb11
        have pp := fun z u (hu : (#[.int .i64 h.rel, .int .i64 h.mach, .int .i64 h.num, .int .i64 h.per, .int .u64 ((h.print : Nat) : Int), .slice sa rs.length sc, .bool wh] : Array Value)[z]? = some u) => (hb11.cell (p := ⟨S, z, none⟩) hSx).trans ((cell_of_row _ _ z _ _ _ hTS).trans hu)
        have hU11 := (hb11.block T hTx).trans hU10
        have ce11 := (hb11.cell (p := ⟨gb, i, none⟩) hgl10).trans ce
        have HB11 := Lib.hid (HB10.out.below hb11)
        have HBY := Lib.hid (HBX.out.trans (hb11.mono (show w4.heap.size ≤ wr.heap.size from HBX.out.size)))
        have HRT11 := Lib.hid (HRT.out.below hb11)
        have hg11 := Nat.lt_of_lt_of_le hgl10 hb11.size
        have hT11 := Nat.lt_of_lt_of_le hTx hb11.size
        clear hb11 p0 q0 p1 q1 p2 q2 p3 q3 p4 q4 p5 q5 p6 q6 x9 pp ce hTS hSx hTx hgl10 hU10
        go_upto_region 22 with fail
        have hPk : (P ++ recs rs).take ek = P ++ recs (rs.take i) := by
          have he := HEK.out
          have h1 : (recs rs).take ((recs (rs.take i)).length) = recs (rs.take i) := by
            conv => lhs; arg 2; rw [← List.take_append_drop i rs, recs_app]
            exact List.take_left
          rw [List.take_append, List.take_of_length_le (by rw [HNP.out]; omega), HNP.out, show ek - np = (recs (rs.take i)).length by omega, h1]
        have hekl : ek ≤ lb := by omega
        have HPK := Lib.hid hPk
        have l1 : (ek : Int) ≤ (cap7 : Int) := by omega
        have l0 : (0 : Int) ≤ (ek : Int) := by omega
        clear hPk
        go_region_held3 (fun w' => w'.cell? ⟨gb, i, none⟩ = some (.int .i64 (ek : Int)) ∧ Below w11.heap.size w11 w')
          ((go_split_ands; (repeat' apply And.intro) <;> first | (with_reducible assumption) | (exact ce11) | (exact (Below.refl _ _).drew) | (with_reducible refine Below.drew ?_; with_reducible assumption) | (exact (hbc.cell (p := ⟨gb, i, none⟩) (by show gb < _; omega)).trans (by assumption)) | (exact Below.trans (by assumption) (hbc.mono (by omega)))))
          (first | (go_at_call 30; have hbx : Below w11.heap.size w11 _ := (by go_split_ands; assumption); refine (refPutFrame_any _ none ek ek 0 0 (P ++ recs (rs.take i)) [] (by omega) (by omega) Byt.nil _ (HPK.out ▸ ((HB11.out.below hbx).take hekl).capped) (nil_bs _)).mono ?_; rintro e wc (⟨h9, _⟩ | ⟨_, vc, rfl, hownc, hbc⟩); (exact absurd h9 (by simp)); have hsx := hbx.size))
        have hbc2 : Below w11.heap.size w11 wc := (by go_split_ands; assumption)
        obtain ⟨aN, capN, rfl, hbsN⟩ := Bs.of_own hownc
        obtain ⟨nN, hnN⟩ : ∃ nN, (P ++ recs (rs.take i) ++ frame []).length = nN := ⟨_, rfl⟩
        have hf0 : (frame []).length = 5 := by unfold frame; simp [le4, uenc_small]
        have hPl : (P ++ recs (rs.take i)).length = ek := by rw [List.length_append, HNP.out, HEK.out]
        have hnN2 : nN = ek + 5 := by rw [← hnN, List.length_append, hf0, hPl]
        have hNE : P ++ recs (rs.take i) ++ frame [] = lettersV ++ frame (hpay h) ++ (recs (rs.take i) ++ frame []) := by rw [HP.out, List.append_assoc]
        rw [hnN] at hbsN ⊢
        rw [hNE] at hbsN
        have HBN := Lib.hid hbsN
        have hT13 := (hbc2.block T hT11).trans hU11
        have HRT13 := Lib.hid (HRT11.out.below hbc2)
        have HBZ := Lib.hid (HBY.out.trans (hbc2.mono HBY.out.size))
        have hTc := Nat.lt_of_lt_of_le hT11 hbc2.size
        have hwc := HBZ.out.size
        have hnN3 : nN ≤ 90000 := by omega
        clear hbsN hownc hbc hbc2 hnN hf0 hPl hNE hU11 hT11 ce11 hsx hnN2
        go_upto_region 23 with fail
        go_wp2_with fail
        refine (Recover_any h hck hpr (recs (rs.take i) ++ frame []) (Byt.append (recs_byt _) (frame_byt Byt.nil)) aN nN capN _ hnN3 HBN.out (HL.out.below (hb4.trans (HBZ.out.mono hb4.size)))).mono ?_
        rintro e w14 ⟨lsU, vU, rfl, hownU, hchU, hlsU, hbU⟩
        rw [HS2.out] at hlsU ⊢
        simp only at hlsU ⊢
        obtain ⟨saU, scU, rfl, hrsU⟩ := Rs.of_own hownU hchU
        have hlU : lsU.length = i := by
          have := congrArg List.length hlsU
          rw [List.length_map, List.length_take] at this
          omega
        rw [hlsU] at hrsU
        rw [hlU] at hrsU ⊢
        have hFl : 4 + (frame (hpay h)).length + (recs (rs.take i)).length = ek := by
          have := HNP.out
          have h2 := HEK.out
          rw [← HP.out, List.length_append] at this
          simp only [List.length_cons, List.length_nil] at this
          omega
        rw [hFl]
        have hal := (Below.refl w14.heap.size w14).alloc (Nat.le_refl _) (.cells #[.int .i64 h.rel, .int .i64 h.mach, .int .i64 h.num, .int .i64 h.per, .int .u64 ((h.print : Nat) : Int), .slice saU i scU, .bool false] 32)
        have hbUa := hbU.trans (hal.mono hbU.size)
        have hT15 := (hbUa.block T hTc).trans hT13
        have hU15 : (w14.alloc (.cells #[.int .i64 h.rel, .int .i64 h.mach, .int .i64 h.num, .int .i64 h.per, .int .u64 ((h.print : Nat) : Int), .slice saU i scU, .bool false] 32)).heap[w14.heap.size]? = some (.cells #[.int .i64 h.rel, .int .i64 h.mach, .int .i64 h.num, .int .i64 h.per, .int .u64 ((h.print : Nat) : Int), .slice saU i scU, .bool false] 32 (0, 0)) := heap_alloc_new _ _
        have HRT15 := Lib.hid (HRT13.out.below hbUa)
        have HRU15 := Lib.hid (hrsU.below hal)
        have hb15 := hb4.trans ((HBZ.out.trans (hbUa.mono hwc)).mono hb4.size)
        clear hrsU hbU hal hbUa hownU hchU hlsU hlU hFl hT13 hTc hwc
        go_upto_region 24 with fail
        generalize (w14.alloc (.cells #[.int .i64 h.rel, .int .i64 h.mach, .int .i64 h.num, .int .i64 h.per, .int .u64 ((h.print : Nat) : Int), .slice saU i scU, .bool false] 32)) = w15 at *
        generalize w14.heap.size = U at *
        have t0 : w15.cell? ⟨T, 0, none⟩ = some (.int .i64 h.rel) := cell_of_row _ _ 0 _ _ _ hT15
        have t1 : w15.cell? ⟨T, 1, none⟩ = some (.int .i64 h.mach) := cell_of_row _ _ 1 _ _ _ hT15
        have t2 : w15.cell? ⟨T, 2, none⟩ = some (.int .i64 h.num) := cell_of_row _ _ 2 _ _ _ hT15
        have t3 : w15.cell? ⟨T, 3, none⟩ = some (.int .i64 h.per) := cell_of_row _ _ 3 _ _ _ hT15
        have t4 : w15.cell? ⟨T, 4, none⟩ = some (.int .u64 ((h.print : Nat) : Int)) := cell_of_row _ _ 4 _ _ _ hT15
        have t5 : w15.cell? ⟨T, 5, none⟩ = some (.slice sa9 i sc9) := cell_of_row _ _ 5 _ _ _ hT15
        have t6 : w15.cell? ⟨T, 6, none⟩ = some (.bool false) := cell_of_row _ _ 6 _ _ _ hT15
        have u0 : w15.cell? ⟨U, 0, none⟩ = some (.int .i64 h.rel) := cell_of_row _ _ 0 _ _ _ hU15
        have u1 : w15.cell? ⟨U, 1, none⟩ = some (.int .i64 h.mach) := cell_of_row _ _ 1 _ _ _ hU15
        have u2 : w15.cell? ⟨U, 2, none⟩ = some (.int .i64 h.num) := cell_of_row _ _ 2 _ _ _ hU15
        have u3 : w15.cell? ⟨U, 3, none⟩ = some (.int .i64 h.per) := cell_of_row _ _ 3 _ _ _ hU15
        have u4 : w15.cell? ⟨U, 4, none⟩ = some (.int .u64 ((h.print : Nat) : Int)) := cell_of_row _ _ 4 _ _ _ hU15
        have u5 : w15.cell? ⟨U, 5, none⟩ = some (.slice saU i scU) := cell_of_row _ _ 5 _ _ _ hU15
        have u6 : w15.cell? ⟨U, 6, none⟩ = some (.bool false) := cell_of_row _ _ 6 _ _ _ hU15
        go_wp2_with fail
        have hcl : ∀ r ∈ rs.take i, r.chain.length ≤ 100000 := fun r hr => by have := (HGD.out r (List.mem_of_mem_take hr)).2.2; omega
        refine (Same_any h h false false sa9 saU i i sc9 scU (rs.take i) (rs.take i) (by omega) (by omega) hcl hcl _ HRT15.out HRU15.out).mono ?_
        rintro e w16 ⟨rfl, hb16⟩
        rw [decide_eq_true ⟨rfl, rfl, rfl⟩]
        have hend := hb15.trans (hb16.mono hb15.size)
        clear hcl hb16 hb15
        go_wp2_with fail
        go_ret
        exact ⟨rfl, hend⟩

/-! ### THE ROW's STEP -/
set_option maxRecDepth 100000 in
theorem lifted (os : Os) (started : os.Started) (H : Type) (enc : TypeId × Value → H) :
    ReturnsInHanded {} Tryd.checked os 6 .any (fun w args => (Rows.recordCutsSpec.pre enc Tryd.prog Tryd.f6 [] false w args ∧ laidMetH Tryd.prog [("warmpath/codec.remainders", Rows.laid_warmpath_codec_remainders)] w) ∧ sizedMet enc Tryd.prog Tryd.f6 (OpenSpec.ofChange Rows.recordCutsSpec) false w args)
      (Rows.recordCutsSpec.post enc Tryd.prog Tryd.f6 false true false false) := by
  refine returnsInHanded_of_change_and (C := Tryd.checked) (X := fun w _ => laidMetH Tryd.prog [("warmpath/codec.remainders", Rows.laid_warmpath_codec_remainders)] w) (fun _ _ _ hh h => h.of_heap hh) own started (by kernel_rfl) Tryd.func6
    (ChangeSpec.witness_shaped (enc := enc) (C := Tryd.checked) (os := os) (X := fun w _ => laidMetH Tryd.prog [("warmpath/codec.remainders", Rows.laid_warmpath_codec_remainders)] w) false (World.doorLaid Tryd.prog 400 os) #[.slice none 0 0, .int .u16 0] 8 rfl (World.shaped_of_RefB (by kernel_rfl) (by kernel_rfl)) (by kernel_rfl) (by kernel_rfl) (by kernel_rfl) (door_met os _)) ?_
  intro W base args ds gs before hval0 hW _ _ hL _
  have hval : ∀ (j : Nat) t v, Tryd.f6.params[j]? = some t → args[j]? = some v → Value.okWide Tryd.prog W .any base t v := hval0
  have hW' := hW
  obtain ⟨p, q, hA0, hV, rfl, hfz, hnd⟩ := hW
  have hA : DataW.TrodAll enc Tryd.prog W 0 (fun _ => true) true Tryd.f6.params.toList args.toList ds p := hA0
  rw [Tryd.params6] at hA hval
  obtain ⟨v0, vs0, d0, ds0, p0, q0, hargs, rfl, rfl, h0, r0⟩ := trodAll_cons hA
  obtain ⟨v1, vs1, d1, ds1, p1, q1, rfl, rfl, rfl, h1, r1⟩ := trodAll_cons r0
  obtain ⟨rfl, rfl, rfl⟩ := trodAll_nil r1
  obtain rfl : args = #[v0, v1] := by cases args; simp_all
  obtain ⟨rfl, rfl⟩ := trodVars_none hV
  have k0 := h0
  have lt0 : ∀ x ∈ p0, x.block < W.heap.size := by obtain ⟨m, hm⟩ := k0; exact DataW.trod_lt m _ _ _ hm
  obtain ⟨a0, len0, cap0, zs0, rfl, w0⟩ := in_ints (k := .u8) Tryd.underlying22 Tryd.underlying5 (by kernel_rfl) (hval 0 22 v0 rfl rfl) h0
  obtain ⟨a1, rfl, rfl, rfl, w1⟩ := open_int Tryd.underlying23 (hval 1 23 v1 rfl rfl) h1
  clear hA0 hval0
  refine (walk a0 len0 cap0 zs0 a1 W w0 w1 (of_laid hL)).mono fun e W' ⟨he, bel⟩ => ?_
  subst he
  exact ⟨_, rfl, _, _, _, [], _, [], hW', trodAll_mk1 (shut_bool Tryd.underlying4 _), (trodAll_cons_mk (Below.trod laidOut (by kernel_rfl) (of_decide_eq_true (by kernel_rfl)) k0 bel lt0) (trodAll_cons_mk (shut_int Tryd.underlying23 w1) trodAll_mk0)), rfl, bel.frame _, fun h => by cases h⟩

theorem over : Rows.RecordCutsSaid :=
  OpenClaim.holds_of_wide 6 Tryd.f6 rfl rfl rfl rfl rfl rfl rfl ⟨rfl, rfl, rfl, rfl, rfl⟩ rfl rfl rfl rfl rfl (by kernel_rfl) Tryd.func6 (by kernel_rfl)
    (of_decide_eq_true (by kernel_rfl)) (by unfold Func.isWrapper; first | (rw [if_pos (by decide +kernel)]; kernel_rfl) | (rw [if_neg (by decide +kernel)]; exact ⟨rfl, rfl⟩))
    (fun os started H enc _ => lifted os started H enc)

/-- the tied card -/
theorem proved : Rows.RecordCutsCardSaid :=
  Claim7.holds_tied_plain_at .later [] [.data] true (true, "f64d14c5a3d4b4eaa4502eb95333a910291c6c1f8f25feef7f79f7a8b3cdd731") false
    over (fun _ h => by cases h) (by kernel_rfl) (fun _ h => by cases h) recordCuts_row_tie rfl ⟨rfl, rfl⟩ (by kernel_rfl) rfl
    (fun f fn hf hfn => by
      obtain rfl : f = 6 := Option.some.inj ((show Tryd.prog.funcNamed "warmpath/warmpathlaw22.RecordCuts" = some 6 by kernel_rfl).symm.trans hf) |>.symm
      obtain rfl : fn = Tryd.f6 := (Option.some.inj (Tryd.func6.symm.trans hfn)).symm
      exact ⟨by kernel_rfl, fun j t ht => by
        rw [Tryd.params6] at ht
        have hm : t ∈ [22, 23] := by simpa using Array.mem_of_getElem? ht
        have hall : ([22, 23].all fun u => !Tryd.prog.wantsStandIn u) = true := by kernel_rfl
        exact (show Tryd.prog.wantsStandIn t = false by simpa using List.all_eq_true.1 hall t hm)⟩)
    (by kernel_rfl)
#print axioms proved
end Go.Proofs.YtkgdogccnkjcgaaDoor.recordCuts
