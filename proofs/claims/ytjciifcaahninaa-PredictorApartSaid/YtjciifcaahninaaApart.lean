/-
  What is proved: for every codes the law PredictorApart of chapter 16 (predictor) returns true: branches whose addresses belong to different counters do not disturb each other. No conditions.
-/
import Derived.Test.YtjciifcaahninaaAwake
namespace Go.Proofs.Ytjciifcaahninaa.predictorApart
open Go.ChangeShapes Go.WideShapes Go.ChangeAt Go.RowKit
set_option linter.unusedVariables false

theorem own : ownKnob Try.prog.godebug = none := by kernel_rfl
theorem laidOut : laidOutB Try.prog = true := by kernel_rfl


def isP (n : Int) (k : Nat) (f : Fet) : Bool := f.1 % n == (k : Int)
def part (n : Int) (k : Nat) (l : List Fet) : List Fet := l.filter (isP n k)
def sumP (g : Nat → Nat) : Nat → Nat
  | 0 => 0
  | k + 1 => sumP g k + g k
theorem sumP_one (g g' : Nat → Nat) (k0 c : Nat) : ∀ n, (∀ j, j < n → j ≠ k0 → g' j = g j) → g' k0 = g k0 + c → sumP g' n = sumP g n + if k0 < n then c else 0 := by
  intro n
  induction n with
  | zero => intro _ _; simp [sumP]
  | succ n ih =>
    intro h h2
    have h3 := ih (fun j hj => h j (by omega)) h2
    by_cases e : n = k0
    · subst e
      simp only [sumP]; rw [h3, h2]; simp; omega
    · have := h n (by omega) e
      simp only [sumP]; rw [h3, this]; split <;> split <;> omega
theorem sumP_le (g : Nat → Nat) (c : Nat) (h : ∀ j, g j ≤ c) : ∀ n, sumP g n ≤ n * c
  | 0 => by simp [sumP]
  | n + 1 => by have := sumP_le g c h n; have := h n; simp only [sumP]; rw [Nat.add_mul]; omega
theorem sumP_zero : ∀ n, sumP (fun _ => 0) n = 0
  | 0 => rfl
  | n + 1 => by simp [sumP, sumP_zero n]
/-- of the counters and of the bools, group by group -/
theorem apart_run (t : List Int) (n : Nat) (hn : t.length = n) (h0 : 0 < n) (l : List Fet) :
    (∀ k, k < n → (run t (part n k l)).1.getD k 0 = (run t l).1.getD k 0) ∧ tru (run t l).2 = sumP (fun k => tru (run t (part n k l)).2) n := by
  suffices h : ∀ r : List Fet, (∀ k, k < n → (run t (part n k r.reverse)).1.getD k 0 = (run t r.reverse).1.getD k 0) ∧ tru (run t r.reverse).2 = sumP (fun k => tru (run t (part n k r.reverse)).2) n by
    have := h l.reverse; rwa [List.reverse_reverse] at this
  intro r
  induction r with
  | nil => exact ⟨fun _ _ => rfl, by rw [show (fun k => tru (run t (part n k ([] : List Fet).reverse)).2) = fun _ => 0 from rfl, sumP_zero]; rfl⟩
  | cons f r ih =>
    rw [List.reverse_cons]
    generalize r.reverse = l at *
    obtain ⟨ih1, ih2⟩ := ih
    have hl := (run_len t l).1
    have hg0 := Int.emod_nonneg f.1 (b := (n : Int)) (by omega)
    have hg1 := Int.emod_lt_of_pos f.1 (b := (n : Int)) (by omega)
    obtain ⟨k0, hk0⟩ : ∃ k0 : Nat, f.1 % (n : Int) = k0 := ⟨(f.1 % (n : Int)).toNat, by omega⟩
    have hk0n : k0 < n := by omega
    have hp1 : part n k0 (l ++ [f]) = part n k0 l ++ [f] := by
      unfold part; rw [List.filter_append]; simp [isP, hk0]
    have hp2 : ∀ k, k ≠ k0 → part n k (l ++ [f]) = part n k l := by
      intro k hk; unfold part; rw [List.filter_append]; simp [isP, hk0]; omega
    have hl0 := (run_len t (part n k0 l)).1
    have hat : at_ (run t l).1 f.1 = k0 := by unfold at_; rw [hl, hn, hk0]; rfl
    have hat0 : at_ (run t (part n k0 l)).1 f.1 = k0 := by unfold at_; rw [hl0, hn, hk0]; rfl
    by_cases hb : br f = true
    · have e1 : run t (l ++ [f]) = (upd (run t l).1 f.1 (tkn f), (run t l).2 ++ [prd (run t l).1 f.1 != tkn f]) := by rw [run_snoc, stp_yes (by omega) hb]
      have e2 : run t (part n k0 (l ++ [f])) = (upd (run t (part n k0 l)).1 f.1 (tkn f), (run t (part n k0 l)).2 ++ [prd (run t (part n k0 l)).1 f.1 != tkn f]) := by rw [hp1, run_snoc, stp_yes (by omega) hb]
      have hpr : prd (run t (part n k0 l)).1 f.1 = prd (run t l).1 f.1 := by unfold prd; rw [hat, hat0, ih1 k0 hk0n]
      constructor
      · intro k hk
        by_cases e : k = k0
        · subst e
          rw [e1, e2]
          simp only [upd]
          rw [hat, hat0, ih1 k hk]
          simp [List.getD, hl, hl0, hn, hk]
        · rw [hp2 k e, e1, ih1 k hk]
          simp only [upd]
          rw [hat]
          simp [List.getD, Ne.symm e]
      · rw [e1]
        show tru ((run t l).2 ++ _) = _
        rw [tru_snoc, ih2]
        rw [sumP_one (fun k => tru (run t (part n k l)).2) (fun k => tru (run t (part n k (l ++ [f]))).2) k0 (if (prd (run t l).1 f.1 != tkn f) = true then 1 else 0) n (fun j _ hj => by rw [hp2 j hj]) (by rw [e2]; show tru (_ ++ _) = _; rw [tru_snoc, hpr])]
        rw [if_pos hk0n]
    · have hb' : br f = false := by simpa using hb
      have e1 : run t (l ++ [f]) = ((run t l).1, (run t l).2 ++ [false]) := by rw [run_snoc, stp_no (.inr hb')]
      have e2 : run t (part n k0 (l ++ [f])) = ((run t (part n k0 l)).1, (run t (part n k0 l)).2 ++ [false]) := by rw [hp1, run_snoc, stp_no (.inr hb')]
      constructor
      · intro k hk
        by_cases e : k = k0
        · subst e; rw [e1, e2]; exact ih1 k hk
        · rw [hp2 k e, e1]; exact ih1 k hk
      · rw [e1]
        show tru ((run t l).2 ++ _) = _
        rw [tru_snoc, ih2]
        rw [sumP_one (fun k => tru (run t (part n k l)).2) (fun k => tru (run t (part n k (l ++ [f]))).2) k0 0 n (fun j _ hj => by rw [hp2 j hj]) (by rw [e2]; show tru (_ ++ _) = _; rw [tru_snoc]; rfl)]
        rw [if_pos hk0n]; rfl
theorem apart_counted (n : Nat) (h1 : 1 ≤ n) (h2 : n ≤ 4096) (l : List Fet) : (counted n l).2 = sumP (fun k => (counted n (part n k l)).2) n :=
  (apart_run (newT n) n (by rw [newT_len]; split <;> omega) (by omega) l).2
/-- how many of the first k groups are predicted wrong -/
def some_ (m : Int) (l : List Fet) (k : Nat) : Nat := sumP (fun j => (counted m (part m j l)).2) k
theorem some_all (n : Nat) (h2 : n ≤ 100) (l : List Fet) : some_ (1 + (n : Int)) l (n + 1) = (counted (1 + (n : Int)) l).2 := by
  have := apart_counted (n + 1) (by omega) (by omega) l
  rw [show ((n + 1 : Nat) : Int) = 1 + (n : Int) by omega] at this
  exact this.symm
theorem part_snoc (n : Int) (k : Nat) (l : List Fet) (f : Fet) : part n k (l ++ [f]) = part n k l ++ if isP n k f then [f] else [] := by
  unfold part; rw [List.filter_append]; cases h : isP n k f <;> simp [h]
theorem part_len (n : Int) (k : Nat) (l : List Fet) : (part n k l).length ≤ l.length := List.length_filter_le _ _
theorem part_ok (n : Int) (k : Nat) {l : List Fet} (h : FetOk l) : FetOk (part n k l) := fun f hf => h f (List.mem_filter.1 hf).1
theorem counted_le (n : Int) (l : List Fet) : (counted n l).2 ≤ l.length := by
  show tru _ ≤ _; have := tru_le (run (newT n) l).2; rw [(run_len _ _).2] at this; exact this

set_option maxRecDepth 100000 in
set_option maxHeartbeats 4000000 in
theorem walk (a0 : Option Addr) (len0 cap0 : Nat) (z0 : List Int) (w : World) (w0 : InInts .u8 w a0 len0 cap0 z0) :
    Calls Try.prog 3 #[.slice a0 len0 cap0] w fun e w' => e = .returned (.bool true) ∧ Below w.heap.size w w' := by
  have HI := Lib.hid w0
  clear w0
  go_enter Try.func3, Try.ntmps3
  go_wp2_with fail
  refine (awake_any _).mono ?_
  rintro e w1 ⟨rfl, hb1⟩
  go_wp2_with fail
  refine (New_any a0 len0 cap0 z0 300 (by omega) (by omega) _ (HI.out.below hb1)).mono ?_
  rintro e w2 ⟨g, rfl, hg, hcod, hb2⟩
  have hbw2 := hb1.trans (hb2.mono hb1.size)
  have hgw : w.heap.size ≤ g := by have := hb1.size; omega
  go_wp2_with fail
  refine (Next_any g 6 (by omega) _ hcod).mono ?_
  rintro e w3 ⟨n, rfl, n0, n1, hcod3, hg3⟩
  have hbw3 := below_grown1 hbw2 hg3 hbw2.size hgw
  have hgw3 := hbw3.size
  clear hb1 hb2 hcod hg3 hbw2
  go_wp2_with fail
  refine (Trace_any g 50 (by omega) (by omega) _ hcod3).mono ?_
  rintro e w4 ⟨a, cap, l, rfl, hl50, hlc, hcm, hcell, hba, hok, hcod4, hg4⟩
  have hbw4 := below_grown1 hbw3 hg4 hbw3.size hgw
  clear hcod3 hcod4 hg4 hbw3
  obtain ⟨n, rfl⟩ : ∃ m : Nat, n = (m : Int) := ⟨n.toNat, by omega⟩
  obtain ⟨len, hlen⟩ : ∃ len, l.length = len := ⟨_, rfl⟩
  have HL := Lib.hid hlen
  have HC := Lib.hid hcell
  have HOK := Lib.hid hok
  rw [hlen] at hl50 hlc ⊢
  clear hlen hcell hok
  go_wp2_with fail
  refine (Count_any _ a len cap l HL.out (by omega) HOK.out _ HC.out).mono ?_
  rintro e w5 ⟨rfl, hb5⟩
  have hall := counted_le (1 + (n : Int)) l
  obtain ⟨all, hA⟩ : ∃ all, (counted (1 + (n : Int)) l).2 = all := ⟨_, rfl⟩
  obtain ⟨bra, hB⟩ : ∃ b, (counted (1 + (n : Int)) l).1 = b := ⟨_, rfl⟩
  rw [hA, hB]
  rw [hA] at hall
  have HA := Lib.hid hA
  have hsz5 := hb5.size
  clear hA hB
  go_wp2_with fail
  go_loopw [8, 9] (fun v8 v9 wr => ∃ k : Nat, k ≤ n + 1 ∧ v9 = .int .i64 k ∧ v8 = .int .i64 (some_ (1 + (n : Int)) l k : Nat) ∧ Below w5.heap.size w5 wr) (fun _ v _ => n + 1 - (intOf v).toNat)
  case atStart => exact ⟨0, by omega, rfl, rfl, Below.refl _ _⟩
  case round =>
    obtain ⟨k, hk, rfl, rfl, hb⟩ := hrel
    obtain ⟨wo, rfl⟩ : ∃ wo : World, wo = wr := ⟨_, rfl⟩
    obtain ⟨i0, hi0, hz0, hz1, hz2⟩ := info_parts Try.info32
    have hszo := hb.size
    by_cases hkn : k < n + 1
    · have hs1 : some_ (1 + (n : Int)) l (k + 1) = some_ (1 + (n : Int)) l k + (counted (1 + (n : Int)) (part (1 + (n : Int)) k l)).2 := rfl
      have HS1 := Lib.hid hs1
      have hsl : some_ (1 + (n : Int)) l k ≤ k * 50 := sumP_le _ 50 (fun j => by have h1 := counted_le (1 + (n : Int)) (part (1 + (n : Int)) j l); have h2 := part_len (1 + (n : Int)) j l; have := HL.out; omega) k
      obtain ⟨sk, hsk⟩ : ∃ sk, some_ (1 + (n : Int)) l k = sk := ⟨_, rfl⟩
      rw [hsk] at hsl ⊢
      have HSK := Lib.hid hsk
      have hkd : decide ((k : Int) < 1 + (n : Int)) = true := by simp; omega
      clear hs1 hsk
      go_wp2_with fail
      go_loopw [10, 11] (fun v10 v11 wr => ∃ i : Nat, i ≤ len ∧ v11 = .int .i64 i ∧ wr.ownsRow wo.heap.size 32 3 v10 (part (1 + (n : Int)) k (l.take i)).length (fcs (part (1 + (n : Int)) k (l.take i))) ∧ Below wo.heap.size wo wr) (fun _ v _ => len - (intOf v).toNat)
      case atStart => exact ⟨0, by omega, rfl, World.ownsRow_nil _ _ _ _, Below.refl _ _⟩
      case round =>
        obtain ⟨i, hi, rfl, hown, hbi⟩ := hrel
        have hszi := hbi.size
        by_cases hlt : i < len
        · have hkl : i < l.length := by have := HL.out; omega
          obtain ⟨b, off, rfl, hbl, hcel⟩ := HC.out.fet i hkl
          obtain ⟨c0, c1, c2⟩ := hcel i hkl
          have hbb := (hb5.trans (hb.mono hb5.size)).trans (hbi.mono (by omega))
          replace c0 := (hbb.cell (p := ⟨b, off + i * 3, none⟩) hbl).trans c0
          replace c1 := (hbb.cell (p := ⟨b, off + i * 3 + 1, none⟩) hbl).trans c1
          replace c2 := (hbb.cell (p := ⟨b, off + i * 3 + 2, none⟩) hbl).trans c2
          have hp := part_snoc (1 + (n : Int)) k (l.take i) (l.getD i (0, 0, 0))
          rw [← take_snoc l i (0, 0, 0) hkl] at hp
          have hok := HOK.out.get i
          have hpl := part_len (1 + (n : Int)) k (l.take i)
          rw [List.length_take] at hpl
          obtain ⟨⟨y, s, q⟩, hf⟩ : ∃ f, l.getD i (0, 0, 0) = f := ⟨_, rfl⟩
          rw [hf] at hp c0 c1 c2 hok
          obtain ⟨P, hP⟩ : ∃ P, part (1 + (n : Int)) k (l.take i) = P := ⟨_, rfl⟩
          rw [hP] at hp hpl hown
          obtain ⟨y0, y1, q0, q1⟩ := hok
          simp only at y0 y1 c0 c1 c2
          have hpl50 : P.length ≤ 50 := by omega
          have e1 : isP (1 + (n : Int)) k (y, s, q) = (y % (1 + (n : Int)) == (k : Int)) := rfl
          obtain ⟨bb, hbbv⟩ : ∃ bb, isP (1 + (n : Int)) k (y, s, q) = bb := ⟨_, rfl⟩
          rw [hbbv] at e1 hp
          have HP := Lib.hid hp
          clear hcel hf hP hp hbbv q0 q1 hpl hbb
          cases bb with
          | true =>
            have e2 : (y % (1 + (n : Int)) == (k : Int)) = true := e1.symm
            clear e1
            go_wp2_with (at_builtin; refine wpList_append_own _ rfl _ _ _ rfl wo.heap.size 32 i0 _ 3 24 Try.underlying27 hi0 hz0 hz1 hz2 rfl (by omega) _ _ _ rfl (hown.alloc _) ⟨wr.heap.size, 0, none⟩ 1 1 [.int .i64 y, .int .i64 s, .int .i64 q] rfl rfl (World.news_of_block (cs := #[.int .i64 y, .int .i64 s, .int .i64 q]) (t := 32) (fr := (0, 0)) (heap_alloc_new wr _)) (by simp [Value.oneCell']) (by unfold maxLen; omega) (by omega) (by simp; omega) ?_; intro v' w7 hown7 hgrow7 _)
            have hb7 := (hbi.alloc hbi.size (.cells #[.int .i64 y, .int .i64 s, .int .i64 q] 32)).grown hgrow7 (by simp; omega) (fun k hk => (hown.lt k hk).1)
            have hown8 : w7.ownsRow wo.heap.size 32 3 v' (part (1 + (n : Int)) k (l.take (i + 1))).length (fcs (part (1 + (n : Int)) k (l.take (i + 1)))) := by
              rw [HP.out, if_pos rfl, fcs_append, List.length_append]; exact hown7
            have HO := Lib.hid hown8
            clear hown7 hgrow7 hown hown8
            go_wp2_with fail
            go_roundw
            case rel => exact ⟨i + 1, by omega, by go_num, HO.out, hb7⟩
            case measure => simp [intOf]; omega
          | false =>
            have e2 : (y % (1 + (n : Int)) == (k : Int)) = false := e1.symm
            clear e1
            have hown8 : wr.ownsRow wo.heap.size 32 3 u10 (part (1 + (n : Int)) k (l.take (i + 1))).length (fcs (part (1 + (n : Int)) k (l.take (i + 1)))) := by
              rw [HP.out, if_neg (by simp), List.append_nil]; exact hown
            have HO := Lib.hid hown8
            clear hown hown8
            go_wp2_with fail
            go_roundw
            case rel => exact ⟨i + 1, by omega, by go_num, HO.out, hbi⟩
            case measure => simp [intOf]; omega
        · obtain rfl : i = len := by omega
          have htl : l.take i = l := List.take_of_length_le (by have := HL.out; omega)
          rw [htl] at hown
          obtain ⟨P, hP⟩ : ∃ P, part (1 + (n : Int)) k l = P := ⟨_, rfl⟩
          have hPok := part_ok (1 + (n : Int)) k HOK.out
          have hpl := part_len (1 + (n : Int)) k l
          rw [HL.out] at hpl
          have hcl := counted_le (1 + (n : Int)) P
          rw [hP] at hown hPok hpl
          obtain ⟨pn, hpn⟩ : ∃ pn, P.length = pn := ⟨_, rfl⟩
          rw [hpn] at hown hpl hcl
          obtain ⟨pa, pcap, rfl, _, hpc, hpm, hpcell, _⟩ := Cells.of_own hown
          have HPL := Lib.hid hpn
          have HPC := Lib.hid hpcell
          have HPO := Lib.hid hPok
          have HP := Lib.hid hP
          clear htl hP hPok hpn hpcell hown
          go_wp2_with fail
          refine (Count_any _ pa pn pcap P HPL.out (by omega) HPO.out _ HPC.out).mono ?_
          rintro e w7 ⟨rfl, hb7⟩
          obtain ⟨c2, hc2⟩ : ∃ c, (counted (1 + (n : Int)) P).2 = c := ⟨_, rfl⟩
          obtain ⟨c1, hc1⟩ : ∃ c, (counted (1 + (n : Int)) P).1 = c := ⟨_, rfl⟩
          rw [hc1, hc2]
          rw [hc2] at hcl
          have HC2 := Lib.hid hc2
          clear hc1 hc2
          go_wp2_with fail
          go_roundw
          case rel => exact ⟨k + 1, by omega, by go_num, by rw [HS1.out, HSK.out, HP.out, HC2.out]; rfl, hb.trans ((hbi.trans (hb7.mono hbi.size)).mono hb.size)⟩
          case measure => simp [intOf]; omega
    · obtain rfl : k = n + 1 := by omega
      rw [some_all n (by omega) l, HA.out]
      have hkd : decide (((n + 1 : Nat) : Int) < 1 + (n : Int)) = false := by simp; omega
      go_wp2_with fail
      go_ret
      exact ⟨rfl, hbw4.trans ((hb5.trans (hb.mono hb5.size)).mono hbw4.size)⟩

/-! ### THE ROW's STEP -/
set_option maxRecDepth 100000 in
theorem lifted (os : Os) (started : os.Started) (H : Type) (enc : TypeId × Value → H) :
    ReturnsInHanded {} Try.checked os 3 .any (Rows.predictorApartSpec.pre6 enc Try.prog Try.f3 Rows.predictorApartRow.domain false) (Rows.predictorApartSpec.post enc Try.prog Try.f3 false true false false) := by
  refine returnsInHanded_of_change (C := Try.checked) own started (by kernel_rfl) Try.func3
    (ChangeSpec.witness6 (enc := enc) (C := Try.checked) false ⟨#[], #[.slice none 0 0], []⟩ 8 (by kernel_rfl) (by kernel_rfl) (by kernel_rfl) (by kernel_rfl)) ?_
  intro W base args ds gs before hval0 hW hcnd _
  have hval : ∀ (j : Nat) t v, Try.f3.params[j]? = some t → args[j]? = some v → Value.okWide Try.prog W .any base t v := hval0
  have hW' := hW
  obtain ⟨p, q, hA0, hV, rfl, hfz, hnd⟩ := hW
  have hA : DataW.TrodAll enc Try.prog W 0 (fun _ => true) true Try.f3.params.toList args.toList ds p := hA0
  rw [Try.params3] at hA hval
  obtain ⟨v0, vs0, d0, ds0, p0, q0, hargs, rfl, rfl, h0, r0⟩ := trodAll_cons hA
  obtain ⟨rfl, rfl, rfl⟩ := trodAll_nil r0
  obtain rfl : args = #[v0] := by cases args; simp_all
  obtain ⟨rfl, rfl⟩ := trodVars_none hV
  have k0 := h0
  have lt0 : ∀ x ∈ p0, x.block < W.heap.size := by obtain ⟨m, hm⟩ := k0; exact DataW.trod_lt m _ _ _ hm
  obtain ⟨a0, len0, cap0, zs0, rfl, w0⟩ := in_ints (k := .u8) Try.underlying22 Try.underlying5 (by kernel_rfl) (hval 0 22 v0 rfl rfl) h0
  clear hA0 hval0
  refine (walk a0 len0 cap0 zs0 W w0).mono fun e W' ⟨he, bel⟩ => ?_
  subst he
  exact ⟨_, rfl, _, _, _, [], _, [], hW', trodAll_mk1 (shut_bool Try.underlying4 _), (trodAll_cons_mk (Below.trod laidOut (by kernel_rfl) (of_decide_eq_true (by kernel_rfl)) k0 bel lt0) trodAll_mk0), rfl, bel.frame _, fun h => by cases h⟩

theorem over : Rows.predictorApartRow.holds Try.pinned (OpenSpec.ofChange Rows.predictorApartSpec) :=
  OpenClaim.holds_of_wide 3 Try.f3 rfl rfl rfl rfl rfl rfl rfl ⟨rfl, rfl, rfl, rfl, rfl⟩ rfl rfl rfl rfl rfl (by kernel_rfl) Try.func3 (by kernel_rfl)
    (of_decide_eq_true (by kernel_rfl)) (by unfold Func.isWrapper; first | (rw [if_pos (by decide +kernel)]; kernel_rfl) | (rw [if_neg (by decide +kernel)]; exact ⟨rfl, rfl⟩))
    (fun os started H enc _ => lifted os started H enc)

/-- the statement -/
theorem proved : Rows.PredictorApartSaid := over
#print axioms proved
end Go.Proofs.Ytjciifcaahninaa.predictorApart
