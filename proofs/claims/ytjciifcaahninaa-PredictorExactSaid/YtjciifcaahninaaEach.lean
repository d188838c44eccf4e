/-
  WALK of predictor.Each.
-/
import Derived.Test.YtjciifcaahninaaTrace
namespace Go.Proofs.Ytjciifcaahninaa
open Go.ChangeShapes Go.WideShapes Go.ChangeAt Go.RowKit

theorem stp_no {s : List Int × List Bool} {f : Fet} (h : s.1.length = 0 ∨ br f = false) : stp s f = (s.1, s.2 ++ [false]) := by
  unfold stp; rw [if_neg (fun hh => by rcases h with h | h; omega; rw [h] at hh; exact absurd hh.2 (by simp))]
theorem stp_yes {s : List Int × List Bool} {f : Fet} (h : 0 < s.1.length) (hb : br f = true) : stp s f = (upd s.1 f.1 (tkn f), s.2 ++ [prd s.1 f.1 != tkn f]) := by
  unfold stp; rw [if_pos ⟨h, hb⟩]
theorem bools_snoc (l : List Bool) (b : Bool) : bools (l ++ [b]) = bools l ++ [.bool b] := by simp
theorem ints_upd (t : List Int) (i : Nat) (x : Int) : (ints t).set i (.int .i64 x) = ints (t.set i x) := by simp [List.map_set]

theorem keepT {w w5 : World} {B B1 e tn tcap k : Nat} {ta : Option Addr} {u : Value} {ts xs : List Value} (htlt : ∀ x, ta = some x → x.block < B1) (hT : w.ownsRow B 3 1 (.slice ta tn tcap) tn ts) (ho : w.ownsRow B1 e 1 u k xs) (hg : w.grownBy w5 u.ownBlock) :
    w5.ownsRow B 3 1 (.slice ta tn tcap) tn ts := by
  refine hT.kept hg ?_
  cases ta with
  | none => exact .inl rfl
  | some x =>
    refine .inr (fun e2 => ?_)
    have h1 := (ho.lt x.block e2.symm).1
    have h2 := htlt x rfl
    omega
theorem heap_new_at {w : World} {n : Nat} (h : w.heap.size = n) (o : Obj) : (w.alloc o).heap[n]? = some o := h ▸ heap_alloc_new w o
theorem stp_true {t1 : List Int} {o1 : List Bool} {tn : Nat} (y s : Int) (hl1 : t1.length = tn) (hp : 0 < tn) :
    stp (t1, o1) (y, s, 1) = (t1.set (y % (tn : Int)).toNat (aft (t1.getD (y % (tn : Int)).toNat 0) true), o1 ++ [!prd t1 y]) := by
  subst hl1
  rw [stp_yes hp rfl]
  show (upd t1 y true, o1 ++ [prd t1 y != true]) = _
  rw [show (prd t1 y != true) = (!prd t1 y) by cases prd t1 y <;> rfl]
  rfl
theorem stp_false {t1 : List Int} {o1 : List Bool} {tn : Nat} (y s : Int) (hl1 : t1.length = tn) (hp : 0 < tn) :
    stp (t1, o1) (y, s, 2) = (t1.set (y % (tn : Int)).toNat (aft (t1.getD (y % (tn : Int)).toNat 0) false), o1 ++ [prd t1 y]) := by
  subst hl1
  rw [stp_yes hp rfl]
  show (upd t1 y false, o1 ++ [prd t1 y != false]) = _
  rw [show (prd t1 y != false) = (prd t1 y) by cases prd t1 y <;> rfl]
  rfl
/-- which branches are predicted wrong -/
def Eached (n : Int) (l : List Fet) (w : World) (e : Ending) (w' : World) : Prop :=
  ∃ v, e = .returned v ∧ w'.ownsRow w.heap.size 4 1 v l.length (bools (run (newT n) l).2) ∧ Below w.heap.size w w'

set_option maxRecDepth 100000 in
set_option maxHeartbeats 4000000 in
theorem Each_any (n : Int) (a : Option Addr) (len cap : Nat) (l : List Fet) (hn : l.length = len) (hm : len ≤ 1000) (hok : FetOk l) (w : World) (hc : Cells w a (fcs l)) :
    Calls Try.prog 21 #[.int .i64 n, .slice a len cap] w (Eached n l w) := by
  obtain ⟨i0, hi0, hz0, hz1, hz2⟩ := info_parts Try.info4
  have HC := Lib.hid hc
  have HN := Lib.hid hn
  have HOK := Lib.hid hok
  clear hc hn hok
  go_enter Try.func21, Try.ntmps21
  go_wp2_with fail
  refine (New_any2 n _).mono ?_
  rintro e w1 ⟨v, rfl, hown, hb1⟩
  obtain ⟨tn, htn⟩ : ∃ tn, (newT n).length = tn := ⟨_, rfl⟩
  have htn4 : tn ≤ 4096 := by rw [← htn, newT_len]; split <;> omega
  rw [htn] at hown
  obtain ⟨ta, tcap, rfl, htl, htc, htm, _, htb⟩ := Cells.of_own hown
  have HTN := Lib.hid htn
  have hTab := newT_tab n
  have HTT := Lib.hid hTab
  have hs1 := hb1.size
  clear htl htn hTab
  go_wp2_with fail
  go_loopw [6, 16] (fun v6 v7 wr => ∃ k : Nat, k ≤ len ∧ v7 = .int .i64 k ∧ wr.ownsRow w1.heap.size 4 1 v6 k (bools (run (newT n) (l.take k)).2) ∧ wr.ownsRow w.heap.size 3 1 (.slice ta tn tcap) tn (ints (run (newT n) (l.take k)).1) ∧ Below w.heap.size w wr ∧ w1.heap.size ≤ wr.heap.size ∧ (∀ x, ta = some x → x.block < w1.heap.size)) (fun _ v _ => len - (intOf v).toNat)
  case atStart => exact ⟨0, by omega, rfl, World.ownsRow_nil _ _ _ _, hown, hb1, Nat.le_refl _, fun x hx => by subst hx; exact (hown.lt _ rfl).2⟩
  case round =>
    obtain ⟨k, hk, rfl, hown1, hownT, hb, hsz1, htlt⟩ := hrel
    have hsz := hb.size
    by_cases hlt : k < len
    · have hkl : k < l.length := by have := HN.out; omega
      obtain ⟨b, off, rfl, hbl, hcell⟩ := HC.out.fet k hkl
      obtain ⟨c0, c1, c2⟩ := hcell k hkl
      replace c0 := (hb.cell (p := ⟨b, off + k * 3, none⟩) hbl).trans c0
      replace c1 := (hb.cell (p := ⟨b, off + k * 3 + 1, none⟩) hbl).trans c1
      replace c2 := (hb.cell (p := ⟨b, off + k * 3 + 2, none⟩) hbl).trans c2
      have hok := HOK.out.get k
      have hst := run_take (newT n) l k hkl
      obtain ⟨S, hS⟩ : ∃ S, run (newT n) (l.take k) = S := ⟨_, rfl⟩
      obtain ⟨hl1, hl2⟩ := run_len (newT n) (l.take k)
      have hT1 := run_tab HTT.out (l.take k)
      rw [hS] at hst hl1 hl2 hT1 hown1 hownT
      rw [HTN.out] at hl1
      obtain ⟨⟨y, s, q⟩, hf⟩ : ∃ f, l.getD k (0, 0, 0) = f := ⟨_, rfl⟩
      rw [hf] at hst c0 c1 c2 hok
      obtain ⟨t1, o1⟩ := S
      simp only at hl1 hl2 hT1 hown1 hownT c0 c1 c2 hok
      obtain ⟨y0, y1, q0, q1⟩ := hok
      have HST := Lib.hid hst
      have HT1 := Lib.hid hT1
      clear hcell hS hf hst hT1 hl2
      by_cases hno : tn = 0 ∨ (q ≠ 1 ∧ q ≠ 2)
      · have hst2 : run (newT n) (l.take (k + 1)) = (t1, o1 ++ [false]) := by
          rw [HST.out]; refine stp_no ?_
          rcases hno with h | ⟨h1, h2⟩
          · exact .inl (show t1.length = 0 by omega)
          · exact .inr (by simp [br, h1, h2])
        have HS2 := Lib.hid hst2
        clear hst2
        have hno2 : tn = 0 ∨ (0 < tn ∧ q ≠ 1 ∧ q ≠ 2) := by omega
        clear hno
        rcases hno2 with rfl | ⟨hp, hq1, hq2⟩
        · go_wp2_with (at_builtin; refine wpList_append_own _ rfl _ _ _ rfl w1.heap.size 4 i0 _ 1 1 Try.underlying41 hi0 hz0 hz1 hz2 rfl (by omega) _ _ _ rfl ((hown1.alloc _).alloc _) ⟨wr.heap.size + 1, 0, none⟩ 1 1 [.bool false] rfl rfl (World.news_of_block (cs := #[.bool false]) (t := 4) (fr := (0, 0)) (heap_alloc2_new wr _ _)) (by simp [Value.oneCell']) (by unfold maxLen; omega) (by omega) (by simp; omega) ?_; intro v' w5 hown5 hgrow5 _)
          have hT5 := keepT htlt ((hownT.alloc (.cells #[.int .i64 y, .int .i64 s, .int .i64 q] 32)).alloc (.cells #[.bool false] 4)) ((hown1.alloc _).alloc _) hgrow5
          have hb5 := ((hb.alloc hsz (.cells #[.int .i64 y, .int .i64 s, .int .i64 q] 32)).alloc (by simp; omega) (.cells #[.bool false] 4)).grown hgrow5 (by simp; omega) (fun k hk => by have := (hown1.lt k hk).1; omega)
          have hz5 := hgrow5.size
          rw [← bools_snoc] at hown5
          have HO := Lib.hid hown5
          have HT5 := Lib.hid hT5
          clear hown5 hT5 hgrow5 hown1 hownT
          go_wp2_with fail
          go_roundw
          case rel => exact ⟨k + 1, by omega, by go_num, by rw [HS2.out]; exact HO.out, by rw [HS2.out]; exact HT5.out, hb5, by simp at hz5; omega, htlt⟩
          case measure => simp [intOf]; omega
        · have e1 : (q == 1) = false := by simpa using hq1
          have e2 : (q == 2) = false := by simpa using hq2
          clear hq1 hq2
          go_wp2_with (at_builtin; refine wpList_append_own _ rfl _ _ _ rfl w1.heap.size 4 i0 _ 1 1 Try.underlying41 hi0 hz0 hz1 hz2 rfl (by omega) _ _ _ rfl ((hown1.alloc _).alloc _) ⟨wr.heap.size + 1, 0, none⟩ 1 1 [.bool false] rfl rfl (World.news_of_block (cs := #[.bool false]) (t := 4) (fr := (0, 0)) (heap_alloc2_new wr _ _)) (by simp [Value.oneCell']) (by unfold maxLen; omega) (by omega) (by simp; omega) ?_; intro v' w5 hown5 hgrow5 _)
          have hT5 := keepT htlt ((hownT.alloc (.cells #[.int .i64 y, .int .i64 s, .int .i64 q] 32)).alloc (.cells #[.bool false] 4)) ((hown1.alloc _).alloc _) hgrow5
          have hb5 := ((hb.alloc hsz (.cells #[.int .i64 y, .int .i64 s, .int .i64 q] 32)).alloc (by simp; omega) (.cells #[.bool false] 4)).grown hgrow5 (by simp; omega) (fun k hk => by have := (hown1.lt k hk).1; omega)
          have hz5 := hgrow5.size
          rw [← bools_snoc] at hown5
          have HO := Lib.hid hown5
          have HT5 := Lib.hid hT5
          clear hown5 hT5 hgrow5 hown1 hownT
          go_wp2_with fail
          go_roundw
          case rel => exact ⟨k + 1, by omega, by go_num, by rw [HS2.out]; exact HO.out, by rw [HS2.out]; exact HT5.out, hb5, by simp at hz5; omega, htlt⟩
          case measure => simp [intOf]; omega
      · obtain ⟨hp, hq2⟩ : 0 < tn ∧ (q = 1 ∨ q = 2) := by omega
        clear hno
        rcases hq2 with hq | hq
        · subst hq
          have g0 := Int.emod_nonneg y (b := (tn : Int)) (by omega)
          have g1 := Int.emod_lt_of_pos y (b := (tn : Int)) (by omega)
          have hst2 : run (newT n) (l.take (k + 1)) = (t1.set (y % (tn : Int)).toNat (aft (t1.getD (y % (tn : Int)).toNat 0) true), o1 ++ [!prd t1 y]) := by
            rw [HST.out, stp_true y s hl1 hp]
          have HS2 := Lib.hid hst2
          obtain ⟨g, cap', hsl, hg1, hg2, hc1, hc2', hil, hgc⟩ := own_block hownT (ints_ne t1 0 (by omega))
          injection hsl with hta _ hcap
          subst hta hcap
          have ci := hgc (y % (tn : Int)).toNat _ (ints_get t1 _ (by omega))
          have fi := World.ownsRow.frozenAt hownT (y % (tn : Int)).toNat
          obtain ⟨hst3, hgr3⟩ := World.ownsRow.stored hownT (y % (tn : Int)).toNat (.int .i64 (aft (t1.getD (y % (tn : Int)).toNat 0) true))
          rw [ints_upd] at hst3
          have hcel : Cells wr (some ⟨g, 0, none⟩) (ints t1) := fun _ => ⟨g, 0, rfl, hg2, fun j u hj => by rw [Nat.zero_add]; exact hgc j u hj⟩
          have HCE := Lib.hid hcel
          have HST3 := Lib.hid hst3
          have hown2 := hown1.kept hgr3 (by
            by_cases e : u6.ownBlock = none
            · exact .inl e
            · refine .inr (fun e2 => ?_)
              have h1 := (hown1.lt g e2).1
              have h2 := htlt _ rfl
              simp at h2
              omega)
          obtain ⟨x, hx⟩ : ∃ x, t1.getD (y % (tn : Int)).toNat 0 = x := ⟨_, rfl⟩
          have hx3 := HT1.out.get (y % (tn : Int)).toNat
          rw [hx] at ci hx3 hst3 hgr3 hown2
          have HX := Lib.hid hx
          obtain ⟨x0, x3⟩ := hx3
          clear hst2 hgc hst3 hcel hx hgr3 hil
          go_wp2_with fail
          refine (Predict_any _ tn _ t1 y y0 hl1 hp (by omega) _ (HCE.out.below ((Below.refl _ _).alloc (Nat.le_refl _) _))).mono ?_
          rintro e w2 ⟨rfl, rfl⟩
          go_wp2_with fail
          refine (after_any x true x0 x3 _).mono ?_
          rintro e w3 ⟨rfl, rfl⟩
          go_wp2_with (at_builtin; refine wpList_append_own _ rfl _ _ _ rfl w1.heap.size 4 i0 _ 1 1 Try.underlying41 hi0 hz0 hz1 hz2 rfl (by omega) _ _ _ rfl ((hown2.alloc _).alloc _) ⟨wr.heap.size + 1, 0, none⟩ 1 1 [.bool (!prd t1 y)] rfl rfl (World.news_of_block (cs := #[.bool (!prd t1 y)]) (t := 4) (fr := (0, 0)) (heap_new_at (by simp) _)) (by simp [Value.oneCell']) (by unfold maxLen; omega) (by omega) (by simp; omega) ?_; intro v' w5 hown5 hgrow5 _)
          have hgB : ∀ k, u6.ownBlock = some k → w.heap.size ≤ k := fun k hk => by have := (hown1.lt k hk).1; omega
          have hst5 := HST3.out
          rw [HX.out] at hst5
          have hT5 := keepT htlt ((hst5.alloc (.cells #[.int .i64 y, .int .i64 s, .int .i64 1] 32)).alloc (.cells #[.bool (!prd t1 y)] 4)) ((hown2.alloc _).alloc _) hgrow5
          have hb5 := (((hb.setCell (p := ⟨g, (y % (tn : Int)).toNat, none⟩) hg1 (.int .i64 (aft x true))).alloc (by simp; omega) (.cells #[.int .i64 y, .int .i64 s, .int .i64 1] 32)).alloc (by simp; omega) (.cells #[.bool (!prd t1 y)] 4)).grown hgrow5 (by simp; omega) hgB
          have hz5 := hgrow5.size
          rw [← bools_snoc] at hown5
          have HO := Lib.hid hown5
          have HT5 := Lib.hid hT5
          clear hown5 hT5 hgrow5 hown1 hownT hown2 hst5
          go_wp2_with fail
          go_roundw
          case rel => exact ⟨k + 1, by omega, by go_num, by rw [HS2.out]; exact HO.out, by rw [HS2.out, HX.out]; exact HT5.out, hb5, by simp at hz5; omega, htlt⟩
          case measure => simp [intOf]; omega
        · subst hq
          have g0 := Int.emod_nonneg y (b := (tn : Int)) (by omega)
          have g1 := Int.emod_lt_of_pos y (b := (tn : Int)) (by omega)
          have hst2 : run (newT n) (l.take (k + 1)) = (t1.set (y % (tn : Int)).toNat (aft (t1.getD (y % (tn : Int)).toNat 0) false), o1 ++ [prd t1 y]) := by
            rw [HST.out, stp_false y s hl1 hp]
          have HS2 := Lib.hid hst2
          obtain ⟨g, cap', hsl, hg1, hg2, hc1, hc2', hil, hgc⟩ := own_block hownT (ints_ne t1 0 (by omega))
          injection hsl with hta _ hcap
          subst hta hcap
          have ci := hgc (y % (tn : Int)).toNat _ (ints_get t1 _ (by omega))
          have fi := World.ownsRow.frozenAt hownT (y % (tn : Int)).toNat
          obtain ⟨hst3, hgr3⟩ := World.ownsRow.stored hownT (y % (tn : Int)).toNat (.int .i64 (aft (t1.getD (y % (tn : Int)).toNat 0) false))
          rw [ints_upd] at hst3
          have hcel : Cells wr (some ⟨g, 0, none⟩) (ints t1) := fun _ => ⟨g, 0, rfl, hg2, fun j u hj => by rw [Nat.zero_add]; exact hgc j u hj⟩
          have HCE := Lib.hid hcel
          have HST3 := Lib.hid hst3
          have hown2 := hown1.kept hgr3 (by
            by_cases e : u6.ownBlock = none
            · exact .inl e
            · refine .inr (fun e2 => ?_)
              have h1 := (hown1.lt g e2).1
              have h2 := htlt _ rfl
              simp at h2
              omega)
          obtain ⟨x, hx⟩ : ∃ x, t1.getD (y % (tn : Int)).toNat 0 = x := ⟨_, rfl⟩
          have hx3 := HT1.out.get (y % (tn : Int)).toNat
          rw [hx] at ci hx3 hst3 hgr3 hown2
          have HX := Lib.hid hx
          obtain ⟨x0, x3⟩ := hx3
          clear hst2 hgc hst3 hcel hx hgr3 hil
          go_wp2_with fail
          refine (Predict_any _ tn _ t1 y y0 hl1 hp (by omega) _ (HCE.out.below ((Below.refl _ _).alloc (Nat.le_refl _) _))).mono ?_
          rintro e w2 ⟨rfl, rfl⟩
          go_wp2_with fail
          refine (after_any x false x0 x3 _).mono ?_
          rintro e w3 ⟨rfl, rfl⟩
          go_wp2_with (at_builtin; refine wpList_append_own _ rfl _ _ _ rfl w1.heap.size 4 i0 _ 1 1 Try.underlying41 hi0 hz0 hz1 hz2 rfl (by omega) _ _ _ rfl ((hown2.alloc _).alloc _) ⟨wr.heap.size + 1, 0, none⟩ 1 1 [.bool (prd t1 y)] rfl rfl (World.news_of_block (cs := #[.bool (prd t1 y)]) (t := 4) (fr := (0, 0)) (heap_new_at (by simp) _)) (by simp [Value.oneCell']) (by unfold maxLen; omega) (by omega) (by simp; omega) ?_; intro v' w5 hown5 hgrow5 _)
          have hgB : ∀ k, u6.ownBlock = some k → w.heap.size ≤ k := fun k hk => by have := (hown1.lt k hk).1; omega
          have hst5 := HST3.out
          rw [HX.out] at hst5
          have hT5 := keepT htlt ((hst5.alloc (.cells #[.int .i64 y, .int .i64 s, .int .i64 2] 32)).alloc (.cells #[.bool (prd t1 y)] 4)) ((hown2.alloc _).alloc _) hgrow5
          have hb5 := (((hb.setCell (p := ⟨g, (y % (tn : Int)).toNat, none⟩) hg1 (.int .i64 (aft x false))).alloc (by simp; omega) (.cells #[.int .i64 y, .int .i64 s, .int .i64 2] 32)).alloc (by simp; omega) (.cells #[.bool (prd t1 y)] 4)).grown hgrow5 (by simp; omega) hgB
          have hz5 := hgrow5.size
          rw [← bools_snoc] at hown5
          have HO := Lib.hid hown5
          have HT5 := Lib.hid hT5
          clear hown5 hT5 hgrow5 hown1 hownT hown2 hst5
          go_wp2_with fail
          go_roundw
          case rel => exact ⟨k + 1, by omega, by go_num, by rw [HS2.out]; exact HO.out, by rw [HS2.out, HX.out]; exact HT5.out, hb5, by simp at hz5; omega, htlt⟩
          case measure => simp [intOf]; omega
    · obtain rfl : k = len := by omega
      have htl : l.take k = l := List.take_of_length_le (by have := HN.out; omega)
      rw [htl] at hown1 hownT
      have HO := Lib.hid (ownsRow_mono hown1 hs1)
      clear hown1 hownT
      go_wp2_with fail
      go_ret
      have hnn := HN.out
      subst hnn
      exact ⟨_, rfl, HO.out, hb⟩
end Go.Proofs.Ytjciifcaahninaa
