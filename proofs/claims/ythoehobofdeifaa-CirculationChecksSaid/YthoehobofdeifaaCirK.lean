/-
  WALK of circulation.search's walk: pointers back make a list of steps.
-/
import Derived.Test.YthoehobofdeifaaCirR
import Derived.Laws.AppendOwn
namespace Go.Proofs.Ythoehobofdeifaa
open Go.ChangeShapes Go.WideShapes Go.ChangeAt Go.RowKit
set_option linter.unusedVariables false

/-- the pointers back from v lead to a over l -/
inductive Pw (N : Nw) (bk : Nat → Sp) (a : Nat) : Nat → List Sp → Prop
  | nil : Pw N bk a a []
  | snoc {v : Nat} {l : List Sp} (hne : v ≠ a) (hv : v < N.V) (hi : (bk v).i < N.m) (h : Pw N bk a (N.beg (bk v)) l) : Pw N bk a v (l ++ [bk v])
theorem Pw.inv {N : Nw} {bk : Nat → Sp} {a v : Nat} {l : List Sp} (h : Pw N bk a v l) : (v = a → l = []) ∧ (v ≠ a → ∃ k, l = k ++ [bk v] ∧ v < N.V ∧ (bk v).i < N.m ∧ Pw N bk a (N.beg (bk v)) k) := by
  cases h with
  | nil => exact ⟨fun _ => rfl, fun h => absurd rfl h⟩
  | @snoc v l hne hv hi h => exact ⟨fun e => absurd e hne, fun _ => ⟨l, rfl, hv, hi, h⟩⟩
theorem Try.infoStep : (Try.prog.info? 75).map (fun i => (i.zero, i.size, i.bytes)) = some (some (.agg #[.int .i64 0, .bool false]), 2, 16) := by kernel_rfl
theorem own_below2 {w w' : World} {B e size n : Nat} {v : Value} {xs : List Value} (h : w.ownsRow B e size v n xs) (hb : Below w.heap.size w w') : w'.ownsRow B e size v n xs :=
  h.kept (row := none) ⟨hb.os, hb.tape, hb.output, hb.size, fun k hk _ => hb.block k hk⟩ (by
    cases hq : v.ownBlock with
    | none => exact .inl rfl
    | some g => exact .inr (by simp))
def slLen : Value → Nat
  | .slice _ n _ => n
  | _ => 0
/-- what walk leaves -/
def WalkPost (l : List Sp) (w : World) (e : Ending) (w' : World) : Prop := ∃ (a : Option Addr) (c : Nat), e = .returned (.slice a l.length c) ∧ Stps w' a l ∧ (∀ x, a = some x → w.heap.size ≤ x.block) ∧ Below w.heap.size w w'
theorem Stps.of_sts {w : World} {g n : Nat} {s : Nat → Sp} (hg : g < w.heap.size) (h : Sts w g n s) (l : List Sp) (hl : l.length = n) (he : ∀ j, j < n → l[j]? = some (s j)) : Stps w (some ⟨g, 0, none⟩) l := by
  intro j t hj
  have hjn : j < n := by have := (List.getElem?_eq_some_iff.1 hj).1; omega
  have e := he j hjn
  rw [hj] at e
  injection e with e
  subst e
  obtain ⟨a, b⟩ := h j hjn
  exact ⟨g, 0, rfl, hg, by rw [Nat.zero_add]; exact a, by rw [Nat.zero_add]; exact b⟩
theorem rev_get (r : List Sp) (j : Nat) (hj : j < r.length) : r.reverse[j]? = some (r.getD (r.length - 1 - j) ⟨0, true⟩) := by
  rw [List.getElem?_reverse hj]
  simp [List.getD, show r.length - 1 - j < r.length by omega]

set_option maxRecDepth 100000 in
set_option maxHeartbeats 2000000 in
theorem walk_any (N : Nw) (K : Lay) (g : Nat) (bk : Nat → Sp) (from_ to_ : Nat) (hv0 : N.valid) (l : List Sp) (hln : l.length ≤ 100000) (hp : Pw N bk from_ to_ l) (hto : to_ < N.V) (gb : Nat) (cb : Nat) (hcb : N.V ≤ cb) (w : World) (h : Srch w g N K) (hb : SRow w gb N.V bk) :
    Calls Try.prog 51 #[.pointer (some ⟨g, 0, none⟩), .slice (some ⟨gb, 0, none⟩) N.V cb, .int .i64 (from_ : Int), .int .i64 (to_ : Int)] w (WalkPost l w) := by
  obtain ⟨i0, hi0, hz0, hz1, hz2⟩ := info_parts Try.infoStep
  have HS := Lib.hid h
  have HK := Lib.hid hb
  have HP := Lib.hid hp
  have HV := Lib.hid hv0
  have hV2 := hv0.V2
  obtain ⟨n, hn⟩ : ∃ n, l.length = n := ⟨_, rfl⟩
  have HN := Lib.hid hn
  rw [hn] at hln
  clear h hb hp hn hv0
  go_enter Try.func51, Try.ntmps51
  go_wp2
  go_loopw [9, 10] (fun v9 v10 wr => ∃ (v : Nat) (r k : List Sp), v10 = .int .i64 (v : Int) ∧ v < N.V ∧ Hid (l = k ++ r.reverse) ∧ r.length ≤ n ∧ Hid (Pw N bk from_ v k) ∧ wr.ownsRow w.heap.size 75 2 v9 r.length (stvs r) ∧ Hid (slLen v9 = r.length) ∧ Below w.heap.size w wr) (fun v _ _ => n - slLen v)
  case atStart => exact ⟨to_, [], l, rfl, hto, Lib.hid (by simp), by simp, HP, World.ownsRow_nil _ _ _ _, Lib.hid rfl, Below.refl _ _⟩
  case round =>
    obtain ⟨v, r, k, rfl, hv, HL, hrn, HPW, hown, HSL, hbw⟩ := hrel
    have hsz := hbw.size
    by_cases hva : v = from_
    · subst hva
      have hk : k = [] := HPW.out.inv.1 rfl
      have hva' : ((v : Int) != (v : Int)) = false := by simp
      have hl : l = r.reverse := by rw [HL.out, hk]; simp
      have hrl : r.length = l.length := by rw [hl]; simp
      clear HL HPW hk HSL
      rcases hown.2 with ⟨rfl, hr0⟩ | ⟨g1, cap, cur, rfl, hg1, hcur, hnc, hcm, hcs, htk⟩
      · have hl0 : l = [] := by rw [hl]; simp; exact List.eq_nil_of_length_eq_zero hr0
        have HL0 := Lib.hid hl0
        clear hl hrl hr0 hl0 hown
        go_wp2_with (go_at_call 61; refine (reverse_nil _).mono ?_; rintro e w6 ⟨rfl, rfl⟩)
        go_ret
        refine ⟨none, 0, by rw [HL0.out]; rfl, fun j s hj => ?_, fun x hx => (by cases hx), hbw⟩
        rw [HL0.out] at hj
        simp at hj
      · have hst : Sts wr g1 r.length (fun x => r.getD x ⟨0, true⟩) := by
          intro x hx
          obtain ⟨a, cap', e1, _, _, _, h4, _⟩ := Stps.of_own hown
          injection e1 with e1
          subst e1
          obtain ⟨b', off', e2, _, q1, q2⟩ := h4 x (r.getD x ⟨0, true⟩) (by simp [List.getD, hx])
          injection e2 with e2
          injection e2 with e2 e3
          subst e2 e3
          rw [Nat.zero_add] at q1 q2
          exact ⟨q1, q2⟩
        have hlt1 := (Array.getElem?_eq_some_iff.1 hcur).1
        have HST := Lib.hid hst
        have HLR := Lib.hid hl
        have HRL := Lib.hid hrl
        have HFZ : Hid (∀ o, wr.frozen? ⟨g1, o, none⟩ = false) := Lib.hid (fun o => frozen_of_row _ _ _ _ _ hcur)
        clear hst hl hrl hcur hcs htk hown
        go_wp2_with (go_at_call 61; refine (reverse_any g1 r.length cap _ (by omega) hnc _ hlt1 HFZ.out HST.out).mono ?_; rintro e w6 ⟨rfl, hg6, hst6⟩)
        go_ret
        have hz := hg6.size
        refine ⟨some ⟨g1, 0, none⟩, cap, by rw [← HRL.out]; rfl, Stps.of_sts (by omega) hst6 l HRL.out.symm ?_, fun x hx => (by injection hx with hx; subst hx; exact hg1), below_grown1 hbw hg6 hsz hg1⟩
        intro j hj
        rw [HLR.out]
        exact rev_get r j hj
    · obtain ⟨k', hk', hvV, hvi, hpw'⟩ := HPW.out.inv.2 hva
      have hva' : ((v : Int) != (from_ : Int)) = true := by simp; omega
      have hL := HL.out
      rw [hk'] at hL
      have hL2 : l = k' ++ (r ++ [bk v]).reverse := by rw [hL]; simp
      have hr1 : r.length + 1 ≤ n := by have := congrArg List.length hL2; rw [HN.out] at this; simp at this; omega
      have HL2 := Lib.hid hL2
      have HP2 := Lib.hid hpw'
      obtain ⟨a0, a1⟩ := SRow.cells (VRow.below HK.out hbw HK.out.lt) v hv
      have hgb := (VRow.below HK.out hbw HK.out.lt).lt
      clear hL hL2 hk' hpw'
      obtain ⟨s, hs⟩ : ∃ s, bk v = s := ⟨_, rfl⟩
      rw [hs] at a0 a1 hvi HL2 HP2
      have HBK := Lib.hid hs
      clear hs
      go_wp2_with (first | (go_at_call 54; refine (begin_any s N K g hvi _ (HS.out.below hb5)).mono ?_; rintro e w6 ⟨rfl, hb6⟩) | (at_builtin; refine wpList_append_own _ rfl _ _ _ rfl w.heap.size 75 i0 _ 2 16 Try.underlying85 hi0 hz0 hz1 hz2 rfl (by omega) _ _ _ rfl (hown.alloc _) ⟨wr.heap.size, 0, none⟩ 1 1 [.int .i64 (s.i : Int), .bool (!s.fw)] rfl rfl (World.news_of_block (cs := #[.int .i64 (s.i : Int), .bool (!s.fw)]) (t := 75) (fr := (0, 0)) (heap_alloc_new wr _)) (by simp [Value.oneCell']) (by unfold maxLen; omega) (by omega) (by simp; omega) ?_; intro v' w5 hown5 hgrow5 _; have hb5 := (hbw.alloc hsz (.cells #[.int .i64 (s.i : Int), .bool (!s.fw)] 75)).grown hgrow5 (by simp; omega) (fun k hk => (hown.lt k hk).1); have HO5 := Lib.hid hown5; clear hown5 hgrow5 hown; have b0 := (VRow.below HK.out hb5 HK.out.lt).cell (v * 2) (by omega); have b1 := (VRow.below HK.out hb5 HK.out.lt).cell (v * 2 + 1) (by omega); have hg5 := (VRow.below HK.out hb5 HK.out.lt).lt; rw [stf_0, HBK.out] at b0; rw [stf_1, HBK.out] at b1; clear a0 a1))
      have HO6 := own_below2 HO5.out hb6
      have hsl : slLen v' = r.length + 1 := by
        obtain ⟨_, _, e, _⟩ := Cells.of_own HO6
        rw [e]; rfl
      have hsl0 := HSL.out
      exact ⟨⟨N.beg s, r ++ [s], k', rfl, beg_lt HV.out.ok hvi, HL2, by simp; omega, HP2, by rw [List.length_append, stvs_append]; exact HO6, Lib.hid (by rw [hsl]; simp), hb5.trans (hb6.mono hb5.size)⟩, by omega⟩
end Go.Proofs.Ythoehobofdeifaa
