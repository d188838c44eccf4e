/-
  WALK of warmpathdraw.Spoilt.
-/
import Derived.Test.YtfgjnkgadnmegaaDoorAwake
import Derived.Laws.Closers25b
namespace Go.Proofs.YtfgjnkgadnmegaaDoor
open Go.ChangeShapes Go.WideShapes Go.ChangeAt Go.RowKit

/-- what Spoilt leaves: some bytes of its own; the choices; all else as it was -/
def SpoPost (g n : Nat) (w : World) (e : Ending) (w' : World) : Prop :=
  ∃ (a : Option Addr) (m cap : Nat) (ys : List Nat), e = .returned (.slice a m cap) ∧ Bs w' a m cap ys ∧ Byt ys ∧ m ≤ n + 1 ∧ Cod w' g ∧ w.grownBy w' (some g)
theorem own_take {w : World} {base n e k cap g : Nat} {zs : List Nat} (h : w.ownsRow base e 1 (.slice (some ⟨g, 0, none⟩) n cap) n (byts zs)) (hk : k ≤ n) : w.ownsRow base e 1 (.slice (some ⟨g, 0, none⟩) k cap) k (byts (zs.take k)) := by
  have h1 := h.1
  rcases h.2 with ⟨h2, _⟩ | ⟨g', cap', cur, h2, h3, h4, h5, h6, h7, h8⟩
  · injection h2 with h2; cases h2
  · injection h2 with h2 _ h9
    injection h2 with h2
    injection h2 with h2
    subst h2 h9
    refine ⟨by simp at h1 ⊢; omega, .inr ⟨g, cap, cur, rfl, h3, h4, by omega, h6, h7, ?_⟩⟩
    have : byts (zs.take k) = (byts zs).take k := by simp [List.map_take]
    rw [this, ← h8, List.take_take]
    congr 1
    omega
theorem below_grownS {w w' : World} (h : Below w.heap.size w w') (g : Nat) : w.grownBy w' (some g) := ⟨h.os, h.tape, h.output, h.size, fun i hi _ => h.block i hi⟩
theorem grown_alloc {w w' : World} {row : Option Nat} (h : w.grownBy w' row) (o : Obj) : w.grownBy (w'.alloc o) row :=
  grownBy_trans h ⟨rfl, rfl, rfl, by simp, fun i hi _ => Below.heap_alloc w' o i hi⟩
theorem grown_drew {w w' : World} {row : Option Nat} (h : w.grownBy w' row) : w.grownBy w'.drew row := ⟨h.os, h.tape, h.output, h.size, h.block⟩
theorem Bs.grown {w w' : World} {b off g n cap : Nat} {zs : List Nat} (h : Bs w (some ⟨b, off, none⟩) n cap zs) (hg : w.grownBy w' (some g)) (hne : b ≠ g) : Bs w' (some ⟨b, off, none⟩) n cap zs :=
  ⟨h.1, h.2.1, h.2.2.1, h.2.2.2.1, h.2.2.2.2.grown hg (fun x k e1 e2 => by injection e1 with e1; injection e2 with e2; subst e1 e2; exact hne)⟩
theorem frozen_grown {w w' : World} {g : Nat} (h : w.grownBy w' (some g)) {p : Addr} (hl : p.block < w.heap.size) (hn : p.block ≠ g) : w'.frozen? p = w.frozen? p := by
  unfold World.frozen?
  rw [h.block p.block hl (by intro e; injection e with e; exact hn e)]
theorem byts_set (zs : List Nat) (j y : Nat) : byts (zs.set j y) = (byts zs).set j (.int .u8 ((y : Nat) : Int)) := by simp
/-- what lies at a place -/
def rd (w : World) (g k : Nat) : Nat := match w.cell? ⟨g, k, none⟩ with
  | some (.int _ z) => z.toNat
  | _ => 0
/-- what the last step of Spoilt keeps -/
structure SpoI (W : World) (g g1 n cap1 : Nat) (w : World) : Prop where
  cod : Cod w g
  grown : W.grownBy w (some g)
  row : ∃ ys, Byt ys ∧ w.ownsRow W.heap.size 5 1 (.slice (some ⟨g1, 0, none⟩) n cap1) n (byts ys)
theorem SpoI.cell {W w : World} {g g1 n cap1 k : Nat} (h : SpoI W g g1 n cap1 w) (hk : k < n) : w.cell? ⟨g1, k, none⟩ = some (.int .u8 ((rd w g1 k : Nat) : Int)) := by
  obtain ⟨_, _, ys, hy, ho⟩ := h
  have hl : ys.length = n := by have := ho.1; simpa using this
  have := World.ownsRow.cells ho rfl k _ (byts_get ys k (by omega))
  rw [add_none, Nat.zero_add] at this
  unfold rd
  rw [this]
  simp
theorem SpoI.frozen {W w : World} {g g1 n cap1 : Nat} (h : SpoI W g g1 n cap1 w) (k : Nat) : w.frozen? ⟨g1, k, none⟩ = false := by
  obtain ⟨_, _, ys, hy, ho⟩ := h
  exact World.ownsRow.frozenAt ho k
theorem SpoI.call {W w w' : World} {g g1 n cap1 : Nat} (h : SpoI W g g1 n cap1 w) (hgg : g < g1) (hc : Cod w' g) (hg : w.grownBy w' (some g)) : SpoI W g g1 n cap1 w' := by
  obtain ⟨_, h2, ys, hy, ho⟩ := h
  exact ⟨hc, grownBy_trans h2 hg, ys, hy, World.ownsRow.kept ho hg (.inr (by simp [Value.ownBlock]; omega))⟩
theorem SpoI.store {W w : World} {g g1 n cap1 : Nat} (h : SpoI W g g1 n cap1 w) (hgg : g < g1) (k : Nat) (v : Int) (hv : IntKind.u8.min ≤ v ∧ v ≤ IntKind.u8.max) : SpoI W g g1 n cap1 (w.setCell ⟨g1, k, none⟩ (.int .u8 v)) := by
  obtain ⟨h1, h2, ys, hy, ho⟩ := h
  have hv0 : 0 ≤ v := hv.1
  have hv1 : v ≤ 255 := hv.2
  obtain ⟨y, rfl⟩ : ∃ y : Nat, v = y := ⟨v.toNat, by omega⟩
  obtain ⟨hs, hg⟩ := World.ownsRow.stored ho k (.int .u8 (y : Int))
  refine ⟨h1.setCell hgg _, grownBy_own h2 hg (fun q e => ?_), ys.set k y, ?_, by rw [byts_set]; exact hs⟩
  · have e : some g1 = some q := e
    injection e with e
    have := (ho.lt q (by show some g1 = some q; rw [e])).1
    exact this
  · intro z hz
    rcases List.mem_or_eq_of_mem_set hz with hz | rfl
    · exact hy z hz
    · omega
theorem one_bs (w : World) (y : Nat) : Bs (w.alloc (.cells #[.int .u8 ((y : Nat) : Int)] 5)) (some ⟨w.heap.size, 0, none⟩) 1 1 [y] := by
  refine ⟨rfl, Nat.le_refl _, by simp [maxLen], (fun e => by cases e), fun _ => ⟨_, _, rfl, by simp, fun j u hj => ?_⟩⟩
  rw [cell_of_row _ _ _ _ _ _ (heap_alloc_new w _), Nat.zero_add]
  simpa using hj
set_option maxRecDepth 100000 in
set_option maxHeartbeats 4000000 in
theorem Spoilt_any (g : Nat) (a : Option Addr) (n cap : Nat) (zs : List Nat) (hm : n ≤ 70000) (hby : Byt zs) (w : World) (hc : Cod w g) (h : Bs w a n cap zs) (hdis : ∀ x, a = some x → x.block ≠ g) : Calls Tryd.prog 14 #[.pointer (some ⟨g, 0, none⟩), .slice a n cap] w (SpoPost g n w) := by
  obtain ⟨i0, hi0, hz0, hz1, hz2⟩ := info_parts Tryd.info5
  have HB := Lib.hid hby
  have HC := Lib.hid hc
  have H := Lib.hid h
  have hz := h.1
  have hcm := h.2.2.1
  have hnc := h.2.1
  have hgw := hc.lt
  clear hby hc h
  by_cases hn : n = 0
  · subst hn
    go_enter Tryd.func14, Tryd.ntmps14
    go_wp2_with (at_builtin; refine wpList_append_src rfl _ _ _ rfl w.heap.size 5 i0 _ 1 1 Tryd.underlying22 hi0 hz0 hz1 hz2 rfl (by omega) _ _ _ rfl (World.ownsRow_nil _ _ _ _) a 0 cap (byts zs) rfl H.out.2.1 H.out.2.2.2.1 (by simp [H.out.1]) H.out.2.2.2.2 (byts_one _) (by unfold maxLen; omega) (by omega) (Nat.le_refl _) ?_; intro v1 w1 hown1 hgr1; have hb1 := (Below.refl w.heap.size w).grown hgr1 (Nat.le_refl _) (fun k e => by cases e); rw [Nat.zero_add, List.nil_append] at hown1; clear hgr1; obtain ⟨a1, cap1, rfl, hbs1⟩ := Bs.of_own hown1)
    have hc1 := HC.out.below hb1 hgw
    refine (Next_small g 256 (by omega) _ hc1).mono ?_
    rintro e w2 ⟨x, rfl, x0, x1, hc2, hg2⟩
    rw [show max (256 : Int) 1 = 256 from rfl] at x1
    obtain ⟨y, rfl⟩ : ∃ y : Nat, x = y := ⟨x.toNat, by omega⟩
    have hyl : y < 256 := by omega
    have hg3 := grown_alloc (grownBy_trans (below_grownS hb1 g) hg2) (.cells #[.int .u8 (y : Int)] 5)
    have hc3 := hc2.alloc (.cells #[.int .u8 (y : Int)] 5)
    clear hg2 hc2
    go_wp2_with fail
    go_ret
    exact ⟨_, _, _, [y], rfl, one_bs _ _, Byt.one hyl, by omega, hc3, hg3⟩
  · have hpos : 0 < n := by omega
    have e0 : ((n : Int) == 0) = false := by simp; omega
    clear hn
    go_enter Tryd.func14, Tryd.ntmps14
    go_wp2_with (at_builtin; refine wpList_append_src rfl _ _ _ rfl w.heap.size 5 i0 _ 1 1 Tryd.underlying22 hi0 hz0 hz1 hz2 rfl (by omega) _ _ _ rfl (World.ownsRow_nil _ _ _ _) a n cap (byts zs) rfl H.out.2.1 H.out.2.2.2.1 (by simp [H.out.1]) H.out.2.2.2.2 (byts_one _) (by unfold maxLen; omega) (by omega) (Nat.le_refl _) ?_; intro v1 w1 hown1 hgr1; have hb1 := (Below.refl w.heap.size w).grown hgr1 (Nat.le_refl _) (fun k e => by cases e); rw [Nat.zero_add, List.nil_append] at hown1; clear hgr1; obtain ⟨g1, cap1, rfl, hg1, hg2, hg3, hg4, hg5, hg6⟩ := own_block hown1 (byts_ne _ 0 (by omega)))
    have hc1 := HC.out.below hb1 hgw
    refine (Next_any g n (by omega) _ hc1).mono ?_
    rintro e w2 ⟨x, rfl, x0, x1, hc2, hgr2⟩
    rw [show max (n : Int) 1 = n by omega] at x1
    obtain ⟨k, rfl⟩ : ∃ y : Nat, x = y := ⟨x.toNat, by omega⟩
    have hkn : k < n := by omega
    clear x0 x1
    go_wp2_with fail
    refine (Next_small g 4 (by omega) _ hc2).mono ?_
    rintro e w3 ⟨x, rfl, x0, x1, hc3, hgr3⟩
    rw [show max (4 : Int) 1 = 4 from rfl] at x1
    obtain ⟨d, rfl⟩ : ∃ y : Nat, x = y := ⟨x.toNat, by omega⟩
    have hown3 := World.ownsRow.kept (World.ownsRow.kept hown1 hgr2 (.inr (by simp [Value.ownBlock]; omega))) hgr3 (.inr (by simp [Value.ownBlock]; omega))
    have hgr13 := grownBy_trans (below_grownS hb1 g) (grownBy_trans hgr2 hgr3)
    have HO := Lib.hid hown3
    have hgg : g < g1 := by omega
    have hg13 : g1 < w3.heap.size := by have := hgr2.size; have := hgr3.size; omega
    have HG := Lib.hid hgr13
    have HC3 := Lib.hid hc3
    clear hgr13 hgr2 hgr3 hown3 hown1 hg5 hg6 hc3 hc2 hc1
    obtain ⟨b, off, rfl, hbl, hcell⟩ := H.out.2.2.2.2.byt 0 (by omega)
    by_cases hd0 : d = 0
    · subst hd0
      have hsrc := Bs.cut (lo := k + 1) (m := n - (k + 1)) H.out (by omega)
      have hs3 := hsrc.grown HG.out (by intro e; exact hdis _ rfl e)
      have HS := Lib.hid hs3
      have hpre := own_take HO.out (show k ≤ n by omega)
      have hsz := HG.out.size
      clear hsrc hs3 hcell
      go_wp2_with fail
      have s1 : (0 : Int) ≤ (k : Int) := by omega
      have s2 : (k : Int) ≤ (cap1 : Int) := by omega
      have s3 : (0 : Int) ≤ (k : Int) + 1 := by omega
      have s4 : (k : Int) + 1 ≤ (n : Int) := by omega
      have s7 : IntKind.i64.wrap ((k : Int) + 1) = (k : Int) + 1 := IntWalk.i64_in _ (by omega)
      have s8 : ((k : Int) + 1).toNat = k + 1 := by omega
      obtain ⟨ad, had, hadc⟩ : ∃ ad : Addr, (if cap = k + 1 then some (⟨b, off, none⟩ : Addr) else some ⟨b, off + (k + 1), none⟩) = some ad ∧ Cells w3.drew (some ad) (byts ((zs.drop (k + 1)).take (n - (k + 1)))) := by
        by_cases hce : cap = k + 1
        · refine ⟨_, if_pos hce, ?_⟩
          have : (zs.drop (k + 1)).take (n - (k + 1)) = [] := List.eq_nil_of_length_eq_zero (by simp; omega)
          rw [this]; exact Cells.nil _ _
        · exact ⟨_, if_neg hce, HS.out.2.2.2.2⟩
      have HAC := Lib.hid hadc
      have hlen : ((zs.drop (k + 1)).take (n - (k + 1))).length = n - (k + 1) := by simp; omega
      clear hadc
      go_still_tail 7, (by kernel_rfl)
      change wpList _ _ _ _ _ w3.drew
      go_wp2_with (at_builtin; refine wpList_append_src rfl _ _ _ rfl w.heap.size 5 i0 _ 1 1 Tryd.underlying22 hi0 hz0 hz1 hz2 rfl (by omega) _ _ _ rfl hpre.drew (some ad) (n - (k + 1)) (cap - (k + 1)) (byts ((zs.drop (k + 1)).take (n - (k + 1)))) rfl (by omega) (fun e => by cases e) (by rw [List.length_map, hlen, Nat.mul_one]) HAC.out (byts_one _) (by unfold maxLen; omega) (by omega) (by show _ ≤ w3.heap.size; omega) ?_; intro v5 w5 hown5 hgr5; rw [← byts_append] at hown5; obtain ⟨a5, cap5, rfl, hbs5⟩ := Bs.of_own hown5)
      go_ret
      refine ⟨_, _, _, _, rfl, hbs5, Byt.append (HB.out.take k) ((HB.out.drop (k + 1)).take _), by omega, ?_, ?_⟩
      · exact Cod.grown HC3.out.drew hgr5 (fun q e => by have e : some g1 = some q := e; injection e with e; omega)
      · exact grownBy_own HG.out (⟨hgr5.os, hgr5.tape, hgr5.output, hgr5.size, hgr5.block⟩ : w3.grownBy w5 _) (fun q e => by have e : some g1 = some q := e; injection e with e; omega)
    · have f0 : ((d : Int) == 0) = false := by simp; omega
      by_cases hd1 : d = 1
      · subst hd1
        clear hcell
        go_wp2_with fail
        refine (Next_small g 256 (by omega) _ HC3.out).mono ?_
        rintro e w4 ⟨x, rfl, x0, x1, hc4, hgr4⟩
        rw [show max (256 : Int) 1 = 256 from rfl] at x1
        obtain ⟨y, rfl⟩ : ∃ y : Nat, x = y := ⟨x.toNat, by omega⟩
        have hyl : y < 256 := by omega
        have hown4 := World.ownsRow.kept HO.out hgr4 (.inr (by simp [Value.ownBlock]; omega))
        have hg4' := grownBy_trans HG.out hgr4
        have hsz4 := hg4'.size
        go_wp2_with (at_builtin; refine wpList_append_own _ rfl _ _ _ rfl w.heap.size 5 i0 _ 1 1 Tryd.underlying22 hi0 hz0 hz1 hz2 rfl (by omega) _ _ _ rfl (hown4.alloc _) ⟨w4.heap.size, 0, none⟩ 1 1 [.int .u8 (y : Int)] rfl rfl (World.news_of_block (cs := #[.int .u8 (y : Int)]) (t := 5) (fr := (0, 0)) (heap_alloc_new w4 _)) (by simp [Value.oneCell']) (by unfold maxLen; omega) (by omega) (by simp; omega) ?_; intro v5 w5 hown5 hgr5 _)
        have hc5 := Cod.grown (hc4.alloc (.cells #[.int .u8 (y : Int)] 5)) hgr5 (fun q e => by have e : some g1 = some q := e; injection e with e; omega)
        have hg5 := grownBy_own (grown_alloc hg4' (.cells #[.int .u8 (y : Int)] 5)) hgr5 (fun q e => by have e : some g1 = some q := e; injection e with e; omega)
        rw [show byts zs ++ [Value.int .u8 (y : Int)] = byts (zs ++ [y]) by simp] at hown5
        obtain ⟨a5, cap5, rfl, hbs5⟩ := Bs.of_own hown5
        go_ret
        exact ⟨_, _, _, _, rfl, hbs5, Byt.append HB.out (Byt.one hyl), by omega, hc5, hg5⟩
      · have f1 : ((d : Int) == 1) = false := by simp; omega
        clear hd0 hd1
        have hspo : SpoI w g g1 n cap1 w3.drew := ⟨HC3.out.drew, grown_drew HG.out, zs, HB.out, HO.out.drew⟩
        have hxd := hspo.cell hkn
        obtain ⟨x, hx⟩ : ∃ x : Nat, rd w3.drew g1 k = x := ⟨_, rfl⟩
        rw [hx] at hxd
        have hfd := hspo.frozen k
        have hkc : (k : Int) < (n : Int) := by omega
        clear hcell hx
        go_wp2_with fail
        go_region_with ((go_at_call 19; refine (Next_small g 255 (by omega) w3.drew hspo.cod).mono ?_; rintro e wc ⟨z, rfl, z0, z1, hcodc, hgc⟩; have hspoc := SpoI.call hspo hgg hcodc hgc; have fx := hspoc.frozen k; have cx := (hgc.cell_far ⟨g1, k, none⟩ (show g1 < w3.heap.size from hg13) (by simp; omega)).trans hxd))
        all_goals
          have hst := SpoI.store hspoc hgg k _ (bits_within .xor .u8 (x : Int) (IntKind.u8.wrap (IntKind.i64.wrap (1 + z))))
          clear hspoc hspo hxd hfd fx cx hgc hcodc
          generalize (wc.setCell _ _) = w9 at *
          obtain ⟨hc9, hg9, ys, hy9, ho9⟩ := hst
          obtain ⟨a9, cap9, he9, hbs9⟩ := Bs.of_own ho9
          injection he9 with he9 _ he8
          subst he9 he8
          have hly := ho9.1
          go_wp2_with fail
          go_ret
          exact ⟨_, _, _, ys, rfl, hbs9, hy9, by omega, hc9, hg9⟩
end Go.Proofs.YtfgjnkgadnmegaaDoor
