/-
  WALKS of the draws of chapter 16: (*Codes).Trace, table; fetches.
-/
import Derived.Test.YtjciifcaahninaaSmall
namespace Go.Proofs.Ytjciifcaahninaa
open Go.ChangeShapes Go.WideShapes Go.ChangeAt Go.RowKit

theorem Try.info32 : (Try.prog.info? 32).map (fun i => (i.zero, i.size, i.bytes)) = some (some (.agg #[.int .i64 0, .int .i64 0, .int .i64 0]), 3, 24) := by kernel_rfl
theorem Try.info4 : (Try.prog.info? 4).map (fun i => (i.zero, i.size, i.bytes)) = some (some (.bool false), 1, 1) := by kernel_rfl

theorem FetOk.snoc {zs : List Fet} (h : FetOk zs) {f : Fet} (hf : 0 ≤ f.1 ∧ f.1 < 80 ∧ 0 ≤ f.2.2 ∧ f.2.2 < 6) : FetOk (zs ++ [f]) := by
  intro x hx
  rw [List.mem_append] at hx
  rcases hx with hx | hx
  · exact h x hx
  · simp at hx; subst hx; exact hf
theorem Tab.snoc {t : List Int} (h : Tab t) {x : Int} (hx : 0 ≤ x ∧ x ≤ 3) : Tab (t ++ [x]) := by
  intro y hy
  rw [List.mem_append] at hy
  rcases hy with hy | hy
  · exact h y hy
  · simp at hy; subst hy; exact hx

/-- a trace that was drawn -/
def DrawnTrace (g : Nat) (most : Int) (w : World) (e : Ending) (w' : World) : Prop :=
  ∃ (a : Option Addr) (cap : Nat) (zs : List Fet), e = .returned (.slice a zs.length cap) ∧ (zs.length : Int) ≤ most ∧ zs.length ≤ cap ∧ cap ≤ maxLen ∧ Cells w' a (fcs zs) ∧ (∀ x, a = some x → w.heap.size ≤ x.block) ∧ FetOk zs ∧ Cod w' g ∧ w.grownBy w' (some g)

set_option maxRecDepth 100000 in
set_option maxHeartbeats 2000000 in
theorem Trace_any (g : Nat) (most : Int) (h0 : 0 ≤ most) (h1 : most ≤ 1000) (w : World) (h : Cod w g) : Calls Try.prog 10 #[.pointer (some ⟨g, 0, none⟩), .int .i64 most] w (DrawnTrace g most w) := by
  obtain ⟨i0, hi0, hz0, hz1, hz2⟩ := info_parts Try.info32
  have hlt := h.lt
  have H := Lib.hid h
  clear h
  go_enter Try.func10, Try.ntmps10
  go_wp2_with fail
  refine (Next_any g (most + 1) (by omega) _ H.out).mono ?_
  rintro e w1 ⟨x, rfl, x0, x1, hc1, hg1⟩
  have x2 : x ≤ most := by omega
  clear x1
  go_wp2_with fail
  go_loopw [5, 6] (fun v6 v7 wr => ∃ (zs : List Fet) (k : Int), 0 ≤ k ∧ (zs.length : Int) + k = x ∧ v7 = .int .i64 k ∧ wr.ownsRow w.heap.size 32 3 v6 zs.length (fcs zs) ∧ FetOk zs ∧ Cod wr g ∧ w.grownBy wr (some g)) (fun _ v _ => (intOf v).toNat)
  case atStart => exact ⟨[], x, x0, by simp, rfl, World.ownsRow_nil _ _ _ _, (fun _ h => by cases h), hc1, hg1⟩
  case round =>
    obtain ⟨zs, k, k0, hk, rfl, hown, hzs, hcod, hgr⟩ := hrel
    have HZ := Lib.hid hzs
    have hk' : (zs.length : Int) + k ≤ 1000 := by omega
    have HK := Lib.hid hk
    clear hzs hk
    have hl := hcod.lt
    by_cases hk1 : 0 < k
    · go_wp2_with fail
      refine (Next_any g 80 (by omega) _ hcod).mono ?_
      rintro e w2 ⟨y, rfl, y0, y1, hc2, hg2⟩
      have y2 : y < 80 := by omega
      go_wp2_with fail
      refine (Next_any g 10 (by omega) _ hc2).mono ?_
      rintro e w3 ⟨z, rfl, z0, z1, hc3, hg3⟩
      have z2 : z < 10 := by omega
      go_wp2_with fail
      refine (Next_any g 6 (by omega) _ hc3).mono ?_
      rintro e w4 ⟨q, rfl, q0, q1, hc4, hg4⟩
      have q2 : q < 6 := by omega
      have hg24 := grownBy_trans (grownBy_trans hg2 hg3) hg4
      have own4 : w4.ownsRow w.heap.size 32 3 u5 zs.length (fcs zs) := hown.kept hg24 (by
        by_cases e : u5.ownBlock = none
        · exact .inl e
        · refine .inr (fun e2 => ?_)
          have := (hown.lt g e2).1
          omega)
      have hgr4 := grownBy_trans hgr hg24
      have hsz := hgr4.size
      clear hown hc2 hc3 hg2 hg3 hg4 hg24 hcod hgr
      go_wp2_with (at_builtin; refine wpList_append_own _ rfl _ _ _ rfl w.heap.size 32 i0 _ 3 24 Try.underlying27 hi0 hz0 hz1 hz2 rfl (by omega) _ _ _ rfl (own4.alloc _) ⟨w4.heap.size, 0, none⟩ 1 1 [.int .i64 y, .int .i64 (1 + z), .int .i64 q] rfl rfl (World.news_of_block (cs := #[.int .i64 y, .int .i64 (1 + z), .int .i64 q]) (t := 32) (fr := (0, 0)) (heap_alloc_new w4 _)) (by simp [Value.oneCell']) (by unfold maxLen; omega) (by omega) (by simp; omega) ?_; intro v' w5 hown5 hgrow5 _)
      have hgr5 := grownBy_own (grownBy_trans hgr4 (World.grownBy_alloc w4 (.cells #[.int .i64 y, .int .i64 (1 + z), .int .i64 q] 32) _)) hgrow5 (fun k hk => (own4.lt k hk).1)
      have hcod5 := (hc4.alloc (.cells #[.int .i64 y, .int .i64 (1 + z), .int .i64 q] 32)).grown hgrow5 (fun k hk => by have := (own4.lt k hk).1; omega)
      have hown6 : w5.ownsRow w.heap.size 32 3 v' (zs ++ [((y, 1 + z, q) : Fet)]).length (fcs (zs ++ [(y, 1 + z, q)])) := by
        rw [fcs_append, List.length_append]; exact hown5
      have HB := Lib.hid (HZ.out.snoc (f := (y, 1 + z, q)) ⟨y0, y2, q0, q2⟩)
      clear hown5 hgrow5 own4 hgr4 hc4
      go_wp2_with fail
      go_roundw
      case rel => exact ⟨zs ++ [(y, 1 + z, q)], k - 1, by omega, by have := HK.out; simp; omega, by go_num, hown6, HB.out, hcod5, hgr5⟩
      case measure => simp [intOf]; omega
    · obtain ⟨a, cap, rfl, hn, hcap, hmx, hpl, hba⟩ := Cells.of_own hown
      clear hown
      go_wp2_with fail
      go_ret
      exact ⟨a, cap, zs, rfl, by have := HK.out; omega, hcap, hmx, hpl, hba, HZ.out, hcod, hgr⟩

/-- a table that was drawn -/
def DrawnTable (g : Nat) (w : World) (e : Ending) (w' : World) : Prop :=
  ∃ (a : Option Addr) (cap : Nat) (t : List Int), e = .returned (.slice a t.length cap) ∧ 1 ≤ t.length ∧ t.length ≤ 8 ∧ t.length ≤ cap ∧ cap ≤ maxLen ∧ Cells w' a (ints t) ∧ (∀ x, a = some x → w.heap.size ≤ x.block) ∧ Tab t ∧ Cod w' g ∧ w.grownBy w' (some g)
set_option maxRecDepth 100000 in
set_option maxHeartbeats 2000000 in
theorem table_any (g : Nat) (w : World) (h : Cod w g) : Calls Try.prog 12 #[.pointer (some ⟨g, 0, none⟩)] w (DrawnTable g w) := by
  obtain ⟨i0, hi0, hz0, hz1, hz2⟩ := info_parts Try.info3
  have hlt := h.lt
  have H := Lib.hid h
  clear h
  go_enter Try.func12, Try.ntmps12
  go_wp2_with fail
  refine (Next_any g 8 (by omega) _ H.out).mono ?_
  rintro e w1 ⟨x, rfl, x0, x1, hc1, hg1⟩
  have x2 : x < 8 := by omega
  clear x1
  go_wp2_with fail
  go_loopw [3, 4] (fun v6 v7 wr => ∃ (zs : List Int) (k : Int), 0 ≤ k ∧ (zs.length : Int) + k = 1 + x ∧ v7 = .int .i64 k ∧ wr.ownsRow w.heap.size 3 1 v6 zs.length (ints zs) ∧ Tab zs ∧ Cod wr g ∧ w.grownBy wr (some g)) (fun _ v _ => (intOf v).toNat)
  case atStart => exact ⟨[], 1 + x, by omega, by simp, rfl, World.ownsRow_nil _ _ _ _, (fun _ h => by cases h), hc1, hg1⟩
  case round =>
    obtain ⟨zs, k, k0, hk, rfl, hown, hzs, hcod, hgr⟩ := hrel
    have HZ := Lib.hid hzs
    have hk' : (zs.length : Int) + k ≤ 8 := by omega
    have HK := Lib.hid hk
    clear hzs hk
    have hl := hcod.lt
    by_cases hk1 : 0 < k
    · go_wp2_with fail
      refine (Next_any g 4 (by omega) _ hcod).mono ?_
      rintro e w4 ⟨y, rfl, y0, y1, hc4, hg4⟩
      have y2 : y < 4 := by omega
      have own4 : w4.ownsRow w.heap.size 3 1 u3 zs.length (ints zs) := hown.kept hg4 (by
        by_cases e : u3.ownBlock = none
        · exact .inl e
        · refine .inr (fun e2 => ?_)
          have := (hown.lt g e2).1
          omega)
      have hgr4 := grownBy_trans hgr hg4
      have hsz := hgr4.size
      clear hown hg4 hcod hgr
      go_wp2_with (at_builtin; refine wpList_append_own _ rfl _ _ _ rfl w.heap.size 3 i0 _ 1 8 Try.underlying35 hi0 hz0 hz1 hz2 rfl (by omega) _ _ _ rfl (own4.alloc _) ⟨w4.heap.size, 0, none⟩ 1 1 [.int .i64 y] rfl rfl (World.news_of_block (cs := #[.int .i64 y]) (t := 3) (fr := (0, 0)) (heap_alloc_new w4 _)) (by simp [Value.oneCell']) (by unfold maxLen; omega) (by omega) (by simp; omega) ?_; intro v' w5 hown5 hgrow5 _)
      have hgr5 := grownBy_own (grownBy_trans hgr4 (World.grownBy_alloc w4 (.cells #[.int .i64 y] 3) _)) hgrow5 (fun k hk => (own4.lt k hk).1)
      have hcod5 := (hc4.alloc (.cells #[.int .i64 y] 3)).grown hgrow5 (fun k hk => by have := (own4.lt k hk).1; omega)
      have hown6 : w5.ownsRow w.heap.size 3 1 v' (zs ++ [y]).length (ints (zs ++ [y])) := by
        rw [show ints (zs ++ [y]) = ints zs ++ [.int .i64 y] from by simp, List.length_append]; exact hown5
      have HB := Lib.hid (HZ.out.snoc (x := y) ⟨y0, by omega⟩)
      clear hown5 hgrow5 own4 hgr4 hc4
      go_wp2_with fail
      go_roundw
      case rel => exact ⟨zs ++ [y], k - 1, by omega, by have := HK.out; simp; omega, by go_num, hown6, HB.out, hcod5, hgr5⟩
      case measure => simp [intOf]; omega
    · obtain ⟨a, cap, rfl, hn, hcap, hmx, hpl, hba⟩ := Cells.of_own hown
      clear hown
      go_wp2_with fail
      go_ret
      exact ⟨a, cap, zs, rfl, by have := HK.out; omega, by omega, hcap, hmx, hpl, hba, HZ.out, hcod, hgr⟩

def fets (ks : List Int) : List Fet := ks.map fun k => (0, 2, k)
/-- the fetches of given ways -/
def Fetched (ks : List Int) (w : World) (e : Ending) (w' : World) : Prop :=
  ∃ (a : Option Addr) (cap : Nat), e = .returned (.slice a ks.length cap) ∧ ks.length ≤ cap ∧ cap ≤ maxLen ∧ Cells w' a (fcs (fets ks)) ∧ Below w.heap.size w w'
set_option maxRecDepth 100000 in
set_option maxHeartbeats 2000000 in
theorem fetches_any (a : Option Addr) (n cap : Nat) (ks : List Int) (hn : ks.length = n) (hm : n ≤ 1000) (w : World) (hc : Cells w a (ints ks)) : Calls Try.prog 23 #[.slice a n cap] w (Fetched ks w) := by
  obtain ⟨i0, hi0, hz0, hz1, hz2⟩ := info_parts Try.info32
  have HC := Lib.hid hc
  have HN := Lib.hid hn
  clear hc hn
  go_enter Try.func23, Try.ntmps23
  go_wp2_with fail
  go_loopw [3, 4] (fun v6 v7 wr => ∃ k : Nat, k ≤ n ∧ v7 = .int .i64 k ∧ wr.ownsRow w.heap.size 32 3 v6 k (fcs (fets (ks.take k))) ∧ Below w.heap.size w wr) (fun _ v _ => n - (intOf v).toNat)
  case atStart => exact ⟨0, by omega, rfl, World.ownsRow_nil _ _ _ _, Below.refl _ _⟩
  case round =>
    obtain ⟨k, hk, rfl, hown, hb⟩ := hrel
    have hsz := hb.size
    by_cases hlt : k < n
    · have hkl : k < ks.length := by have := HN.out; omega
      obtain ⟨b, off, rfl, hbl, hcell⟩ := HC.out.int k hkl
      have c1 := (hb.cell (p := ⟨b, off + k, none⟩) hbl).trans (hcell k hkl)
      obtain ⟨y, hy⟩ : ∃ y, ks.getD k 0 = y := ⟨_, rfl⟩
      rw [hy] at c1
      have ht : fcs (fets (ks.take (k + 1))) = fcs (fets (ks.take k)) ++ [.int .i64 0, .int .i64 2, .int .i64 y] := by
        rw [take_snoc ks k 0 hkl, hy, fets, List.map_append, fcs_append]; rfl
      have HT := Lib.hid ht
      clear hcell hy ht
      go_wp2_with (at_builtin; refine wpList_append_own _ rfl _ _ _ rfl w.heap.size 32 i0 _ 3 24 Try.underlying27 hi0 hz0 hz1 hz2 rfl (by omega) _ _ _ rfl (hown.alloc _) ⟨wr.heap.size, 0, none⟩ 1 1 [.int .i64 0, .int .i64 2, .int .i64 y] rfl rfl (World.news_of_block (cs := #[.int .i64 0, .int .i64 2, .int .i64 y]) (t := 32) (fr := (0, 0)) (heap_alloc_new wr _)) (by simp [Value.oneCell']) (by unfold maxLen; omega) (by omega) (by simp; omega) ?_; intro v' w5 hown5 hgrow5 _)
      have hb5 := (hb.alloc hb.size (.cells #[.int .i64 0, .int .i64 2, .int .i64 y] 32)).grown hgrow5 (by simp; omega) (fun k hk => (hown.lt k hk).1)
      rw [← HT.out] at hown5
      have HO := Lib.hid hown5
      clear hown5 hgrow5 hown
      go_wp2_with fail
      go_roundw
      case rel => exact ⟨k + 1, by omega, by go_num, HO.out, hb5⟩
      case measure => simp [intOf]; omega
    · obtain rfl : k = n := by omega
      obtain ⟨a', cap', rfl, hn', hcap, hmx, hpl, hba⟩ := Cells.of_own hown
      have htl : ks.take k = ks := List.take_of_length_le (by have := HN.out; omega)
      rw [htl] at hpl
      clear hown
      go_wp2_with fail
      go_ret
      have hnn := HN.out
      subst hnn
      exact ⟨a', cap', rfl, hcap, hmx, hpl, hb⟩
end Go.Proofs.Ytjciifcaahninaa
