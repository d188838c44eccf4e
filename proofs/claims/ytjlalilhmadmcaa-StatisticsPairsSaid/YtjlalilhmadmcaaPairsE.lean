/-
  WALK of the law's own draw of pairs, with the cells of the slice.
-/
import Derived.Test.YtjlalilhmadmcaaPairsD
namespace Go.Proofs.Ytjlalilhmadmcaa
open Go.ChangeShapes Go.WideShapes Go.ChangeAt Go.RowKit

/-- pairs that were drawn, and a margin -/
def DrawnPairs2 (g : Nat) (most : Int) (w : World) (e : Ending) (w' : World) : Prop :=
  ∃ (a : Option Addr) (cap : Nat) (zs : List (Int × Int)) (m : Int), e = .returned (.tuple #[.slice a zs.length cap, .int .i64 m]) ∧ (zs.length : Int) ≤ most ∧ zs.length ≤ cap ∧ cap ≤ maxLen ∧ PairsL w' a zs ∧ (∀ x, a = some x → w.heap.size ≤ x.block) ∧
    (∀ p ∈ zs, 1000 ≤ p.1 ∧ p.1 < 1040 ∧ 1000 ≤ p.2 ∧ p.2 < 1060) ∧ 0 ≤ m ∧ m < 30 ∧ Cod w' g ∧ w.grownBy w' (some g) ∧ (zs = [] → a = none ∧ cap = 0) ∧ (zs ≠ [] → ∃ b, a = some ⟨b, 0, none⟩ ∧ w.heap.size ≤ b ∧ b < w'.heap.size ∧ ∀ j u, (plL zs)[j]? = some u → w'.cell? ⟨b, j, none⟩ = some u)

set_option maxRecDepth 100000 in
set_option maxHeartbeats 2000000 in
theorem pairs_any2 (g : Nat) (most : Int) (h0 : 0 ≤ most) (h1 : most ≤ 1000) (w : World) (h : Cod w g) : Calls Try.prog 27 #[.pointer (some ⟨g, 0, none⟩), .int .i64 most] w (DrawnPairs2 g most w) := by
  obtain ⟨i0, hi0, hz0, hz1, hz2⟩ := info_parts Try.info55
  have hlt := h.lt
  have H := Lib.hid h
  clear h
  go_enter Try.func27, Try.ntmps27
  go_wp2_with fail
  refine (Next_any g (most + 1) (by omega) _ H.out).mono ?_
  rintro e w1 ⟨x, rfl, x0, x1, hc1, hg1⟩
  have x2 : x ≤ most := by omega
  clear x1
  go_wp2_with fail
  go_loopw [6, 7] (fun v6 v7 wr => ∃ (zs : List (Int × Int)) (k : Int), 0 ≤ k ∧ (zs.length : Int) + k = x ∧ v7 = .int .i64 k ∧ wr.ownsRow w.heap.size 55 2 v6 zs.length (plL zs) ∧ (∀ p ∈ zs, 1000 ≤ p.1 ∧ p.1 < 1040 ∧ 1000 ≤ p.2 ∧ p.2 < 1060) ∧ Cod wr g ∧ w.grownBy wr (some g) ∧ (zs = [] → v6 = .slice none 0 0)) (fun _ v _ => (intOf v).toNat)
  case atStart => exact ⟨[], x, x0, by simp, rfl, World.ownsRow_nil _ _ _ _, by simp, hc1, hg1, fun _ => rfl⟩
  case round =>
    obtain ⟨zs, k, k0, hk, rfl, hown, hzs, hcod, hgr, hnil⟩ := hrel
    have HZ := Lib.hid hzs
    have hk' : (zs.length : Int) + k ≤ 1000 := by omega
    have HK := Lib.hid hk
    have HN := Lib.hid hnil
    clear hzs hk hnil
    have hl := hcod.lt
    by_cases hk1 : 0 < k
    · go_wp2_with fail
      refine (Next_any g 40 (by omega) _ hcod).mono ?_
      rintro e w2 ⟨y, rfl, y0, y1, hc2, hg2⟩
      have y2 : y < 40 := by omega
      go_wp2_with fail
      refine (Next_any g 60 (by omega) _ hc2).mono ?_
      rintro e w3 ⟨z, rfl, z0, z1, hc3, hg3⟩
      have z2 : z < 60 := by omega
      have own3 : w3.ownsRow w.heap.size 55 2 u6 zs.length (plL zs) := hown.kept (grownBy_trans hg2 hg3) (by
        by_cases e : u6.ownBlock = none
        · exact .inl e
        · refine .inr (fun e2 => ?_)
          have := (hown.lt g e2).1
          omega)
      have hgr3 := grownBy_trans hgr (grownBy_trans hg2 hg3)
      have hsz := hgr3.size
      clear hown hc2 hg2 hg3 hcod hgr
      go_wp2_with (at_builtin; refine wpList_append_own _ rfl _ _ _ rfl w.heap.size 55 i0 _ 2 16 Try.underlying51 hi0 hz0 hz1 hz2 rfl (by omega) _ _ _ rfl (own3.alloc _) ⟨w3.heap.size, 0, none⟩ 1 1 [.int .i64 (1000 + y), .int .i64 (1000 + z)] rfl rfl (World.news_of_block (cs := #[.int .i64 (1000 + y), .int .i64 (1000 + z)]) (t := 55) (fr := (0, 0)) (heap_alloc_new w3 _)) (by simp [Value.oneCell']) (by unfold maxLen; omega) (by omega) (by simp; omega) ?_; intro v' w4 hown4 hgrow4 _)
      have hgr4 := grownBy_own (grownBy_trans hgr3 (World.grownBy_alloc w3 (.cells #[.int .i64 (1000 + y), .int .i64 (1000 + z)] 55) _)) hgrow4 (fun k hk => (own3.lt k hk).1)
      have hcod4 := (hc3.alloc (.cells #[.int .i64 (1000 + y), .int .i64 (1000 + z)] 55)).grown hgrow4 (fun k hk => by have := (own3.lt k hk).1; omega)
      have hown5 : w4.ownsRow w.heap.size 55 2 v' (zs ++ [(1000 + y, 1000 + z)]).length (plL (zs ++ [(1000 + y, 1000 + z)])) := by
        rw [plL_append, List.length_append]; exact hown4
      have hb5 : ∀ p ∈ zs ++ [(1000 + y, 1000 + z)], 1000 ≤ p.1 ∧ p.1 < 1040 ∧ 1000 ≤ p.2 ∧ p.2 < 1060 := by
        intro p hp
        rw [List.mem_append] at hp
        rcases hp with hp | hp
        · exact HZ.out p hp
        · simp at hp; subst hp; simp; omega
      have HB5 := Lib.hid hb5
      clear hown4 hgrow4 own3 hgr3 hc3 hb5
      go_wp2_with fail
      go_roundw
      case rel => exact ⟨zs ++ [(1000 + y, 1000 + z)], k - 1, by omega, by have := HK.out; simp; omega, by go_num, hown5, HB5.out, hcod4, hgr4, fun h => absurd h (by simp)⟩
      case measure => simp [intOf]; omega
    · have hrow : zs ≠ [] → ∃ b cap, u6 = .slice (some ⟨b, 0, none⟩) zs.length cap ∧ w.heap.size ≤ b ∧ b < wr.heap.size ∧ ∀ j u, (plL zs)[j]? = some u → wr.cell? ⟨b, j, none⟩ = some u := by
        intro hne
        rcases hown.2 with ⟨_, h0⟩ | ⟨b, cap, cur, hv, hb, hg, _⟩
        · exact absurd (List.eq_nil_of_length_eq_zero h0) hne
        · refine ⟨b, cap, hv, hb, (Array.getElem?_eq_some_iff.1 hg).1, fun j u hu => ?_⟩
          have := hown.cells (g := b) (by rw [hv]; rfl) j u hu
          have hadd : (⟨b, 0, none⟩ : Addr).add j = ⟨b, j, none⟩ := by unfold Addr.add; split <;> simp_all
          rwa [hadd] at this
      have hnil := HN.out
      obtain ⟨a, cap, rfl, hn, hcap, hmx, hpl, hba⟩ := PairsL.of_own hown
      have hnil' : zs = [] → a = none ∧ cap = 0 := fun h => by have := hnil h; injection this with e1 e2 e3; exact ⟨e1, e3⟩
      have HNI := Lib.hid hnil'
      have HRW := Lib.hid hrow
      clear hnil hnil' hrow
      go_wp2_with fail
      refine (Next_any g 30 (by omega) _ hcod).mono ?_
      rintro e w2 ⟨y, rfl, y0, y1, hc2, hg2⟩
      have hpl2 : PairsL w2 a zs := fun i hi => by
        obtain ⟨b, off, e, hb, g1, g2⟩ := hpl i hi
        have hbb := hba _ e
        simp at hbb
        exact ⟨b, off, e, by have := hg2.size; omega, (hg2.cell_far ⟨b, off + i * 2, none⟩ hb (by simp; omega)).trans g1, (hg2.cell_far ⟨b, off + i * 2 + 1, none⟩ hb (by simp; omega)).trans g2⟩
      have HP := Lib.hid hpl2
      clear hpl hpl2 hown
      go_wp2_with fail
      go_ret2
      refine ⟨a, cap, zs, y, rfl, by have := HK.out; omega, hcap, hmx, HP.out, hba, HZ.out, y0, by omega, hc2, grownBy_trans hgr hg2, HNI.out, fun hne => ?_⟩
      obtain ⟨b, cap2, hv, hb, hlt, hcl⟩ := HRW.out hne
      injection hv with e1 e2 e3
      refine ⟨b, e1, hb, by have := hg2.size; omega, fun j u hu => ?_⟩
      rw [hg2.cell_far ⟨b, j, none⟩ hlt (by simp; omega)]
      exact hcl j u hu
end Go.Proofs.Ytjlalilhmadmcaa
