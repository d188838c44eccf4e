/-
  WALK of the law's own draw of pairs.
-/
import Derived.Test.YtjlalilhmadmcaaDraw
namespace Go.Proofs.Ytjlalilhmadmcaa
open Go.ChangeShapes Go.WideShapes Go.ChangeAt Go.RowKit

/-- the cells of a list of pairs -/
def plL : List (Int × Int) → List Value
  | [] => []
  | p :: l => .int .i64 p.1 :: .int .i64 p.2 :: plL l
theorem plL_len : ∀ zs, (plL zs).length = zs.length * 2
  | [] => rfl
  | _ :: l => by simp [plL, plL_len l]; omega
theorem plL_append : ∀ xs ys, plL (xs ++ ys) = plL xs ++ plL ys
  | [], _ => rfl
  | p :: l, ys => by simp [plL, plL_append l ys]
theorem plL_get : ∀ (zs : List (Int × Int)) (i : Nat), i < zs.length → (plL zs)[i * 2]? = some (.int .i64 (zs.getD i (0, 0)).1) ∧ (plL zs)[i * 2 + 1]? = some (.int .i64 (zs.getD i (0, 0)).2)
  | [], i, h => absurd h (by simp)
  | p :: l, 0, _ => ⟨rfl, rfl⟩
  | p :: l, i + 1, h => by
    have := plL_get l i (by simpa using h)
    have e : (i + 1) * 2 = i * 2 + 1 + 1 := by omega
    rw [e]
    simpa [plL] using this
theorem plL_one : ∀ zs u, u ∈ plL zs → u.oneCell' = true
  | [], _, h => by simp [plL] at h
  | p :: l, u, h => by
    simp only [plL, List.mem_cons] at h
    rcases h with rfl | rfl | h
    · rfl
    · rfl
    · exact plL_one l u h

theorem grownBy_own {a b c : World} {g : Nat} {row : Option Nat} (h : a.grownBy b (some g)) (k : b.grownBy c row) (hr : ∀ k, row = some k → a.heap.size ≤ k) : a.grownBy c (some g) :=
  ⟨k.os.trans h.os, k.tape.trans h.tape, k.output.trans h.output, Nat.le_trans h.size k.size, fun i hi hn =>
    (k.block i (by have := h.size; omega) (fun e => by have := hr i e.symm; omega)).trans (h.block i hi hn)⟩

/-- a slice of pairs reads as the list zs -/
def PairsL (w : World) (a : Option Addr) (zs : List (Int × Int)) : Prop :=
  ∀ i, i < zs.length → ∃ b off, a = some ⟨b, off, none⟩ ∧ b < w.heap.size ∧ w.cell? ⟨b, off + i * 2, none⟩ = some (.int .i64 (zs.getD i (0, 0)).1) ∧ w.cell? ⟨b, off + i * 2 + 1, none⟩ = some (.int .i64 (zs.getD i (0, 0)).2)
theorem PairsL.of_own {w : World} {base n e : Nat} {v : Value} {zs : List (Int × Int)} (h : w.ownsRow base e 2 v n (plL zs)) : ∃ a cap, v = .slice a zs.length cap ∧ n = zs.length ∧ zs.length ≤ cap ∧ cap ≤ maxLen ∧ PairsL w a zs ∧ ∀ x, a = some x → base ≤ x.block := by
  have hn : n = zs.length := by have := h.1; rw [plL_len] at this; omega
  subst hn
  rcases h.2 with ⟨rfl, h0⟩ | ⟨g, cap, cur, rfl, hb, hg, hc, hm, hs, ht⟩
  · refine ⟨none, 0, by rw [h0], rfl, by omega, by simp [maxLen], fun i hi => absurd hi (by omega), fun x hx => by cases hx⟩
  · refine ⟨_, cap, rfl, rfl, hc, hm, fun i hi => ?_, fun x hx => by injection hx with hx; subst hx; exact hb⟩
    obtain ⟨h1, h2⟩ := plL_get zs i hi
    have hlt : g < w.heap.size := (Array.getElem?_eq_some_iff.1 hg).1
    have hadd : ∀ q, (⟨g, 0, none⟩ : Addr).add q = ⟨g, 0 + q, none⟩ := by intro q; unfold Addr.add; split <;> simp_all
    refine ⟨g, 0, rfl, hlt, ?_, ?_⟩
    · have := h.cells (g := g) rfl _ _ h1; rwa [hadd] at this
    · have := h.cells (g := g) rfl _ _ h2; rwa [hadd] at this

/-- pairs that were drawn, and a margin -/
def DrawnPairs (g : Nat) (most : Int) (w : World) (e : Ending) (w' : World) : Prop :=
  ∃ (a : Option Addr) (cap : Nat) (zs : List (Int × Int)) (m : Int), e = .returned (.tuple #[.slice a zs.length cap, .int .i64 m]) ∧ (zs.length : Int) ≤ most ∧ zs.length ≤ cap ∧ cap ≤ maxLen ∧ PairsL w' a zs ∧ (∀ x, a = some x → w.heap.size ≤ x.block) ∧
    (∀ p ∈ zs, 1000 ≤ p.1 ∧ p.1 < 1040 ∧ 1000 ≤ p.2 ∧ p.2 < 1060) ∧ 0 ≤ m ∧ m < 30 ∧ Cod w' g ∧ w.grownBy w' (some g)

theorem Try.info55 : (Try.prog.info? 55).map (fun i => (i.zero, i.size, i.bytes)) = some (some (.agg #[.int .i64 0, .int .i64 0]), 2, 16) := by kernel_rfl

set_option maxRecDepth 100000 in
set_option maxHeartbeats 2000000 in
theorem pairs_any (g : Nat) (most : Int) (h0 : 0 ≤ most) (h1 : most ≤ 1000) (w : World) (h : Cod w g) : Calls Try.prog 27 #[.pointer (some ⟨g, 0, none⟩), .int .i64 most] w (DrawnPairs g most w) := by
  obtain ⟨i0, hi0, hz0, hz1, hz2⟩ := info_parts Try.info55
  have hlt := h.lt
  have H := Lib.hid h
  clear h
  go_enter Try.func27, Try.ntmps27
  go_wp2_with fail
  refine (Next_any g (most + 1) (by omega) _ H.out).mono ?_
  rintro e w1 ⟨x, rfl, x0, x1, hc1, hg1⟩
  have x2 : x ≤ most := by omega
  clear x1
  go_wp2_with fail
  go_loopw [6, 7] (fun v6 v7 wr => ∃ (zs : List (Int × Int)) (k : Int), 0 ≤ k ∧ (zs.length : Int) + k = x ∧ v7 = .int .i64 k ∧ wr.ownsRow w.heap.size 55 2 v6 zs.length (plL zs) ∧ (∀ p ∈ zs, 1000 ≤ p.1 ∧ p.1 < 1040 ∧ 1000 ≤ p.2 ∧ p.2 < 1060) ∧ Cod wr g ∧ w.grownBy wr (some g)) (fun _ v _ => (intOf v).toNat)
  case atStart => exact ⟨[], x, x0, by simp, rfl, World.ownsRow_nil _ _ _ _, by simp, hc1, hg1⟩
  case round =>
    obtain ⟨zs, k, k0, hk, rfl, hown, hzs, hcod, hgr⟩ := hrel
    have HZ := Lib.hid hzs
    have hk' : (zs.length : Int) + k ≤ 1000 := by omega
    have HK := Lib.hid hk
    clear hzs hk
    have hl := hcod.lt
    by_cases hk1 : 0 < k
    · go_wp2_with fail
      refine (Next_any g 40 (by omega) _ hcod).mono ?_
      rintro e w2 ⟨y, rfl, y0, y1, hc2, hg2⟩
      have y2 : y < 40 := by omega
      go_wp2_with fail
      refine (Next_any g 60 (by omega) _ hc2).mono ?_
      rintro e w3 ⟨z, rfl, z0, z1, hc3, hg3⟩
      have z2 : z < 60 := by omega
      have own3 : w3.ownsRow w.heap.size 55 2 u6 zs.length (plL zs) := hown.kept (grownBy_trans hg2 hg3) (by
        by_cases e : u6.ownBlock = none
        · exact .inl e
        · refine .inr (fun e2 => ?_)
          have := (hown.lt g e2).1
          omega)
      have hgr3 := grownBy_trans hgr (grownBy_trans hg2 hg3)
      have hsz := hgr3.size
      clear hown hc2 hg2 hg3 hcod hgr
      go_wp2_with (at_builtin; refine wpList_append_own _ rfl _ _ _ rfl w.heap.size 55 i0 _ 2 16 Try.underlying51 hi0 hz0 hz1 hz2 rfl (by omega) _ _ _ rfl (own3.alloc _) ⟨w3.heap.size, 0, none⟩ 1 1 [.int .i64 (1000 + y), .int .i64 (1000 + z)] rfl rfl (World.news_of_block (cs := #[.int .i64 (1000 + y), .int .i64 (1000 + z)]) (t := 55) (fr := (0, 0)) (heap_alloc_new w3 _)) (by simp [Value.oneCell']) (by unfold maxLen; omega) (by omega) (by simp; omega) ?_; intro v' w4 hown4 hgrow4 _)
      have hgr4 := grownBy_own (grownBy_trans hgr3 (World.grownBy_alloc w3 (.cells #[.int .i64 (1000 + y), .int .i64 (1000 + z)] 55) _)) hgrow4 (fun k hk => (own3.lt k hk).1)
      have hcod4 := (hc3.alloc (.cells #[.int .i64 (1000 + y), .int .i64 (1000 + z)] 55)).grown hgrow4 (fun k hk => by have := (own3.lt k hk).1; omega)
      have hown5 : w4.ownsRow w.heap.size 55 2 v' (zs ++ [(1000 + y, 1000 + z)]).length (plL (zs ++ [(1000 + y, 1000 + z)])) := by
        rw [plL_append, List.length_append]; exact hown4
      have hb5 : ∀ p ∈ zs ++ [(1000 + y, 1000 + z)], 1000 ≤ p.1 ∧ p.1 < 1040 ∧ 1000 ≤ p.2 ∧ p.2 < 1060 := by
        intro p hp
        rw [List.mem_append] at hp
        rcases hp with hp | hp
        · exact HZ.out p hp
        · simp at hp; subst hp; simp; omega
      have HB5 := Lib.hid hb5
      clear hown4 hgrow4 own3 hgr3 hc3 hb5
      go_wp2_with fail
      go_roundw
      case rel => exact ⟨zs ++ [(1000 + y, 1000 + z)], k - 1, by omega, by have := HK.out; simp; omega, by go_num, hown5, HB5.out, hcod4, hgr4⟩
      case measure => simp [intOf]; omega
    · obtain ⟨a, cap, rfl, hn, hcap, hmx, hpl, hba⟩ := PairsL.of_own hown
      go_wp2_with fail
      refine (Next_any g 30 (by omega) _ hcod).mono ?_
      rintro e w2 ⟨y, rfl, y0, y1, hc2, hg2⟩
      have hpl2 : PairsL w2 a zs := fun i hi => by
        obtain ⟨b, off, e, hb, g1, g2⟩ := hpl i hi
        have hbb := hba _ e
        simp at hbb
        exact ⟨b, off, e, by have := hg2.size; omega, (hg2.cell_far ⟨b, off + i * 2, none⟩ hb (by simp; omega)).trans g1, (hg2.cell_far ⟨b, off + i * 2 + 1, none⟩ hb (by simp; omega)).trans g2⟩
      have HP := Lib.hid hpl2
      clear hpl hpl2 hown
      go_wp2_with fail
      go_ret2
      exact ⟨a, cap, zs, y, rfl, by have := HK.out; omega, hcap, hmx, HP.out, hba, HZ.out, y0, by omega, hc2, grownBy_trans hgr hg2⟩
end Go.Proofs.Ytjlalilhmadmcaa
