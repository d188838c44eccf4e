/-
  for every codes, pairs, margin and level the law StatisticsPairs of chapter 43 (statistics) returns true: how many pairs are better and worse, and whether they are worse at a level, or the error, are those of the reference.
-/
import Derived.Test.YtjlalilhmadmcaaPairsE
import Derived.Test.YtjlalilhmadmcaaTot
import Derived.Test.YtjlalilhmadmcaaWorse
import Derived.Laws.AppendOwnNone
import Derived.OwnWalk
namespace Go.Proofs.Ytjlalilhmadmcaa.statisticsPairs
open Go.ChangeShapes Go.WideShapes Go.ChangeAt Go.RowKit
set_option linter.unusedVariables false

theorem own : ownKnob Try.prog.godebug = none := by kernel_rfl
theorem laidOut : laidOutB Try.prog = true := by kernel_rfl

theorem cells00 : (Value.agg #[Value.int IntKind.i64 0, Value.int IntKind.i64 0]).cells = #[Value.int IntKind.i64 0, Value.int IntKind.i64 0] := by simp [go_sem]
theorem made0 (n : Nat) (h : 58 ≤ n ∧ n ≤ 62) : (madeCells (Value.agg #[.int .i64 0, .int .i64 0]).cells (n * 2)).toList = plL (List.replicate n (0, 0)) := by
  have : n = 58 ∨ n = 59 ∨ n = 60 ∨ n = 61 ∨ n = 62 := by omega
  rw [cells00]
  simp only [madeCells, Array.toList_map, Array.toList_range]
  rcases this with rfl | rfl | rfl | rfl | rfl <;> rfl
theorem plL_set : ∀ (zs : List (Int × Int)) (i : Nat) (y : Int), (plL zs).set (i * 2 + 1) (.int .i64 y) = plL (zs.set i ((zs.getD i (0, 0)).1, y))
  | [], _, _ => rfl
  | p :: l, 0, y => rfl
  | p :: l, i + 1, y => by
    have e : (i + 1) * 2 + 1 = i * 2 + 1 + 1 + 1 := by omega
    rw [e]
    simp only [plL, List.set_cons_succ, plL_set l i y, List.getD_cons_succ]

theorem own_pos {w : World} {base n : Nat} {v : Value} {xs : List Value} (h : w.ownsRow base 55 2 v (0 + n) ([] ++ xs)) (hn : 0 < n) :
    ∃ g cap, v = .slice (some ⟨g, 0, none⟩) n cap ∧ base ≤ g ∧ n ≤ cap ∧ cap ≤ maxLen ∧ g < w.heap.size ∧ w.ownsRow base 55 2 (.slice (some ⟨g, 0, none⟩) n cap) n xs := by
  rw [List.nil_append, Nat.zero_add] at h
  have h0 := h
  obtain ⟨h1, ⟨_, h2⟩ | ⟨g, cap, cur, rfl, hb, hg, hc, hm, _, _⟩⟩ := h
  · omega
  · exact ⟨g, cap, rfl, hb, hc, hm, by have := Array.getElem?_eq_some_iff.1 hg; exact this.1, h0⟩

/-- a slice of pairs reads as q, and does not lie in the block g -/
def PAt (w : World) (g : Nat) (a : Option Addr) (len : Nat) (q : Nat → Int × Int) : Prop :=
  ∀ i, i < len → ∃ b off, a = some ⟨b, off, none⟩ ∧ b < w.heap.size ∧ w.cell? ⟨b, off + i * 2, none⟩ = some (.int .i64 (q i).1) ∧ w.cell? ⟨b, off + i * 2 + 1, none⟩ = some (.int .i64 (q i).2) ∧ b ≠ g
theorem PAt.at {w : World} {g : Nat} {a : Option Addr} {len : Nat} {q : Nat → Int × Int} (h : PAt w g a len q) : PairsAt w a len q := fun i hi => by
  obtain ⟨b, off, e, h1, h2, h3, _⟩ := h i hi
  exact ⟨b, off, e, h1, h2, h3⟩
theorem PAt.of {w : World} {g : Nat} {a : Option Addr} {len : Nat} {q : Nat → Int × Int} (h : PairsAt w a len q) (hg : ∀ x, a = some x → g < x.block) : PAt w g a len q := fun i hi => by
  obtain ⟨b, off, e, h1, h2, h3⟩ := h i hi
  have := hg _ e
  exact ⟨b, off, e, h1, h2, h3, by simp at this; omega⟩
theorem PAt.grown {w w' : World} {g : Nat} {a : Option Addr} {len : Nat} {q : Nat → Int × Int} (h : PAt w g a len q) {row : Option Nat} (hg : w.grownBy w' row) (hr : ∀ k, row = some k → k = g) : PAt w' g a len q := fun i hi => by
  obtain ⟨b, off, e, h1, h2, h3, h4⟩ := h i hi
  have hne : some b ≠ row := fun e => h4 (hr b e.symm)
  exact ⟨b, off, e, Nat.lt_of_lt_of_le h1 hg.size, (hg.cell_far ⟨b, _, none⟩ h1 hne).trans h2, (hg.cell_far ⟨b, _, none⟩ h1 hne).trans h3, h4⟩
theorem PAt.ofIn {w w' : World} {g : Nat} {a : Option Addr} {len cap : Nat} {zs : List (Int × Int)} (h : InPairs w a len cap zs) (hb : Below w.heap.size w w') (hg : w.heap.size ≤ g) : PAt w' g a len (fun i => zs.getD i (0, 0)) := fun i hi => by
  obtain ⟨b, off, e, h1, h2, h3, _⟩ := h.2.2.2 i hi
  exact ⟨b, off, e, Nat.lt_of_lt_of_le h1 hb.size, (hb.cell (p := ⟨b, _, none⟩) h1).trans h2, (hb.cell (p := ⟨b, _, none⟩) h1).trans h3, by omega⟩
theorem add0 (g j : Nat) : (⟨g, 0, none⟩ : Addr).add j = ⟨g, j, none⟩ := by unfold Addr.add; split <;> simp_all
theorem Signs_ex (a : Option Addr) (len cap : Nat) (q : Nat → Int × Int) (margin : Int) (hl : len ≤ 9223372036854775807) : ∃ b s e : Int,
    (∀ w, PairsAt w a len q → Calls Try.prog 28 #[.slice a len cap, .int .i64 margin] w fun en w' => en = .returned (.tuple #[.int .i64 b, .int .i64 s, .int .i64 e]) ∧ Below w.heap.size w w') ∧
    (∀ w, PairsAt w a len q → Calls Try.prog 29 #[.slice a len cap, .int .i64 margin] w fun en w' => en = .returned (.tuple #[.int .i64 b, .int .i64 s, .int .i64 e]) ∧ Below w.heap.size w w') :=
  ⟨_, _, _, fun w h => Signs_tot a len cap q margin hl w h, fun w h => refSigns_tot a len cap q margin hl w h⟩
theorem Worse_ex (a : Option Addr) (len cap : Nat) (q : Nat → Int × Int) (margin num den : Int) (hl : len ≤ 9223372036854775807) : ∃ (v : Bool) (e : Int),
    (∀ w, PairsAt w a len q → Calls Try.prog 30 #[.slice a len cap, .int .i64 margin, .agg #[.int .i64 num, .int .i64 den]] w fun en w' => en = .returned (.tuple #[.bool v, .int .i64 e]) ∧ Below w.heap.size w w') ∧
    (∀ w, PairsAt w a len q → Calls Try.prog 31 #[.slice a len cap, .int .i64 margin, .agg #[.int .i64 num, .int .i64 den]] w fun en w' => en = .returned (.tuple #[.bool v, .int .i64 e]) ∧ Below w.heap.size w w') :=
  ⟨_, _, fun w h => Worse_tot a len cap q margin num den hl w h, fun w h => refWorse_tot a len cap q margin num den hl w h⟩
theorem grown_alloc {a b : World} {row : Option Nat} (h : a.grownBy b row) (o : Obj) : a.grownBy (b.alloc o) row := ⟨h.os, h.tape, h.output, Nat.le_trans h.size (by simp), fun k hk hn => (Below.heap_alloc b o k (by have := h.size; omega)).trans (h.block k hk hn)⟩
theorem grown_drew {a b : World} {row : Option Nat} (h : a.grownBy b row) : a.grownBy b.drew row := ⟨h.os, h.tape, h.output, h.size, h.block⟩
theorem grown_of_below {a b : World} (h : Below a.heap.size a b) (row : Option Nat) : a.grownBy b row := ⟨h.os, h.tape, h.output, h.size, fun k hk _ => h.block k hk⟩
theorem eq_some {g : Nat} : ∀ k, some g = some k → k = g := fun k e => by injection e with e; exact e.symm
/-- the table of four slices -/
theorem four (w : World) (g : Nat) (t : TypeId) {a0 a1 a2 a3 : Option Addr} {l0 l1 l2 l3 : Nat} (c0 c1 c2 c3 : Nat) {q0 q1 q2 q3 : Nat → Int × Int}
    (h0 : PAt w g a0 l0 q0) (h1 : PAt w g a1 l1 q1) (h2 : PAt w g a2 l2 q2) (h3 : PAt w g a3 l3 q3) (m0 : l0 ≤ 9223372036854775807) (m1 : l1 ≤ 9223372036854775807) (m2 : l2 ≤ 9223372036854775807) (m3 : l3 ≤ 9223372036854775807) (k : Nat) (hk : k < 4) :
    ∃ (a : Option Addr) (len cap : Nat) (q : Nat → Int × Int), (w.alloc (.cells #[.slice a0 l0 c0, .slice a1 l1 c1, .slice a2 l2 c2, .slice a3 l3 c3] t)).cell? ⟨w.heap.size, k, none⟩ = some (.slice a len cap) ∧ len ≤ 9223372036854775807 ∧
      PAt (w.alloc (.cells #[.slice a0 l0 c0, .slice a1 l1 c1, .slice a2 l2 c2, .slice a3 l3 c3] t)) g a len q := by
  have hg := World.grownBy_alloc w (.cells #[.slice a0 l0 c0, .slice a1 l1 c1, .slice a2 l2 c2, .slice a3 l3 c3] t) none
  have hr : ∀ k, (none : Option Nat) = some k → k = g := fun k e => by cases e
  have : k = 0 ∨ k = 1 ∨ k = 2 ∨ k = 3 := by omega
  rcases this with rfl | rfl | rfl | rfl
  · exact ⟨a0, l0, c0, q0, by simp [go_sem], m0, h0.grown hg hr⟩
  · exact ⟨a1, l1, c1, q1, by simp [go_sem], m1, h1.grown hg hr⟩
  · exact ⟨a2, l2, c2, q2, by simp [go_sem], m2, h2.grown hg hr⟩
  · exact ⟨a3, l3, c3, q3, by simp [go_sem], m3, h3.grown hg hr⟩
theorem twoI (w : World) (x0 x1 : Int) (t : TypeId) (k : Nat) (hk : k < 2) :
    ∃ x : Int, (w.alloc (.cells #[.int .i64 x0, .int .i64 x1] t)).cell? ⟨w.heap.size, k, none⟩ = some (.int .i64 x) := by
  have : k = 0 ∨ k = 1 := by omega
  rcases this with rfl | rfl
  · exact ⟨x0, by simp [go_sem]⟩
  · exact ⟨x1, by simp [go_sem]⟩
theorem twoP (w : World) (x0 x1 x2 x3 : Int) (t : TypeId) (k : Nat) (hk : k < 2) :
    ∃ x y : Int, (w.alloc (.cells #[.int .i64 x0, .int .i64 x1, .int .i64 x2, .int .i64 x3] t)).cell? ⟨w.heap.size, k * 2, none⟩ = some (.int .i64 x) ∧ (w.alloc (.cells #[.int .i64 x0, .int .i64 x1, .int .i64 x2, .int .i64 x3] t)).cell? ⟨w.heap.size, k * 2 + 1, none⟩ = some (.int .i64 y) := by
  have : k = 0 ∨ k = 1 := by omega
  rcases this with rfl | rfl
  · exact ⟨x0, x1, by simp [go_sem], by simp [go_sem]⟩
  · exact ⟨x2, x3, by simp [go_sem], by simp [go_sem]⟩
/-- the pairs that were made -/
theorem made_at {w : World} {base B n : Nat} (g : Nat) (h : w.ownsRow base 55 2 (.slice (some ⟨B, 0, none⟩) n n) n (madeCells (Value.agg #[.int .i64 0, .int .i64 0]).cells (n * 2)).toList) (hn : 58 ≤ n ∧ n ≤ 62) (hg : g < B) : PAt w g (some ⟨B, 0, none⟩) n (fun i => (List.replicate n ((0 : Int), (0 : Int))).getD i (0, 0)) := by
  rw [made0 n hn] at h
  obtain ⟨a, cap, e, hl, _, _, hP, _⟩ := PairsL.of_own h
  simp only [Value.slice.injEq] at e
  obtain ⟨rfl, _, _⟩ := e
  exact PAt.of (fun i hi => hP i (by omega)) (fun x hx => by injection hx with hx; subst hx; exact hg)
theorem odd_at {w : World} {base n gO cap : Nat} {zs : List (Int × Int)} (g : Nat) (h : w.ownsRow base 55 2 (.slice (some ⟨gO, 0, none⟩) n cap) n (plL zs)) (hg : g < gO) : PAt w g (some ⟨gO, 0, none⟩) n (fun i => zs.getD i (0, 0)) := by
  obtain ⟨a, cap, e, hl, _, _, hP, _⟩ := PairsL.of_own h
  simp only [Value.slice.injEq] at e
  obtain ⟨rfl, _, _⟩ := e
  exact PAt.of (fun i hi => hP i (by omega)) (fun x hx => by injection hx with hx; subst hx; exact hg)

set_option maxRecDepth 100000 in
set_option maxHeartbeats 8000000 in
theorem walk (a0 : Option Addr) (len0 cap0 : Nat) (z0 : List Int) (a1 : Option Addr) (len1 cap1 : Nat) (z1 : List (Int × Int)) (a2 num0 den0 : Int) (w : World) (w0 : InInts .u8 w a0 len0 cap0 z0) (w1 : InPairs w a1 len1 cap1 z1) (w2 : (Lit.int .i64 a2).wf = true) (w3 : (Lit.int .i64 num0).wf = true) (x3 : (Lit.int .i64 den0).wf = true) :
    Calls Try.prog 9 #[.slice a0 len0 cap0, .slice a1 len1 cap1, .int .i64 a2, .agg #[.int .i64 num0, .int .i64 den0]] w fun e w' => e = .returned (.bool true) ∧ Below w.heap.size w w' := by
  obtain ⟨i0, hi0, hz0, hz1, hz2⟩ := info_parts Try.info55
  have hl1 : len1 ≤ 9223372036854775807 := by have := w1.2.1; have := w1.2.2.1; unfold maxLen at this; omega
  have HI := Lib.hid w0
  have HJ := Lib.hid w1
  clear w0 w1 w2 w3 x3
  by_cases h100 : (100 : Int) < (len1 : Int)
  · go_enter Try.func9, Try.ntmps9
    go_wp2_with (go_at_call 10; refine (awake_any _).mono ?_; rintro e w1 ⟨rfl, hb1⟩)
    go_ret
    exact ⟨rfl, ((Below.refl _ _).alloc (Nat.le_refl _) _).trans (hb1.mono (by simp))⟩
  have h100' : decide ((100 : Int) < (len1 : Int)) = false := by simp; omega
  have hl100 : len1 ≤ 100 := by omega
  go_enter Try.func9, Try.ntmps9
  go_wp2_with (go_at_call 10; refine (awake_any _).mono ?_; rintro e w1 ⟨rfl, hb1⟩)
  have f0 : w1.cell? ⟨w.heap.size, 0, none⟩ = some (.int .i64 num0) := by rw [(bcell hb1).1 _ _ (by simp)]; simp [go_sem]
  have f1 : w1.cell? ⟨w.heap.size, 1, none⟩ = some (.int .i64 den0) := by rw [(bcell hb1).1 _ _ (by simp)]; simp [go_sem]
  have hb1' : Below w.heap.size w w1 := ((Below.refl _ _).alloc (Nat.le_refl _) _).trans (hb1.mono (by simp))
  have hsz1 : w.heap.size < w1.heap.size := by have := hb1.size; simp at this; omega
  clear hb1
  refine (New_any a0 len0 cap0 z0 200 (by omega) (by omega) _ ?hi).mono ?_
  case hi => exact HI.out.below hb1'
  rintro e w2 ⟨g, rfl, hg, hcod, hb2⟩
  have hbw2 := hb1'.trans (hb2.mono hb1'.size)
  have hgw : w.heap.size < g := by omega
  have f0 := (hb2.cell (p := ⟨w.heap.size, 0, none⟩) hsz1).trans f0
  have f1 := (hb2.cell (p := ⟨w.heap.size, 1, none⟩) hsz1).trans f1
  go_wp2_with fail
  refine (pairs_any2 g 40 (by omega) (by omega) _ hcod).mono ?_
  rintro e w3 ⟨a, cap, zs, m, rfl, hz40, hzc, hcm, hP, hPb, hzs, m0, m1, hcod3, hg3, hnil, hrow⟩
  have hlt2 := hcod.lt
  have hbw3 : Below w.heap.size w w3 := below_grown1 hbw2 hg3 hbw2.size (by omega)
  have f0 := (hg3.cell_far ⟨w.heap.size, 0, none⟩ (by simp; omega) (by simp; omega)).trans f0
  have f1 := (hg3.cell_far ⟨w.heap.size, 1, none⟩ (by simp; omega) (by simp; omega)).trans f1
  have hsz3 : w.heap.size < w3.heap.size := by have := hcod3.lt; omega
  have hlen : zs.length ≤ 40 := by omega
  have hgb : ∀ x, a = some x → g < x.block := fun x hx => by have := hPb x hx; omega
  have HZ := Lib.hid hzs
  have HP := Lib.hid hP
  have HG := Lib.hid hgb
  clear hcod hg3 hb2 hbw2 HI hzs hP hPb hcm hsz1 hg hb1' hgb
  by_cases hzn : zs = []
  · obtain ⟨rfl, rfl⟩ := hnil hzn
    subst hzn
    clear hrow hnil
    go_wp2_with (at_builtin; refine wpList_append_own_none rfl _ _ _ rfl w3.heap.size 55 i0 2 Try.underlying51 hi0 _ 0 [] rfl (World.ownsRow_nil _ _ _ _) rfl ?_)
    have hP1 : PAt w3 g a1 len1 _ := PAt.ofIn HJ.out hbw3 (by omega)
    have hPz : PAt w3 g none 0 (fun _ => ((0 : Int), (0 : Int))) := fun i hi => absurd hi (by omega)
    have hPo : PAt w3 g none 0 (fun _ => ((0 : Int), (0 : Int))) := fun i hi => absurd hi (by omega)
    have hcodX := hcod3
    have hbX := hbw3
    obtain ⟨wX, rfl⟩ : ∃ wX : World, wX = w3 := ⟨_, rfl⟩
    go_wp2_with fail
    have hszX := hcodX.lt
    refine (Next_any g 5 (by omega) _ hcodX).mono ?_
    rintro e wN ⟨nx, rfl, n0, n1, hcodN, hgN⟩
    obtain ⟨kn, rfl⟩ := Int.eq_ofNat_of_zero_le n0
    have hkn : 58 ≤ 58 + kn ∧ 58 + kn ≤ 62 := by omega
    have hP1 := hP1.grown hgN (fun k e => by injection e with e; exact e.symm)
    have hPz := hPz.grown hgN (fun k e => by injection e with e; exact e.symm)
    have hPo := hPo.grown hgN (fun k e => by injection e with e; exact e.symm)
    have hbN := below_grown1 hbX hgN hbX.size (by omega)
    have f0 := (hgN.cell_far ⟨w.heap.size, 0, none⟩ (by simp; omega) (by simp; omega)).trans f0
    have f1 := (hgN.cell_far ⟨w.heap.size, 1, none⟩ (by simp; omega) (by simp; omega)).trans f1
    clear hgN hcodX hbX
    go_wp2_with (refine wpList_make_full _ rfl _ _ _ rfl 0 55 i0 _ 2 Try.underlying51 hi0 hz0 hz1 .i64 .i64 _ _ (58 + kn) rfl rfl (by omega) (by omega) (by rw [hz2]; omega) (by unfold maxLen; omega) (by omega) ?_; intro wM hownM hgrM)
    have hr0 : ∀ k, (none : Option Nat) = some k → k = g := fun k e => by cases e
    have hP1 := hP1.grown hgrM hr0
    have hPz := hPz.grown hgrM hr0
    have hPo := hPo.grown hgrM hr0
    have hPm := made_at g hownM hkn hcodN.lt
    have hx := fun k hk => four wM g 51 cap1 0 0 (58 + kn) hP1 hPz hPo hPm hl1 (by omega) (by omega) (by omega) k hk
    have hcodM := hcodN.grown hgrM (fun k e => by cases e)
    have hbM := hbN.grown hgrM hbN.size (fun k e => by cases e)
    have hszN : w.heap.size < wN.heap.size := by have := hcodN.lt; omega
    have hszM : w.heap.size < wM.heap.size := by have := hgrM.size; omega
    have f0 := (hgrM.cell_far ⟨w.heap.size, 0, none⟩ hszN (by simp)).trans f0
    have f1 := (hgrM.cell_far ⟨w.heap.size, 1, none⟩ hszN (by simp)).trans f1
    have hgB : g < wM.heap.size := hcodM.lt
    have hcod0 := hcodM.alloc (.cells #[.slice a1 len1 cap1, .slice none 0 0, .slice none 0 0, .slice (some ⟨wN.heap.size, 0, none⟩) (58 + kn : Nat) (58 + kn : Nat)] 51)
    have hb0 := hbM.alloc hbM.size (.cells #[.slice a1 len1 cap1, .slice none 0 0, .slice none 0 0, .slice (some ⟨wN.heap.size, 0, none⟩) (58 + kn : Nat) (58 + kn : Nat)] 51)
    have f0 := (World.cell?_alloc_lt wM (.cells #[.slice a1 len1 cap1, .slice none 0 0, .slice none 0 0, .slice (some ⟨wN.heap.size, 0, none⟩) (58 + kn : Nat) (58 + kn : Nat)] 51) ⟨w.heap.size, 0, none⟩ hszM).trans f0
    have f1 := (World.cell?_alloc_lt wM (.cells #[.slice a1 len1 cap1, .slice none 0 0, .slice none 0 0, .slice (some ⟨wN.heap.size, 0, none⟩) (58 + kn : Nat) (58 + kn : Nat)] 51) ⟨w.heap.size, 1, none⟩ hszM).trans f1
    have hB0 : wM.heap.size < (wM.alloc (.cells #[.slice a1 len1 cap1, .slice none 0 0, .slice none 0 0, .slice (some ⟨wN.heap.size, 0, none⟩) (58 + kn : Nat) (58 + kn : Nat)] 51)).heap.size := by simp
    clear hcodM hbM hownM hgrM hbN hcodN hP1 hPz hPo hPm
    generalize (wM.alloc (.cells #[.slice a1 len1 cap1, .slice none 0 0, .slice none 0 0, .slice (some ⟨wN.heap.size, 0, none⟩) (58 + kn : Nat) (58 + kn : Nat)] 51)) = W0 at *
    obtain ⟨B, hB⟩ : ∃ B, wM.heap.size = B := ⟨_, rfl⟩
    rw [hB] at hx hB0 hgB ⊢
    have HX := Lib.hid hx
    have hsz0 : w.heap.size < W0.heap.size := by omega
    clear hx hB hr0
    go_loopw [69] (fun v wr => ∃ k : Nat, k ≤ 4 ∧ v = .int .i64 k ∧ Cod wr g ∧ W0.grownBy wr (some g)) (fun v _ => 4 - (intOf v).toNat)
    case atStart => exact ⟨0, by omega, rfl, hcod0, grownBy_refl _ _⟩
    case round =>
      obtain ⟨k, hk, rfl, hcod, hgr⟩ := hrel
      by_cases hlt : k < 4
      · obtain ⟨a, len, cp, q, hc, hl, hP⟩ := HX.out k hlt
        have hc := (hgr.cell_far ⟨B, k, none⟩ hB0 (by simp; omega)).trans hc
        have hP := hP.grown hgr eq_some
        have f0 := (hgr.cell_far ⟨w.heap.size, 0, none⟩ hsz0 (by simp; omega)).trans f0
        have f1 := (hgr.cell_far ⟨w.heap.size, 1, none⟩ hsz0 (by simp; omega)).trans f1
        have hszk : w.heap.size < wr.heap.size := by have := hgr.size; omega
        go_wp2_with fail
        have HY := Lib.hid (fun k hk => twoI wr a2 m 3 k hk)
        have hgB1 : g < wr.heap.size := hcod.lt
        have hcod1 := hcod.alloc (.cells #[.int .i64 a2, .int .i64 m] 3)
        have hgr1 := grown_alloc hgr (.cells #[.int .i64 a2, .int .i64 m] 3)
        have hP1 := hP.grown (World.grownBy_alloc wr (.cells #[.int .i64 a2, .int .i64 m] 3) (some g)) eq_some
        have f0 := (World.cell?_alloc_lt wr (.cells #[.int .i64 a2, .int .i64 m] 3) ⟨w.heap.size, 0, none⟩ hszk).trans f0
        have f1 := (World.cell?_alloc_lt wr (.cells #[.int .i64 a2, .int .i64 m] 3) ⟨w.heap.size, 1, none⟩ hszk).trans f1
        have hB1 : wr.heap.size < (wr.alloc (.cells #[.int .i64 a2, .int .i64 m] 3)).heap.size := by simp
        generalize (wr.alloc (.cells #[.int .i64 a2, .int .i64 m] 3)) = W1 at *
        obtain ⟨B1, hB1e⟩ : ∃ B1, wr.heap.size = B1 := ⟨_, rfl⟩
        rw [hB1e] at HY hB1 hgB1 hszk ⊢
        have hsz1 : w.heap.size < W1.heap.size := by omega
        clear hB1e hcod hgr hP hc
        rw [show decide ((k : Int) < 4) = true from decide_eq_true (by omega)]
        go_loopw [77] (fun v wr => ∃ i : Nat, i ≤ 2 ∧ v = .int .i64 i ∧ Cod wr g ∧ W1.grownBy wr (some g)) (fun v _ => 2 - (intOf v).toNat)
        case atStart => exact ⟨0, by omega, rfl, hcod1, grownBy_refl _ _⟩
        case round =>
          obtain ⟨i, hi, rfl, hcodi, hgri⟩ := hrel
          by_cases hi2 : i < 2
          · obtain ⟨x, cx⟩ := HY.out i hi2
            have cx := (hgri.cell_far ⟨B1, i, none⟩ hB1 (by simp; omega)).trans cx
            have hPi := hP1.grown hgri eq_some
            obtain ⟨vb, vs, ve, hS1, hS2⟩ := Signs_ex a len cp q x hl
            have HS1 := Lib.hid hS1
            have HS2 := Lib.hid hS2
            have f0 := (hgri.cell_far ⟨w.heap.size, 0, none⟩ hsz1 (by simp; omega)).trans f0
            have f1 := (hgri.cell_far ⟨w.heap.size, 1, none⟩ hsz1 (by simp; omega)).trans f1
            have hszi : w.heap.size < wr.heap.size := by have := hgri.size; omega
            clear hS1 hS2
            go_wp2_with fail
            refine (HS1.out _ hPi.at).mono ?_
            rintro e wS ⟨rfl, hbS⟩
            go_wp2_with fail
            refine (HS2.out _ (hPi.at.below hbS)).mono ?_
            rintro e wT ⟨rfl, hbT⟩
            have hbT' := hbS.trans (hbT.mono hbS.size)
            have hcodT := hcodi.below hbT' hcodi.lt
            have hgrT := grownBy_trans hgri (grown_of_below hbT' _)
            have f0 := (hbT'.cell (p := ⟨w.heap.size, 0, none⟩) hszi).trans f0
            have f1 := (hbT'.cell (p := ⟨w.heap.size, 1, none⟩) hszi).trans f1
            have hszT : w.heap.size < wT.heap.size := by have := hbT'.size; omega
            clear hbS hbT hbT' hcodi hgri hPi HS1 HS2 cx
            go_wp2_with fail
            go_region_held3 (fun w' => w'.cell? ⟨w.heap.size, 0, none⟩ = some (.int .i64 num0) ∧ w'.cell? ⟨w.heap.size, 1, none⟩ = some (.int .i64 den0) ∧ Cod w' g ∧ W1.grownBy w' (some g) ∧ w.heap.size < w'.heap.size)
              ((go_split_ands; (repeat' apply And.intro) <;> first | (with_reducible assumption) | (with_reducible exact hcodc) | (with_reducible refine Cod.alloc ?_ _; with_reducible assumption) | (with_reducible refine Cod.drew ?_; with_reducible assumption) | (with_reducible refine grown_alloc ?_ _; with_reducible assumption) | (with_reducible refine grown_drew ?_; with_reducible assumption) | (with_reducible refine grownBy_trans ?_ hgc; with_reducible assumption) | (simp; omega) | (rw [hgc.cell_far _ (by simp; omega) (by simp; omega)]; assumption) | (have := hgc.size; omega) | (refine (World.cell?_alloc_lt _ _ _ ?_).trans ?_ <;> first | (with_reducible assumption) | (show _ < _; omega))))
              (first | (go_at_call 13; refine (level_any g _ ?_).mono ?_; (go_split_ands; assumption); rintro e wc ⟨num1, den1, rfl, p1, p2, p3, p4, hcodc, hgc⟩))
            obtain ⟨hs0, hs1, hcodR, hgrR, hszR⟩ := ‹_ ∧ _ ∧ Cod _ g ∧ _ ∧ _›
            have HZ := Lib.hid (fun k hk => twoP wc num0 den0 num1 den1 25 k hk)
            have hPR := hP1.grown hgrR eq_some
            have hB2 : wc.heap.size < (wc.alloc (.cells #[.int .i64 num0, .int .i64 den0, .int .i64 num1, .int .i64 den1] 25)).heap.size := by simp
            generalize (wc.alloc (.cells #[.int .i64 num0, .int .i64 den0, .int .i64 num1, .int .i64 den1] 25)) = W2 at *
            obtain ⟨B2, hB2e⟩ : ∃ B2, wc.heap.size = B2 := ⟨_, rfl⟩
            rw [hB2e] at HZ hB2 ⊢
            clear hB2e hs0 hs1 f0 f1 hcodT hgrT hszT hgc hcodc
            go_wp2_with fail
            go_loopw [113] (fun v wr => ∃ j : Nat, j ≤ 2 ∧ v = .int .i64 j ∧ Below W2.heap.size W2 wr) (fun v _ => 2 - (intOf v).toNat)
            case atStart => exact ⟨0, by omega, rfl, Below.refl _ _⟩
            case round =>
              obtain ⟨j, hj, rfl, hbj⟩ := hrel
              by_cases hj2 : j < 2
              · obtain ⟨nu, de, c0, c1⟩ := HZ.out j hj2
                have l0 := (hbj.cell (p := ⟨B2, j * 2, none⟩) (block_lt_of_cell c0)).trans c0
                have l1 := (hbj.cell (p := ⟨B2, j * 2 + 1, none⟩) (block_lt_of_cell c1)).trans c1
                have hPj := hPR.at.below hbj
                obtain ⟨vv, vx, hV1, hV2⟩ := Worse_ex a len cp q x nu de hl
                have HV1 := Lib.hid hV1
                have HV2 := Lib.hid hV2
                clear hV1 hV2 c0 c1
                go_wp2_with fail
                refine (HV1.out _ (hPj.below ((Below.refl _ _).alloc (Nat.le_refl _) _))).mono ?_
                rintro e w7 ⟨rfl, hb7⟩
                have k7 := (bcell hb7).1
                have z7 : wr.heap.size < w7.heap.size := by have := hb7.size; simp at this; omega
                go_wp2_with fail
                refine (HV2.out _ ((hPj.below ((Below.refl _ _).alloc (Nat.le_refl _) _)).below hb7)).mono ?_
                rintro e w8 ⟨rfl, hb8⟩
                have hend : Below W2.heap.size W2 w8 := hbj.trans ((((Below.refl _ _).alloc (Nat.le_refl _) _).trans ((hb7.trans (hb8.mono hb7.size)).mono (by simp))).mono hbj.size)
                clear hb7 hb8 k7 HV1 HV2
                go_wp2_with fail
                go_roundw
                case rel => exact ⟨j + 1, by omega, by go_num, hend⟩
                case measure => simp [intOf]; omega
              · go_wp2_with fail
                go_roundw
                case rel => exact ⟨i + 1, by omega, by go_num, hcodR.below hbj hcodR.lt, grownBy_trans hgrR (grown_of_below hbj _)⟩
                case measure => simp [intOf]; omega
          · go_wp2_with fail
            go_roundw
            case rel => exact ⟨k + 1, by omega, by go_num, hcodi, grownBy_trans hgr1 hgri⟩
            case measure => simp [intOf]; omega
      · go_wp2_with fail
        go_ret
        exact ⟨rfl, below_grown1 hb0 hgr hb0.size (by omega)⟩

  · obtain ⟨b, rfl, hb0, hblt, hcells⟩ := hrow hzn
    have HC := Lib.hid hcells
    have hpos : 0 < zs.length := by cases zs with | nil => exact absurd rfl hzn | cons _ _ => simp
    have HN := Lib.hid hzn
    have hnews : ∀ j u, (plL zs)[j]? = some u → w3.cell? ((⟨b, 0, none⟩ : Addr).add j) = some u := fun j u hu => by
      have h := HC.out j u hu
      have hadd : (⟨b, 0, none⟩ : Addr).add j = ⟨b, j, none⟩ := by unfold Addr.add; split <;> simp_all
      rw [hadd]; exact h
    have HW := Lib.hid hnews
    clear hrow hnil hcells hzn hnews
    go_wp2_with (at_builtin; refine wpList_append_own _ rfl _ _ _ rfl w3.heap.size 55 i0 _ 2 16 Try.underlying51 hi0 hz0 hz1 hz2 rfl (by omega) _ 0 [] rfl (World.ownsRow_nil _ _ _ _) ⟨b, 0, none⟩ zs.length cap (plL zs) rfl (plL_len zs) HW.out (plL_one zs) (by unfold maxLen; omega) (by omega) (by omega) ?_; intro v' w4 hown4 hgrow4 _; obtain ⟨gO, cO, rfl, o1, o2, o3, o4, hown5⟩ := own_pos hown4 hpos)
    have hgn : w3.grownBy w4 none := hgrow4
    have hcod4 : Cod w4 g := hcod3.grown hgn (by simp)
    refine (Next_any g zs.length (by omega) _ hcod4).mono ?_
    rintro e w5 ⟨i, rfl, ki0, ki1, hcod5, hg5⟩
    obtain ⟨k, rfl⟩ := Int.eq_ofNat_of_zero_le ki0
    have hk : k < zs.length := by omega
    have hown5' := hown5.kept hg5 (.inr (by simp [Value.ownBlock]; omega))
    go_wp2_with fail
    refine (Int_any g _ hcod5).mono ?_
    rintro e w6 ⟨y, rfl, y0, y1, hcod6, hg6⟩
    have hown6 := hown5'.kept hg6 (.inr (by simp [Value.ownBlock]; omega))
    have hfz := hown6.frozenAt (k * 2 + 1)
    have hin := hown6.cells (g := gO) rfl (k * 2 + 1) _ (plL_get zs k hk).2
    rw [add0] at hin
    have hgX : w3.grownBy (w6.setCell ⟨gO, k * 2 + 1, none⟩ (.int .i64 y)) (some g) := grownBy_own (grownBy_trans (grownBy_trans ⟨hgn.os, hgn.tape, hgn.output, hgn.size, fun i hi _ => hgn.block i hi (by simp)⟩ hg5) hg6) (hown6.stored (k * 2 + 1) (.int .i64 y)).2 (fun k e => by injection e with e; omega)
    have hcodX : Cod (w6.setCell ⟨gO, k * 2 + 1, none⟩ (.int .i64 y)) g := hcod6.setCell (by show g < gO; omega) _
    have hbX := below_grown1 hbw3 hgX hbw3.size (by omega)
    have f0 := (hgX.cell_far ⟨w.heap.size, 0, none⟩ (by simp; omega) (by simp; omega)).trans f0
    have f1 := (hgX.cell_far ⟨w.heap.size, 1, none⟩ (by simp; omega) (by simp; omega)).trans f1
    have hP1 : PAt _ g a1 len1 _ := PAt.ofIn HJ.out hbX (by omega)
    have hPz : PAt _ g (some ⟨b, 0, none⟩) zs.length (fun i => zs.getD i (0, 0)) := (PAt.of HP.out HG.out).grown hgX (fun k e => by injection e with e; exact e.symm)
    have hst := (hown6.stored (k * 2 + 1) (.int .i64 y)).1
    rw [plL_set] at hst
    have hPo := odd_at g hst (by omega)
    clear hst hgX hcod6 hcod5 hcod4 hg5 hg6 hgn hown5 hown5' hgrow4 hcod3
    go_wp2_with fail
    have hzl : zs.length ≤ 9223372036854775807 := by omega
    generalize (w6.setCell ⟨gO, k * 2 + 1, none⟩ (.int .i64 y)) = wX at *
    have hszX := hcodX.lt
    refine (Next_any g 5 (by omega) _ hcodX).mono ?_
    rintro e wN ⟨nx, rfl, n0, n1, hcodN, hgN⟩
    obtain ⟨kn, rfl⟩ := Int.eq_ofNat_of_zero_le n0
    have hkn : 58 ≤ 58 + kn ∧ 58 + kn ≤ 62 := by omega
    have hP1 := hP1.grown hgN (fun k e => by injection e with e; exact e.symm)
    have hPz := hPz.grown hgN (fun k e => by injection e with e; exact e.symm)
    have hPo := hPo.grown hgN (fun k e => by injection e with e; exact e.symm)
    have hbN := below_grown1 hbX hgN hbX.size (by omega)
    have f0 := (hgN.cell_far ⟨w.heap.size, 0, none⟩ (by simp; omega) (by simp; omega)).trans f0
    have f1 := (hgN.cell_far ⟨w.heap.size, 1, none⟩ (by simp; omega) (by simp; omega)).trans f1
    clear hgN hcodX hbX
    go_wp2_with (refine wpList_make_full _ rfl _ _ _ rfl 0 55 i0 _ 2 Try.underlying51 hi0 hz0 hz1 .i64 .i64 _ _ (58 + kn) rfl rfl (by omega) (by omega) (by rw [hz2]; omega) (by unfold maxLen; omega) (by omega) ?_; intro wM hownM hgrM)
    have hr0 : ∀ k, (none : Option Nat) = some k → k = g := fun k e => by cases e
    have hP1 := hP1.grown hgrM hr0
    have hPz := hPz.grown hgrM hr0
    have hPo := hPo.grown hgrM hr0
    have hPm := made_at g hownM hkn hcodN.lt
    have hx := fun k hk => four wM g 51 cap1 cap cO (58 + kn) hP1 hPz hPo hPm hl1 (by omega) (by omega) (by omega) k hk
    have hcodM := hcodN.grown hgrM (fun k e => by cases e)
    have hbM := hbN.grown hgrM hbN.size (fun k e => by cases e)
    have hszN : w.heap.size < wN.heap.size := by have := hcodN.lt; omega
    have hszM : w.heap.size < wM.heap.size := by have := hgrM.size; omega
    have f0 := (hgrM.cell_far ⟨w.heap.size, 0, none⟩ hszN (by simp)).trans f0
    have f1 := (hgrM.cell_far ⟨w.heap.size, 1, none⟩ hszN (by simp)).trans f1
    have hgB : g < wM.heap.size := hcodM.lt
    have hcod0 := hcodM.alloc (.cells #[.slice a1 len1 cap1, .slice (some ⟨b, 0, none⟩) zs.length cap, .slice (some ⟨gO, 0, none⟩) zs.length cO, .slice (some ⟨wN.heap.size, 0, none⟩) (58 + kn : Nat) (58 + kn : Nat)] 51)
    have hb0 := hbM.alloc hbM.size (.cells #[.slice a1 len1 cap1, .slice (some ⟨b, 0, none⟩) zs.length cap, .slice (some ⟨gO, 0, none⟩) zs.length cO, .slice (some ⟨wN.heap.size, 0, none⟩) (58 + kn : Nat) (58 + kn : Nat)] 51)
    have f0 := (World.cell?_alloc_lt wM (.cells #[.slice a1 len1 cap1, .slice (some ⟨b, 0, none⟩) zs.length cap, .slice (some ⟨gO, 0, none⟩) zs.length cO, .slice (some ⟨wN.heap.size, 0, none⟩) (58 + kn : Nat) (58 + kn : Nat)] 51) ⟨w.heap.size, 0, none⟩ hszM).trans f0
    have f1 := (World.cell?_alloc_lt wM (.cells #[.slice a1 len1 cap1, .slice (some ⟨b, 0, none⟩) zs.length cap, .slice (some ⟨gO, 0, none⟩) zs.length cO, .slice (some ⟨wN.heap.size, 0, none⟩) (58 + kn : Nat) (58 + kn : Nat)] 51) ⟨w.heap.size, 1, none⟩ hszM).trans f1
    have hB0 : wM.heap.size < (wM.alloc (.cells #[.slice a1 len1 cap1, .slice (some ⟨b, 0, none⟩) zs.length cap, .slice (some ⟨gO, 0, none⟩) zs.length cO, .slice (some ⟨wN.heap.size, 0, none⟩) (58 + kn : Nat) (58 + kn : Nat)] 51)).heap.size := by simp
    clear hcodM hbM hownM hgrM hbN hcodN hP1 hPz hPo hPm
    generalize (wM.alloc (.cells #[.slice a1 len1 cap1, .slice (some ⟨b, 0, none⟩) zs.length cap, .slice (some ⟨gO, 0, none⟩) zs.length cO, .slice (some ⟨wN.heap.size, 0, none⟩) (58 + kn : Nat) (58 + kn : Nat)] 51)) = W0 at *
    obtain ⟨B, hB⟩ : ∃ B, wM.heap.size = B := ⟨_, rfl⟩
    rw [hB] at hx hB0 hgB ⊢
    have HX := Lib.hid hx
    have hsz0 : w.heap.size < W0.heap.size := by omega
    clear hx hB hr0
    go_loopw [69] (fun v wr => ∃ k : Nat, k ≤ 4 ∧ v = .int .i64 k ∧ Cod wr g ∧ W0.grownBy wr (some g)) (fun v _ => 4 - (intOf v).toNat)
    case atStart => exact ⟨0, by omega, rfl, hcod0, grownBy_refl _ _⟩
    case round =>
      obtain ⟨k, hk, rfl, hcod, hgr⟩ := hrel
      by_cases hlt : k < 4
      · obtain ⟨a, len, cp, q, hc, hl, hP⟩ := HX.out k hlt
        have hc := (hgr.cell_far ⟨B, k, none⟩ hB0 (by simp; omega)).trans hc
        have hP := hP.grown hgr eq_some
        have f0 := (hgr.cell_far ⟨w.heap.size, 0, none⟩ hsz0 (by simp; omega)).trans f0
        have f1 := (hgr.cell_far ⟨w.heap.size, 1, none⟩ hsz0 (by simp; omega)).trans f1
        have hszk : w.heap.size < wr.heap.size := by have := hgr.size; omega
        go_wp2_with fail
        have HY := Lib.hid (fun k hk => twoI wr a2 m 3 k hk)
        have hgB1 : g < wr.heap.size := hcod.lt
        have hcod1 := hcod.alloc (.cells #[.int .i64 a2, .int .i64 m] 3)
        have hgr1 := grown_alloc hgr (.cells #[.int .i64 a2, .int .i64 m] 3)
        have hP1 := hP.grown (World.grownBy_alloc wr (.cells #[.int .i64 a2, .int .i64 m] 3) (some g)) eq_some
        have f0 := (World.cell?_alloc_lt wr (.cells #[.int .i64 a2, .int .i64 m] 3) ⟨w.heap.size, 0, none⟩ hszk).trans f0
        have f1 := (World.cell?_alloc_lt wr (.cells #[.int .i64 a2, .int .i64 m] 3) ⟨w.heap.size, 1, none⟩ hszk).trans f1
        have hB1 : wr.heap.size < (wr.alloc (.cells #[.int .i64 a2, .int .i64 m] 3)).heap.size := by simp
        generalize (wr.alloc (.cells #[.int .i64 a2, .int .i64 m] 3)) = W1 at *
        obtain ⟨B1, hB1e⟩ : ∃ B1, wr.heap.size = B1 := ⟨_, rfl⟩
        rw [hB1e] at HY hB1 hgB1 hszk ⊢
        have hsz1 : w.heap.size < W1.heap.size := by omega
        clear hB1e hcod hgr hP hc
        rw [show decide ((k : Int) < 4) = true from decide_eq_true (by omega)]
        go_loopw [77] (fun v wr => ∃ i : Nat, i ≤ 2 ∧ v = .int .i64 i ∧ Cod wr g ∧ W1.grownBy wr (some g)) (fun v _ => 2 - (intOf v).toNat)
        case atStart => exact ⟨0, by omega, rfl, hcod1, grownBy_refl _ _⟩
        case round =>
          obtain ⟨i, hi, rfl, hcodi, hgri⟩ := hrel
          by_cases hi2 : i < 2
          · obtain ⟨x, cx⟩ := HY.out i hi2
            have cx := (hgri.cell_far ⟨B1, i, none⟩ hB1 (by simp; omega)).trans cx
            have hPi := hP1.grown hgri eq_some
            obtain ⟨vb, vs, ve, hS1, hS2⟩ := Signs_ex a len cp q x hl
            have HS1 := Lib.hid hS1
            have HS2 := Lib.hid hS2
            have f0 := (hgri.cell_far ⟨w.heap.size, 0, none⟩ hsz1 (by simp; omega)).trans f0
            have f1 := (hgri.cell_far ⟨w.heap.size, 1, none⟩ hsz1 (by simp; omega)).trans f1
            have hszi : w.heap.size < wr.heap.size := by have := hgri.size; omega
            clear hS1 hS2
            go_wp2_with fail
            refine (HS1.out _ hPi.at).mono ?_
            rintro e wS ⟨rfl, hbS⟩
            go_wp2_with fail
            refine (HS2.out _ (hPi.at.below hbS)).mono ?_
            rintro e wT ⟨rfl, hbT⟩
            have hbT' := hbS.trans (hbT.mono hbS.size)
            have hcodT := hcodi.below hbT' hcodi.lt
            have hgrT := grownBy_trans hgri (grown_of_below hbT' _)
            have f0 := (hbT'.cell (p := ⟨w.heap.size, 0, none⟩) hszi).trans f0
            have f1 := (hbT'.cell (p := ⟨w.heap.size, 1, none⟩) hszi).trans f1
            have hszT : w.heap.size < wT.heap.size := by have := hbT'.size; omega
            clear hbS hbT hbT' hcodi hgri hPi HS1 HS2 cx
            go_wp2_with fail
            go_region_held3 (fun w' => w'.cell? ⟨w.heap.size, 0, none⟩ = some (.int .i64 num0) ∧ w'.cell? ⟨w.heap.size, 1, none⟩ = some (.int .i64 den0) ∧ Cod w' g ∧ W1.grownBy w' (some g) ∧ w.heap.size < w'.heap.size)
              ((go_split_ands; (repeat' apply And.intro) <;> first | (with_reducible assumption) | (with_reducible exact hcodc) | (with_reducible refine Cod.alloc ?_ _; with_reducible assumption) | (with_reducible refine Cod.drew ?_; with_reducible assumption) | (with_reducible refine grown_alloc ?_ _; with_reducible assumption) | (with_reducible refine grown_drew ?_; with_reducible assumption) | (with_reducible refine grownBy_trans ?_ hgc; with_reducible assumption) | (simp; omega) | (rw [hgc.cell_far _ (by simp; omega) (by simp; omega)]; assumption) | (have := hgc.size; omega) | (refine (World.cell?_alloc_lt _ _ _ ?_).trans ?_ <;> first | (with_reducible assumption) | (show _ < _; omega))))
              (first | (go_at_call 13; refine (level_any g _ ?_).mono ?_; (go_split_ands; assumption); rintro e wc ⟨num1, den1, rfl, p1, p2, p3, p4, hcodc, hgc⟩))
            obtain ⟨hs0, hs1, hcodR, hgrR, hszR⟩ := ‹_ ∧ _ ∧ Cod _ g ∧ _ ∧ _›
            have HZ := Lib.hid (fun k hk => twoP wc num0 den0 num1 den1 25 k hk)
            have hPR := hP1.grown hgrR eq_some
            have hB2 : wc.heap.size < (wc.alloc (.cells #[.int .i64 num0, .int .i64 den0, .int .i64 num1, .int .i64 den1] 25)).heap.size := by simp
            generalize (wc.alloc (.cells #[.int .i64 num0, .int .i64 den0, .int .i64 num1, .int .i64 den1] 25)) = W2 at *
            obtain ⟨B2, hB2e⟩ : ∃ B2, wc.heap.size = B2 := ⟨_, rfl⟩
            rw [hB2e] at HZ hB2 ⊢
            clear hB2e hs0 hs1 f0 f1 hcodT hgrT hszT hgc hcodc
            go_wp2_with fail
            go_loopw [113] (fun v wr => ∃ j : Nat, j ≤ 2 ∧ v = .int .i64 j ∧ Below W2.heap.size W2 wr) (fun v _ => 2 - (intOf v).toNat)
            case atStart => exact ⟨0, by omega, rfl, Below.refl _ _⟩
            case round =>
              obtain ⟨j, hj, rfl, hbj⟩ := hrel
              by_cases hj2 : j < 2
              · obtain ⟨nu, de, c0, c1⟩ := HZ.out j hj2
                have l0 := (hbj.cell (p := ⟨B2, j * 2, none⟩) (block_lt_of_cell c0)).trans c0
                have l1 := (hbj.cell (p := ⟨B2, j * 2 + 1, none⟩) (block_lt_of_cell c1)).trans c1
                have hPj := hPR.at.below hbj
                obtain ⟨vv, vx, hV1, hV2⟩ := Worse_ex a len cp q x nu de hl
                have HV1 := Lib.hid hV1
                have HV2 := Lib.hid hV2
                clear hV1 hV2 c0 c1
                go_wp2_with fail
                refine (HV1.out _ (hPj.below ((Below.refl _ _).alloc (Nat.le_refl _) _))).mono ?_
                rintro e w7 ⟨rfl, hb7⟩
                have k7 := (bcell hb7).1
                have z7 : wr.heap.size < w7.heap.size := by have := hb7.size; simp at this; omega
                go_wp2_with fail
                refine (HV2.out _ ((hPj.below ((Below.refl _ _).alloc (Nat.le_refl _) _)).below hb7)).mono ?_
                rintro e w8 ⟨rfl, hb8⟩
                have hend : Below W2.heap.size W2 w8 := hbj.trans ((((Below.refl _ _).alloc (Nat.le_refl _) _).trans ((hb7.trans (hb8.mono hb7.size)).mono (by simp))).mono hbj.size)
                clear hb7 hb8 k7 HV1 HV2
                go_wp2_with fail
                go_roundw
                case rel => exact ⟨j + 1, by omega, by go_num, hend⟩
                case measure => simp [intOf]; omega
              · go_wp2_with fail
                go_roundw
                case rel => exact ⟨i + 1, by omega, by go_num, hcodR.below hbj hcodR.lt, grownBy_trans hgrR (grown_of_below hbj _)⟩
                case measure => simp [intOf]; omega
          · go_wp2_with fail
            go_roundw
            case rel => exact ⟨k + 1, by omega, by go_num, hcodi, grownBy_trans hgr1 hgri⟩
            case measure => simp [intOf]; omega
      · go_wp2_with fail
        go_ret
        exact ⟨rfl, below_grown1 hb0 hgr hb0.size (by omega)⟩


/-! ### THE ROW's STEP -/
set_option maxRecDepth 100000 in
theorem lifted (os : Os) (started : os.Started) (H : Type) (enc : TypeId × Value → H) :
    ReturnsInHanded {} Try.checked os 9 .any (Rows.statisticsPairsSpec.pre6 enc Try.prog Try.f9 Rows.statisticsPairsRow.domain false) (Rows.statisticsPairsSpec.post enc Try.prog Try.f9 false true false false) := by
  refine returnsInHanded_of_change (C := Try.checked) own started (by kernel_rfl) Try.func9
    (ChangeSpec.witness6 (enc := enc) (C := Try.checked) false ⟨#[], #[.slice none 0 0, .slice none 0 0, .int .i64 0, .agg #[.int .i64 0, .int .i64 0]], []⟩ 8 (by kernel_rfl) (by kernel_rfl) (by kernel_rfl) (by kernel_rfl)) ?_
  intro W base args ds gs before hval0 hW hcnd _
  have hval : ∀ (j : Nat) t v, Try.f9.params[j]? = some t → args[j]? = some v → Value.okWide Try.prog W .any base t v := hval0
  have hW' := hW
  obtain ⟨p, q, hA0, hV, rfl, hfz, hnd⟩ := hW
  have hA : DataW.TrodAll enc Try.prog W 0 (fun _ => true) true Try.f9.params.toList args.toList ds p := hA0
  rw [Try.params9] at hA hval
  obtain ⟨v0, vs0, d0, ds0, p0, q0, hargs, rfl, rfl, h0, r0⟩ := trodAll_cons hA
  obtain ⟨v1, vs1, d1, ds1, p1, q1, rfl, rfl, rfl, h1, r1⟩ := trodAll_cons r0
  obtain ⟨v2, vs2, d2, ds2, p2, q2, rfl, rfl, rfl, h2, r2⟩ := trodAll_cons r1
  obtain ⟨v3, vs3, d3, ds3, p3, q3, rfl, rfl, rfl, h3, r3⟩ := trodAll_cons r2
  obtain ⟨rfl, rfl, rfl⟩ := trodAll_nil r3
  obtain rfl : args = #[v0, v1, v2, v3] := by cases args; simp_all
  obtain ⟨rfl, rfl⟩ := trodVars_none hV
  have k0 := h0
  have lt0 : ∀ x ∈ p0, x.block < W.heap.size := by obtain ⟨m, hm⟩ := k0; exact DataW.trod_lt m _ _ _ hm
  obtain ⟨a0, len0, cap0, zs0, rfl, w0⟩ := in_ints (k := .u8) Try.underlying31 Try.underlying5 (by kernel_rfl) (hval 0 31 v0 rfl rfl) h0
  have k1 := h1
  have lt1 : ∀ x ∈ p1, x.block < W.heap.size := by obtain ⟨m, hm⟩ := k1; exact DataW.trod_lt m _ _ _ hm
  obtain ⟨a1, len1, cap1, zs1, rfl, w1⟩ := in_pairs Try.underlying51 Try.underlying55 (by kernel_rfl) (by kernel_rfl) Try.underlying3 Try.underlying3 (hval 1 51 v1 rfl rfl) h1
  obtain ⟨a2, rfl, rfl, rfl, w2⟩ := open_int Try.underlying3 (hval 2 3 v2 rfl rfl) h2
  have k3 := h3
  have lt3 : ∀ x ∈ p3, x.block < W.heap.size := by obtain ⟨m, hm⟩ := k3; exact DataW.trod_lt m _ _ _ hm
  obtain ⟨a3, b3, rfl, w3, x3⟩ := in_pair (k0 := .i64) (k1 := .i64) Try.underlying25 (by kernel_rfl) (by kernel_rfl) Try.underlying3 Try.underlying3 (hval 3 25 v3 rfl rfl) h3
  clear hA0 hval0
  refine (walk a0 len0 cap0 zs0 a1 len1 cap1 zs1 a2 a3 b3 W w0 w1 w2 w3 x3).mono fun e W' ⟨he, bel⟩ => ?_
  subst he
  exact ⟨_, rfl, _, _, _, [], _, [], hW', trodAll_mk1 (shut_bool Try.underlying4 _), (trodAll_cons_mk (Below.trod laidOut (by kernel_rfl) (of_decide_eq_true (by kernel_rfl)) k0 bel lt0) (trodAll_cons_mk (Below.trod laidOut (by kernel_rfl) (of_decide_eq_true (by kernel_rfl)) k1 bel lt1) (trodAll_cons_mk (shut_int Try.underlying3 w2) (trodAll_cons_mk (Below.trod laidOut (by kernel_rfl) (of_decide_eq_true (by kernel_rfl)) k3 bel lt3) trodAll_mk0)))), rfl, bel.frame _, fun h => by cases h⟩

theorem over : Rows.statisticsPairsRow.holds Try.pinned (OpenSpec.ofChange Rows.statisticsPairsSpec) :=
  OpenClaim.holds_of_wide 9 Try.f9 rfl rfl rfl rfl rfl rfl rfl ⟨rfl, rfl, rfl, rfl, rfl⟩ rfl rfl rfl rfl rfl (by kernel_rfl) Try.func9 (by kernel_rfl)
    (of_decide_eq_true (by kernel_rfl)) (by unfold Func.isWrapper; first | (rw [if_pos (by decide +kernel)]; kernel_rfl) | (rw [if_neg (by decide +kernel)]; exact ⟨rfl, rfl⟩))
    (fun os started H enc _ => lifted os started H enc)

/-- the statement -/
theorem proved : Rows.StatisticsPairsSaid := over
#print axioms proved
end Go.Proofs.Ytjlalilhmadmcaa.statisticsPairs
