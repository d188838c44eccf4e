/-
  WORDS and WALKS of the reference's reader: the contract of its expression functions; two. (Filled in from a template of this repo.)
-/
import Derived.Test.YtlbjdglgnkajnaaDoorQsV
import Derived.Test.YtlbjdglgnkajnaaDoorPsE
namespace Go.Proofs.YtlbjdglgnkajnaaDoor
open Go.ChangeShapes Go.WideShapes Go.ChangeAt Go.RowKit
set_option linter.unusedVariables false
set_option linter.unusedSimpArgs false

/-- what the reader's functions on expressions leave -/
def EQ (K : PC) (lv : Lv) (at_ : Nat) (bad : Bool) (rest : List Tk) (w : World) (e : Ending) (w' : World) : Prop :=
  ∃ (h : Hd) (a : Option Addr) (n c : Nat) (bad2 : Bool) (at2 : Nat) (r : List Tk), e = .returned (exv h (.slice a n c)) ∧ RAt w' K at2 bad2 r ∧ r.length ≤ rest.length ∧ w.grownBy w' (some K.g) ∧
    Hid ((bad = false ∧ bad2 = false ∧ ∃ ar, Ps lv rest (.ok (one1 h ar) r) ∧ ArgsAt w' (fun b => w.heap.size ≤ b) ar (.slice a n c) ∧ r.length < rest.length) ∨ (bad = false ∧ bad2 = true ∧ Ps lv rest (.bad r)) ∨ (bad = true ∧ bad2 = true ∧ at2 = at_ ∧ r = rest))
/-- how many tokens are still to be read -/
def mu : Bool → List Tk → Nat
  | true, _ => 0
  | false, rest => rest.length
/-- the contract of such a function, for at most so many tokens -/
def CQ (f : FuncId) (lv : Lv) (m : Nat) : Prop := ∀ (K : PC) (at_ : Nat) (bad : Bool) (rest : List Tk) (w : World), RAt w K at_ bad rest → mu bad rest ≤ m → Calls Tryd.prog f #[.pointer (some ⟨K.g, 0, none⟩)] w (EQ K lv at_ bad rest w)
/-- where trees may lie after one more row -/
def UpB (w : World) (P : Nat → Prop) : Nat → Prop := fun b => (P b ∧ b < w.heap.size) ∨ w.heap.size ≤ b
/-- what two leaves -/
def TwPost (k op ln : Int) (h1 h2 : Hd) (s1 s2 : Value) (w : World) (e : Ending) (w' : World) : Prop :=
  ∃ g, e = .returned (exv ⟨k, op, 0, ln, []⟩ (.slice (some ⟨g, 0, none⟩) 2 2)) ∧ Below w.heap.size w w' ∧
    Hid (∀ (P : Nat → Prop) (a1 a2 : Fo), ArgsAt w P a1 s1 → ArgsAt w P a2 s2 → ArgsAt w' (UpB w P) ((one1 h1 a1).app (one1 h2 a2)) (.slice (some ⟨g, 0, none⟩) 2 2))
set_option maxRecDepth 100000 in
set_option maxHeartbeats 4000000 in
theorem two_any (k op ln : Int) (h1 h2 : Hd) (a1 a2 : Option Addr) (n1 c1 n2 c2 : Nat) (w : World) : Calls Tryd.prog 37 #[.int .i64 k, .int .i64 op, .int .i64 ln, exv h1 (.slice a1 n1 c1), exv h2 (.slice a2 n2 c2)] w (TwPost k op ln h1 h2 (.slice a1 n1 c1) (.slice a2 n2 c2) w) := by
  have HA := Lib.hid (((Lc.new w h1 (.slice a1 n1 c1)).al (.cells (ecs h2 (.slice a2 n2 c2)) 31)).al zex)
  have HB := Lib.hid ((Lc.new (w.alloc (.cells (ecs h1 (.slice a1 n1 c1)) 31)) h2 (.slice a2 n2 c2)).al zex)
  have HR := Lib.hid (Lc.zero ((w.alloc (.cells (ecs h1 (.slice a1 n1 c1)) 31)).alloc (.cells (ecs h2 (.slice a2 n2 c2)) 31)))
  have HW := Lib.hid (((below_alloc w (.cells (ecs h1 (.slice a1 n1 c1)) 31)).alloc (by simp) (.cells (ecs h2 (.slice a2 n2 c2)) 31)).alloc (by simp; omega) zex)
  have HS : Hid (w.heap.size < (w.alloc (.cells (ecs h1 (.slice a1 n1 c1)) 31)).heap.size ∧ (w.alloc (.cells (ecs h1 (.slice a1 n1 c1)) 31)).heap.size < ((w.alloc (.cells (ecs h1 (.slice a1 n1 c1)) 31)).alloc (.cells (ecs h2 (.slice a2 n2 c2)) 31)).heap.size) := Lib.hid ⟨by simp, by simp⟩
  go_enter Tryd.func37, Tryd.ntmps37
  go_upto_region 1 with fail
  obtain ⟨w3, hw3⟩ : ∃ W, ((w.alloc (.cells (ecs h1 (.slice a1 n1 c1)) 31)).alloc (.cells (ecs h2 (.slice a2 n2 c2)) 31)).alloc zex = W := ⟨_, rfl⟩
  obtain ⟨gR, hgR⟩ : ∃ x, ((w.alloc (.cells (ecs h1 (.slice a1 n1 c1)) 31)).alloc (.cells (ecs h2 (.slice a2 n2 c2)) 31)).heap.size = x := ⟨_, rfl⟩
  obtain ⟨gB, hgB⟩ : ∃ x, (w.alloc (.cells (ecs h1 (.slice a1 n1 c1)) 31)).heap.size = x := ⟨_, rfl⟩
  obtain ⟨gA, hgA⟩ : ∃ x, w.heap.size = x := ⟨_, rfl⟩
  have hw3' := hw3
  have hgR' := hgR
  have hgB' := hgB
  simp only [ecs] at hw3' hgR' hgB'
  (try rw [hw3'])
  (try rw [hgR'])
  (try rw [hgB'])
  (try rw [hgA])
  rw [hw3] at HA HB HR HW
  rw [hgR] at HR HS
  rw [hgB] at HB HS
  have HGA := Lib.hid hgA
  have hB1 : gB = gA + 1 := by rw [← hgB, ← hgA]; simp
  have hR1 : gR = gA + 1 + 1 := by rw [← hgR, ← hgA]; simp
  rw [hgA] at HA HS
  clear hw3 hgR hgB hw3' hgR' hgB' hgA
  subst hB1
  subst hR1
  obtain ⟨x0, x1, x2, x3, x4, x5⟩ := HA.out.cells
  obtain ⟨z0, z1, z2, z3, z4, z5⟩ := HB.out.cells
  obtain ⟨y0, y1, y2, y3, y4, y5⟩ := HR.out.cells
  obtain ⟨g0, g1, g2, g3, g4, g5⟩ := HR.out.froz
  have hlA := HA.out.lt
  have hlB := HB.out.lt
  have hlR := HR.out.lt
  have hs := HS.out
  have HFIN : Hid (∀ W, W = (set6 w3 (gA + 1 + 1) (.int .i64 k) (.int .i64 op) (.int .i64 0) (.int .i64 ln) (.string { data := #[] }) (.slice (some ⟨w3.heap.size, 0, none⟩) 2 2)).alloc (.cells #[.int .i64 h1.k, .int .i64 h1.op, .int .i64 h1.v, .int .i64 h1.ln, .string (st h1.nm), .slice a1 n1 c1, .int .i64 h2.k, .int .i64 h2.op, .int .i64 h2.v, .int .i64 h2.ln, .string (st h2.nm), .slice a2 n2 c2] 31) →
      Lc W (gA + 1 + 1) ⟨k, op, 0, ln, []⟩ (.slice (some ⟨w3.heap.size, 0, none⟩) 2 2) ∧ Below w.heap.size w W ∧ (∀ (P : Nat → Prop) (b1 b2 : Fo), ArgsAt w P b1 (.slice a1 n1 c1) → ArgsAt w P b2 (.slice a2 n2 c2) → ArgsAt W (UpB w P) ((one1 h1 b1).app (one1 h2 b2)) (.slice (some ⟨w3.heap.size, 0, none⟩) 2 2))) := Lib.hid (fun W hW => by
    have hsz := HW.out.size
    have hga := HGA.out
    refine ⟨?_, ?_, fun P b1 b2 k1 k2 => ?_⟩
    · rw [hW]
      exact (HR.out.s6 ⟨k, op, 0, ln, []⟩ (.slice (some ⟨w3.heap.size, 0, none⟩) 2 2)).al _
    · rw [hW]
      exact (below_s6 HW.out (by omega)).trans ((below_alloc _ _).mono (by rw [size_set6]; exact hsz))
    · have m1 := args_s6 (g := gA + 1 + 1) (v0 := .int .i64 k) (v1 := .int .i64 op) (v2 := .int .i64 0) (v3 := .int .i64 ln) (v4 := .string { data := #[] }) (v5 := .slice (some ⟨w3.heap.size, 0, none⟩) 2 2) (k1.keep (Q := fun b => P b ∧ b < w.heap.size) (fun b hb hlt => ⟨HW.out.block b hlt, hb, hlt⟩) hsz) (fun b hb => by omega)
      have m2 := args_s6 (g := gA + 1 + 1) (v0 := .int .i64 k) (v1 := .int .i64 op) (v2 := .int .i64 0) (v3 := .int .i64 ln) (v4 := .string { data := #[] }) (v5 := .slice (some ⟨w3.heap.size, 0, none⟩) 2 2) (k2.keep (Q := fun b => P b ∧ b < w.heap.size) (fun b hb hlt => ⟨HW.out.block b hlt, hb, hlt⟩) hsz) (fun b hb => by omega)
      have m := two_made (Q := UpB w P) (h1 := h1) (h2 := h2) m1 m2 (fun b hb _ => .inl hb) (.inr (by rw [size_set6]; exact hsz))
      rw [size_set6] at m
      rw [hW]
      exact m)
  go_wp2_with fail
  obtain ⟨wz, hwz⟩ : ∃ W, (set6 w3 (gA + 1 + 1) (.int .i64 k) (.int .i64 op) (.int .i64 0) (.int .i64 ln) (.string { data := #[] }) (.slice (some ⟨w3.heap.size, 0, none⟩) 2 2)).alloc (.cells #[.int .i64 h1.k, .int .i64 h1.op, .int .i64 h1.v, .int .i64 h1.ln, .string (st h1.nm), .slice a1 n1 c1, .int .i64 h2.k, .int .i64 h2.op, .int .i64 h2.v, .int .i64 h2.ln, .string (st h2.nm), .slice a2 n2 c2] 31) = W := ⟨_, rfl⟩
  have hwz2 := hwz
  unfold set6 at hwz2
  (try rw [hwz2])
  obtain ⟨hd, hbz, hargs⟩ := HFIN.out wz hwz.symm
  obtain ⟨d0, d1, d2, d3, d4, d5⟩ := hd.cells
  refine bodyPost_ret (v := exv ⟨k, op, 0, ln, []⟩ (.slice (some ⟨w3.heap.size, 0, none⟩) 2 2)) (by simp [results, Tryd.results37, go_sem, d0, d1, d2, d3, d4, d5]) rfl ?_
  exact ⟨w3.heap.size, rfl, hbz, Lib.hid hargs⟩
end Go.Proofs.YtlbjdglgnkajnaaDoor
