/-
  WORDS of the laws of chapter 4 on expressions; words. (Filled in from a template of this repo.)
-/
import Derived.Test.YtlbjdglgnkajnaaDoorSyA
namespace Go.Proofs.YtlbjdglgnkajnaaDoor
open Go.ChangeShapes Go.WideShapes Go.ChangeAt Go.RowKit
set_option linter.unusedVariables false
set_option linter.unusedSimpArgs false

theorem st_cat (x y : Bt) : st x ++ st y = st (x ++ y) := by apply ByteArray.ext; simp [ByteArray.data_append]
theorem exv_inj {h h' : Hd} {s s' : Value} (e : exv h s = exv h' s') : h = h' ∧ s = s' := by
  obtain ⟨a1, a2, a3, a4, a5⟩ := h
  obtain ⟨b1, b2, b3, b4, b5⟩ := h'
  injection e with e
  injection e with e
  simp only [List.cons.injEq, Value.int.injEq, true_and, and_true, Value.string.injEq] at e
  obtain ⟨e1, e2, e3, e4, e5, e6⟩ := e
  have := st_inj e5
  subst e1 e2 e3 e4 this
  exact ⟨rfl, e6⟩
/-- an answer has this form -/
theorem pe_form {T : Bt} {w w' : World} {e : Ending} (h : PEPost T w e w') : ∃ (h1 : Hd) (a : Option Addr) (n c : Nat) (ln er : Int), e = .returned (.tuple #[exv h1 (.slice a n c), .int .i64 ln, .int .i64 er]) := by
  rcases h.2 with ⟨_, e1⟩ | ⟨_, _, e1⟩ | ⟨_, ts, y, _, h1⟩
  · exact ⟨_, _, _, _, _, _, e1⟩
  · exact ⟨_, _, _, _, _, _, e1⟩
  · rcases h1.out.2 with ⟨h0, ar, r, a, n, c, _, _, _, e4⟩ | ⟨r, _, e2⟩
    · exact ⟨_, _, _, _, _, _, e4⟩
    · exact ⟨_, _, _, _, _, _, e2⟩
/-- the second answer for one text -/
theorem pe_next {T : Bt} {w1 w1' w2 w2' : World} {e2 : Ending} {h1 : Hd} {a1 : Option Addr} {n1 c1 : Nat} {ln er : Int} (h : PEPost T w1 (.returned (.tuple #[exv h1 (.slice a1 n1 c1), .int .i64 ln, .int .i64 er])) w1') (k : PEPost T w2 e2 w2') :
    ∃ (h2 : Hd) (F1 F2 : Fo) (a2 : Option Addr) (n2 c2 : Nat), e2 = .returned (.tuple #[exv h2 (.slice a2 n2 c2), .int .i64 ln, .int .i64 er]) ∧
      ArgsAt w1' (fun _ => True) F1 (.slice a1 n1 c1) ∧ ArgsAt w2' (fun _ => True) F2 (.slice a2 n2 c2) ∧ eqF true (one1 h1 F1) (one1 h2 F2) = true := by
  obtain ⟨g1, h2, F1, F2, b1, a2, m1, d1, n2, c2, ln', er', e, e', p1, p2, p3⟩ := pe_same h k
  injection e with e
  injection e with e
  injection e with e
  simp only [List.cons.injEq, Value.int.injEq, true_and, and_true] at e
  obtain ⟨e1, e2', e3⟩ := e
  obtain ⟨q1, q2⟩ := exv_inj (s := .slice a1 n1 c1) (s' := .slice b1 m1 d1) e1
  subst q1 e2' e3
  rw [← q2] at p1
  exact ⟨h2, F1, F2, a2, n2, c2, e', p1, p2, p3⟩
/-- the pieces of expressions -/
def wds : List Bt := [[49], [120], [102], [40], [41], [91], [93], [43], [45], [42], [47], [37], [60], [60, 61], [61, 61], [33, 61], [38, 38], [124, 124], [33], [38], [114, 101, 97, 100], [44], [48], [10]]
/-- texts in a row -/
def Txs (w : World) (g : Nat) (l : List Bt) : Prop := g < w.heap.size ∧ ∀ j x, l[j]? = some x → w.cell? ⟨g, j, none⟩ = some (.string (st x))
theorem Txs.be {w w' : World} {g : Nat} {l : List Bt} (h : Txs w g l) (hb : Below w.heap.size w w') : Txs w' g l := ⟨by have := hb.size; have := h.1; omega, fun j x hj => (World.cell?_of_block (a := ⟨g, j, none⟩) (hb.block g h.1)).trans (h.2 j x hj)⟩
theorem Txs.gr {w w' : World} {g k : Nat} {l : List Bt} (h : Txs w g l) (hg : w.grownBy w' (some k)) (hn : g ≠ k) : Txs w' g l := ⟨by have := hg.size; have := h.1; omega, fun j x hj => (World.cell?_of_block (a := ⟨g, j, none⟩) (hg.block g h.1 (fun e => by injection e with e; exact hn e))).trans (h.2 j x hj)⟩
theorem Txs.new (w : World) (l : List Bt) (t : TypeId) : Txs (w.alloc (.cells (l.map (fun x => Value.string (st x))).toArray t)) w.heap.size l := ⟨by simp, fun j x hj => cell_mk w _ t rfl (by simp [hj])⟩
set_option maxRecDepth 100000 in
set_option maxHeartbeats 4000000 in
theorem words4_any (w : World) : Calls Tryd.prog 8 #[] w fun e w' => ∃ g, e = .returned (.slice (some ⟨g, 0, none⟩) 24 24) ∧ w.heap.size ≤ g ∧ Txs w' g wds ∧ Below w.heap.size w w' := by
  have HT := Lib.hid (Txs.new w wds 9)
  have HB := Lib.hid (below_alloc w (.cells (wds.map (fun x => Value.string (st x))).toArray 9))
  go_enter Tryd.func8, Tryd.ntmps8
  go_wp2_with fail
  go_ret
  exact ⟨w.heap.size, rfl, Nat.le_refl _, HT.out, HB.out⟩
end Go.Proofs.YtlbjdglgnkajnaaDoor
