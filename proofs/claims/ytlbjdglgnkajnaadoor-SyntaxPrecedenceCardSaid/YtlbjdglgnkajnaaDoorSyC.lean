/-
  WORDS of the law SyntaxPrecedence. (Filled in from a template of this repo.)
-/
import Derived.Test.YtlbjdglgnkajnaaDoorSyB
namespace Go.Proofs.YtlbjdglgnkajnaaDoor
open Go.ChangeShapes Go.WideShapes Go.ChangeAt Go.RowKit
set_option linter.unusedVariables false
set_option linter.unusedSimpArgs false

/-- what is known of an answer whose tree lies in a block of its own -/
structure PA (T : Bt) (wx : World) (g : Nat) (h : Hd) (a : Option Addr) (n c : Nat) (er : Int) (P : Nat → Prop) : Prop where
  lc : Lc wx g h (.slice a n c)
  ok : ∀ F, okT T = some F → er = 0 ∧ ∃ ar, F = one1 h ar ∧ ArgsAt wx P ar (.slice a n c)
  bad : badT T = true → er = 7
theorem PA.be {T : Bt} {wx wy : World} {g : Nat} {h : Hd} {a : Option Addr} {n c : Nat} {er : Int} {P : Nat → Prop} (k : PA T wx g h a n c er P) (hb : Below wx.heap.size wx wy) : PA T wy g h a n c er P :=
  ⟨k.lc.be hb, fun F hF => by
    obtain ⟨h1, ar, h2, h3⟩ := k.ok F hF
    exact ⟨h1, ar, h2, h3.keep (fun b hP hlt => ⟨hb.block b hlt, hP⟩) hb.size⟩, k.bad⟩
theorem PA.mono {T : Bt} {wx : World} {g : Nat} {h : Hd} {a : Option Addr} {n c : Nat} {er : Int} {P Q : Nat → Prop} (k : PA T wx g h a n c er P) (hPQ : ∀ b, P b → b < wx.heap.size → Q b) : PA T wx g h a n c er Q :=
  ⟨k.lc, fun F hF => by
    obtain ⟨h1, ar, h2, h3⟩ := k.ok F hF
    exact ⟨h1, ar, h2, args_mono h3 hPQ⟩, k.bad⟩
theorem pe_err {h0 h1 : Hd} {s0 s1 : Value} {l0 l1 e0 e1 : Int} (e : Ending.returned (.tuple #[exv h0 s0, .int .i64 l0, .int .i64 e0]) = .returned (.tuple #[exv h1 s1, .int .i64 l1, .int .i64 e1])) : h0 = h1 ∧ s0 = s1 ∧ e0 = e1 := by
  injection e with e
  injection e with e
  injection e with e
  simp only [List.cons.injEq, Value.int.injEq, true_and, and_true] at e
  obtain ⟨q1, q2⟩ := exv_inj (s := s0) (s' := s1) e.1
  exact ⟨q1, q2, e.2.2⟩
/-- the answer stored in a block -/
theorem PA.of {T : Bt} {w w' wx : World} {g : Nat} {h : Hd} {a : Option Addr} {n c : Nat} {ln er : Int} {P : Nat → Prop} (hp : PEPost T w (.returned (.tuple #[exv h (.slice a n c), .int .i64 ln, .int .i64 er])) w') (hT : T.length ≤ 65536) (hl : Lc wx g h (.slice a n c)) (hk : ∀ b, b < w'.heap.size → w.heap.size ≤ b → wx.heap[b]? = w'.heap[b]?) (hs : w'.heap.size ≤ wx.heap.size) (hP : ∀ b, w.heap.size ≤ b → P b) : PA T wx g h a n c er P := by
  refine ⟨hl, fun F hF => ?_, fun hb => ?_⟩
  · obtain ⟨h0, ar, a', n', c', e, e2, e3⟩ := pe_ok hp hT hF
    obtain ⟨q1, q2, q3⟩ := pe_err (s0 := .slice a n c) (s1 := .slice a' n' c') e
    refine ⟨q3, ar, by rw [e2, q1], ?_⟩
    rw [q2]
    exact e3.keep (fun b hb hlt => ⟨hk b hlt hb, hP b hb⟩) hs
  · obtain ⟨r, e⟩ := pe_bad hp hT hb
    exact (pe_err (s0 := .slice a n c) (s1 := .slice none 0 0) e).2.2
theorem PA.get {T : Bt} {wx : World} {g : Nat} {h : Hd} {a : Option Addr} {n c : Nat} {er : Int} {P : Nat → Prop} {h0 : Hd} {a0 : Fo} (k : PA T wx g h a n c er P) (hF : okT T = some (one1 h0 a0)) : er = 0 ∧ h = h0 ∧ ArgsAt wx P a0 (.slice a n c) := by
  obtain ⟨h1, ar, e, h2⟩ := k.ok _ hF
  injection e with e1 e2
  subst e1 e2
  exact ⟨h1, rfl, h2⟩
/-- numbers in a row -/
def Nms (w : World) (g : Nat) (l : List Int) : Prop := g < w.heap.size ∧ ∀ j x, l[j]? = some x → w.cell? ⟨g, j, none⟩ = some (.int .i64 x)
theorem Nms.be {w w' : World} {g : Nat} {l : List Int} (h : Nms w g l) (hb : Below w.heap.size w w') : Nms w' g l := ⟨by have := hb.size; have := h.1; omega, fun j x hj => (World.cell?_of_block (a := ⟨g, j, none⟩) (hb.block g h.1)).trans (h.2 j x hj)⟩
theorem Nms.new (w : World) (l : List Int) (t : TypeId) : Nms (w.alloc (.cells (l.map (fun x => Value.int .i64 x)).toArray t)) w.heap.size l := ⟨by simp, fun j x hj => cell_mk w _ t rfl (by simp [hj])⟩
def sgL : List Bt := [[124, 124], [38, 38], [60], [60, 61], [61, 61], [33, 61], [43], [45], [42], [47], [37]]
def lvL : List Int := [0, 1, 2, 2, 2, 2, 3, 3, 4, 4, 4]
theorem sgL_at (i : Nat) (hi : i < 11) : sgL[i]? = some (sgB i) ∧ (sgB i).length ≤ 2 ∧ lvL[i]? = some (lvB i) := by
  have key : (List.range 11).all (fun i => decide (sgL[i]? = some (sgB i) ∧ (sgB i).length ≤ 2 ∧ lvL[i]? = some (lvB i))) = true := by decide
  rw [List.all_eq_true] at key
  exact of_decide_eq_true (key i (by simpa using hi))
end Go.Proofs.YtlbjdglgnkajnaaDoor
