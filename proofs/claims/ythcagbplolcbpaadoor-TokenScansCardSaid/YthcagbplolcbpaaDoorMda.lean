/-
  PLAIN WORDS: trees of sources (expressions and statements ar forests), and what is right of drawn ones. No walk. (Filled in from a template of this repo.)
  WORDS: trees in memory, and the maker of drawn sources. (Filled in from a template of this repo.)
  WALKS of the small functions of the maker: names, node, one, pick, leaf, fresh. (Filled in from a template of this repo.)
  WALK of pick. (Filled in from a template of this repo.)
  WALK of leaf. (Filled in from a template of this repo.)
  WALK of call. (Filled in from a template of this repo, printed by mk_dte.py.)
-/
import Derived.Test.YthcagbplolcbpaaDoorMrf
import Derived.Test.YthcagbplolcbpaaDoorMtk
import Derived.Laws.AppendOwn
import Derived.Deep.CutBlock
import Derived.Deep.CutRange
namespace Go.Proofs.YthcagbplolcbpaaDoor
open Go.ChangeShapes Go.WideShapes Go.ChangeAt Go.RowKit
set_option linter.unusedVariables false
set_option linter.unusedSimpArgs false

/-- an expression but for its operands -/
structure Hd where
  k : Int
  op : Int
  v : Int
  ln : Int
  nm : Bt
/-- a list of expressions: the first with its operands, and the rest -/
inductive Fo where
  | nil
  | cons (h : Hd) (ar r : Fo)
namespace Fo
def len : Fo → Nat
  | .nil => 0
  | .cons _ _ r => r.len + 1
def app : Fo → Fo → Fo
  | .nil, G => G
  | .cons h ar r, G => .cons h ar (r.app G)
def get : Fo → Nat → Option (Hd × Fo)
  | .nil, _ => none
  | .cons h ar _, 0 => some (h, ar)
  | .cons _ _ r, i + 1 => r.get i
theorem len_app (F G : Fo) : (F.app G).len = F.len + G.len := by
  induction F with
  | nil => simp [app, len]
  | cons h ar r _ ih => simp only [app, len]; omega
theorem get_lt {F : Fo} {i : Nat} (h : i < F.len) : ∃ x, F.get i = some x := by
  induction F generalizing i with
  | nil => simp [len] at h
  | cons hd ar r _ ih =>
    cases i with
    | zero => exact ⟨_, rfl⟩
    | succ i => exact ih (by simp only [len] at h; omega)
theorem lt_get {F : Fo} {i : Nat} {x : Hd × Fo} (h : F.get i = some x) : i < F.len := by
  induction F generalizing i with
  | nil => cases h
  | cons hd ar r _ ih =>
    cases i with
    | zero => simp [len]
    | succ i => have := ih (i := i) h; simp only [len]; omega
end Fo
/-- one expression -/
abbrev one1 (h : Hd) (ar : Fo) : Fo := .cons h ar .nil
/-- a list of statements: the first with its expressions and its blocks, and the rest -/
inductive Sf where
  | nil
  | cons (k ln : Int) (nm : Bt) (xs : Fo) (th el r : Sf)
namespace Sf
def len : Sf → Nat
  | .nil => 0
  | .cons _ _ _ _ _ _ r => r.len + 1
def app : Sf → Sf → Sf
  | .nil, G => G
  | .cons k ln nm xs th el r, G => .cons k ln nm xs th el (r.app G)
theorem len_app (F G : Sf) : (F.app G).len = F.len + G.len := by
  induction F with
  | nil => simp [app, len]
  | cons k ln nm xs th el r _ _ ih => simp only [app, len]; omega
end Sf
/-- a right name of a drawn source -/
def okN (nm : Bt) : Prop := ∃ b r, nm = b :: r ∧ lt8 b = true ∧ (∀ c ∈ r, in8 c = true) ∧ isW nm = false ∧ nm.length ≤ 4
/-- right: ar many operands ar the kind has -/
def okH (h : Hd) (ar : Fo) : Prop :=
  h.op = 0 ∧ h.v = 0 ∧ ((h.k = 13 ∧ okN h.nm ∧ ar = .nil) ∨ (h.k = 12 ∧ h.nm = [] ∧ ar = .nil) ∨ (h.k = 11 ∧ okN h.nm ∧ ar = .nil) ∨ (h.k = 4 ∧ okN h.nm ∧ ar.len = 1) ∨
    ((h.k = 7 ∨ h.k = 8) ∧ h.nm = [] ∧ ar.len = 2) ∨ (h.k = 9 ∧ okN h.nm ∧ ar.len ≤ 2) ∨ (h.k = 10 ∧ h.nm = [] ∧ ∃ g bs r, ar = .cons g bs r ∧ g.k ≠ 13 ∧ r.len ≤ 2)) ∨
  (h.op = 0 ∧ h.k = 1 ∧ h.nm = [] ∧ 0 ≤ h.v ∧ h.v ≤ 9223372036854775807 ∧ ar = .nil) ∨
  (h.v = 0 ∧ h.nm = [] ∧ ((h.k = 5 ∧ 1 ≤ h.op ∧ h.op ≤ 2 ∧ ar.len = 1) ∨ (h.k = 6 ∧ 3 ≤ h.op ∧ h.op ≤ 11 ∧ ar.len = 2)))
def Fo.wf : Fo → Prop
  | .nil => True
  | .cons h ar r => okH h ar ∧ h.ln = 0 ∧ ar.wf ∧ r.wf
/-- what an expression's own tokens cost at most: their bytes, and 20 more for each -/
def own (h : Hd) (n : Nat) : Nat :=
  if h.k = 1 then 39 else if h.k = 13 then 24 else if h.k = 12 then 24 else if h.k = 11 then 45 else 111
def Fo.cst : Fo → Nat
  | .nil => 0
  | .cons h ar r => own h ar.len + ar.cst + r.cst
/-- how high the highest expression is -/
def Fo.dep : Fo → Nat
  | .nil => 0
  | .cons h ar r => max (ar.dep + 1) r.dep
theorem Fo.wf_app {F G : Fo} (h : F.wf) (k : G.wf) : (F.app G).wf := by
  induction F with
  | nil => exact k
  | cons hd ar r _ ih => exact ⟨h.1, h.2.1, h.2.2.1, ih h.2.2.2⟩
theorem Fo.cst_app (F G : Fo) : (F.app G).cst = F.cst + G.cst := by
  induction F with
  | nil => simp [app, cst]
  | cons hd ar r _ ih => simp only [app, cst]; omega
theorem Fo.dep_app (F G : Fo) : (F.app G).dep = max F.dep G.dep := by
  induction F with
  | nil => simp [app, dep]
  | cons hd ar r _ ih => simp only [app, dep, ih]; omega
/-- bounds of what an expression of some depth costs -/
def bnd : Nat → Nat
  | 0 => 45
  | d + 1 => 3 * bnd d + 111
theorem bnd_le (d : Nat) : bnd d ≤ bnd (d + 1) := by show _ ≤ 3 * bnd d + 111; omega
theorem bnd_45 (d : Nat) : 45 ≤ bnd d := by
  induction d with
  | zero => exact Nat.le_refl _
  | succ d ih => exact Nat.le_trans ih (bnd_le d)
/-- a drawn expression of some depth -/
def goodE (d : Nat) (h : Hd) (ar : Fo) : Prop := okH h ar ∧ h.ln = 0 ∧ ar.wf ∧ own h ar.len + ar.cst ≤ bnd d ∧ ar.dep ≤ d
theorem goodE.leaf {h : Hd} {ar : Fo} (h1 : okH h ar) (hl : h.ln = 0) (ha : ar = .nil) (hk : h.k = 1 ∨ h.k = 13 ∨ h.k = 12 ∨ h.k = 11) (d : Nat) : goodE d h ar := by
  subst ha
  refine ⟨h1, hl, trivial, ?_, Nat.zero_le _⟩
  have := bnd_45 d
  have : own h 0 ≤ 45 := by unfold own; split; omega; split; omega; split; omega; split; omega; omega
  simp only [Fo.len, Fo.cst]; omega
/-- a list of drawn expressions -/
def goodF (d : Nat) (F : Fo) : Prop := F.wf ∧ F.cst ≤ F.len * bnd d ∧ F.dep ≤ d + 1
theorem goodF.nil (d : Nat) : goodF d .nil := ⟨trivial, by simp [Fo.cst], Nat.zero_le _⟩
theorem goodF.snoc {d : Nat} {F : Fo} {h : Hd} {ar : Fo} (hF : goodF d F) (hE : goodE d h ar) : goodF d (F.app (one1 h ar)) := by
  refine ⟨Fo.wf_app hF.1 ⟨hE.1, hE.2.1, hE.2.2.1, trivial⟩, ?_, ?_⟩
  · rw [Fo.cst_app, Fo.len_app]
    have h1 := hF.2.1
    have h2 := hE.2.2.2.1
    show _ + (own h ar.len + ar.cst + 0) ≤ (_ + 1) * _
    rw [Nat.add_mul]; omega
  · rw [Fo.dep_app]
    have h1 := hF.2.2
    have h2 := hE.2.2.2.2
    show max _ (max (ar.dep + 1) 0) ≤ _
    omega
theorem goodF.cons {d : Nat} {F : Fo} {h : Hd} {ar : Fo} (hF : goodF d F) (hE : goodE d h ar) : goodF d (.cons h ar F) := by
  refine ⟨⟨hE.1, hE.2.1, hE.2.2.1, hF.1⟩, ?_, ?_⟩
  · have h1 := hF.2.1
    have h2 := hE.2.2.2.1
    show own h ar.len + ar.cst + F.cst ≤ (F.len + 1) * _
    rw [Nat.add_mul]; omega
  · have h1 := hF.2.2
    have h2 := hE.2.2.2.2
    show max (ar.dep + 1) _ ≤ _
    omega
theorem goodE.up {d : Nat} {h : Hd} {ar : Fo} (h1 : okH h ar) (hl : h.ln = 0) (hF : goodF d ar) (h3 : ar.len ≤ 3) : goodE (d + 1) h ar := by
  refine ⟨h1, hl, hF.1, ?_, hF.2.2⟩
  have h2 := hF.2.1
  have : own h ar.len ≤ 111 := by unfold own; split; omega; split; omega; split; omega; split; omega; omega
  have : ar.len * bnd d ≤ 3 * bnd d := Nat.mul_le_mul_right _ h3
  show _ ≤ 3 * bnd d + 111
  omega
theorem goodE.mono {d : Nat} {h : Hd} {ar : Fo} (hE : goodE d h ar) : goodE (d + 1) h ar :=
  ⟨hE.1, hE.2.1, hE.2.2.1, Nat.le_trans hE.2.2.2.1 (bnd_le d), by have := hE.2.2.2.2; omega⟩
end Go.Proofs.YthcagbplolcbpaaDoor
namespace Go.Proofs.YthcagbplolcbpaaDoor
open Go.ChangeShapes Go.WideShapes Go.ChangeAt Go.RowKit
set_option linter.unusedVariables false
set_option linter.unusedSimpArgs false

/-- the cells of an expression -/
abbrev hdc (h : Hd) (sl : Value) : List Value := [.int .i64 h.k, .int .i64 h.op, .int .i64 h.v, .int .i64 h.ln, .string (st h.nm), sl]
/-- an expression's value -/
abbrev exv (h : Hd) (sl : Value) : Value := .agg #[.int .i64 h.k, .int .i64 h.op, .int .i64 h.v, .int .i64 h.ln, .string (st h.nm), sl]
/-- cells that are read in a block of P -/
def SlAt (w : World) (P : Nat → Prop) (a : Option Addr) (xs : List Value) : Prop :=
  xs ≠ [] → ∃ b off, a = some ⟨b, off, none⟩ ∧ P b ∧ b < w.heap.size ∧ ∀ j u, xs[j]? = some u → w.cell? ⟨b, off + j, none⟩ = some u
theorem SlAt.keep {w w' : World} {P Q : Nat → Prop} {a : Option Addr} {xs : List Value} (h : SlAt w P a xs) (hk : ∀ b, P b → b < w.heap.size → w'.heap[b]? = w.heap[b]? ∧ Q b) (hs : w.heap.size ≤ w'.heap.size) : SlAt w' Q a xs := fun hx => by
  obtain ⟨b, off, e, hp, hb, hc⟩ := h hx
  exact ⟨b, off, e, (hk b hp hb).2, by omega, fun j u hj => (World.cell?_of_block (w := w) (a := ⟨b, off + j, none⟩) (hk b hp hb).1).trans (hc j u hj)⟩
theorem SlAt.cells {w : World} {P : Nat → Prop} {a : Option Addr} {xs : List Value} (h : SlAt w P a xs) : Cells w a xs := fun hx => by
  obtain ⟨b, off, e, _, hb, hc⟩ := h hx
  exact ⟨b, off, e, hb, hc⟩
/-- the operands of an expression stand in a slice -/
def FoAt (w : World) (P : Nat → Prop) : Fo → List Value → Prop
  | .nil, cs => cs = []
  | .cons h ar r, cs => ∃ a cap rws cs', cs = hdc h (.slice a ar.len cap) ++ cs' ∧ ar.len ≤ cap ∧ cap ≤ maxLen ∧ (a = none → cap = 0) ∧ SlAt w P a rws ∧ FoAt w P ar rws ∧ FoAt w P r cs'
theorem FoAt.len {w : World} {P : Nat → Prop} {F : Fo} {cs : List Value} (h : FoAt w P F cs) : cs.length = F.len * 6 := by
  induction F generalizing cs with
  | nil => rw [show cs = [] from h]; rfl
  | cons hd ar r _ ih =>
    obtain ⟨a, cap, rws, cs', rfl, _, _, _, _, _, h2⟩ := h
    rw [List.length_append, ih h2]
    show 6 + _ = (_ + 1) * 6
    omega
theorem FoAt.keep {w w' : World} {P Q : Nat → Prop} {F : Fo} {cs : List Value} (h : FoAt w P F cs) (hk : ∀ b, P b → b < w.heap.size → w'.heap[b]? = w.heap[b]? ∧ Q b) (hs : w.heap.size ≤ w'.heap.size) : FoAt w' Q F cs := by
  induction F generalizing cs with
  | nil => exact h
  | cons hd ar r ih1 ih2 =>
    obtain ⟨a, cap, rws, cs', rfl, h1, h2, h3, h4, h5, h6⟩ := h
    exact ⟨a, cap, rws, cs', rfl, h1, h2, h3, h4.keep hk hs, ih1 h5, ih2 h6⟩
theorem FoAt.app {w : World} {P : Nat → Prop} {F G : Fo} {cs ds : List Value} (h : FoAt w P F cs) (k : FoAt w P G ds) : FoAt w P (F.app G) (cs ++ ds) := by
  induction F generalizing cs with
  | nil => rw [show cs = [] from h]; exact k
  | cons hd ar r _ ih =>
    obtain ⟨a, cap, rws, cs', rfl, h1, h2, h3, h4, h5, h6⟩ := h
    exact ⟨a, cap, rws, cs' ++ ds, by rw [List.append_assoc], h1, h2, h3, h4, h5, ih h6⟩
theorem FoAt.oneCell {w : World} {P : Nat → Prop} {F : Fo} {cs : List Value} (h : FoAt w P F cs) : ∀ u ∈ cs, u.oneCell' = true := by
  induction F generalizing cs with
  | nil => rw [show cs = [] from h]; intro u hu; cases hu
  | cons hd ar r _ ih =>
    obtain ⟨a, cap, rws, cs', rfl, _, _, _, _, _, h6⟩ := h
    intro u hu
    rw [List.mem_append] at hu
    rcases hu with hu | hu
    · simp at hu
      rcases hu with rfl | rfl | rfl | rfl | rfl | rfl <;> rfl
    · exact ih h6 u hu
/-- operands, ar the slice that bears them -/
def ArgsAt (w : World) (P : Nat → Prop) (ar : Fo) (sl : Value) : Prop :=
  ∃ a cap rws, sl = .slice a ar.len cap ∧ ar.len ≤ cap ∧ cap ≤ maxLen ∧ (a = none → cap = 0) ∧ SlAt w P a rws ∧ FoAt w P ar rws
theorem ArgsAt.nil (w : World) (P : Nat → Prop) : ArgsAt w P .nil (.slice none 0 0) := ⟨none, 0, [], rfl, Nat.le_refl _, by simp [maxLen], fun _ => rfl, fun h => absurd rfl h, rfl⟩
theorem ArgsAt.keep {w w' : World} {P Q : Nat → Prop} {F : Fo} {sl : Value} (h : ArgsAt w P F sl) (hk : ∀ b, P b → b < w.heap.size → w'.heap[b]? = w.heap[b]? ∧ Q b) (hs : w.heap.size ≤ w'.heap.size) : ArgsAt w' Q F sl := by
  obtain ⟨a, cap, rws, e, h1, h2, h3, h4, h5⟩ := h
  exact ⟨a, cap, rws, e, h1, h2, h3, h4.keep hk hs, h5.keep hk hs⟩
theorem ArgsAt.one {w : World} {P : Nat → Prop} {h : Hd} {ar : Fo} {sl : Value} (k : ArgsAt w P ar sl) : FoAt w P (one1 h ar) (hdc h sl) := by
  obtain ⟨a, cap, rws, rfl, h1, h2, h3, h4, h5⟩ := k
  exact ⟨a, cap, rws, [], by simp, h1, h2, h3, h4, h5, rfl⟩
theorem ArgsAt.of_own {w : World} {base e size : Nat} {P : Nat → Prop} {F : Fo} {v : Value} {xs : List Value} (h : w.ownsRow base e 6 v F.len xs) (hF : FoAt w P F xs) (hP : ∀ b, v.ownBlock = some b → P b) : ArgsAt w P F v := by
  obtain ⟨a, cap, rfl, h1, h2, h3, h4, _⟩ := Cells.of_own h
  refine ⟨a, cap, xs, rfl, h2, h3, own_nil h, fun hx => ?_, hF⟩
  obtain ⟨b, off, e, hb, hc⟩ := h4 hx
  exact ⟨b, off, e, hP b (by rw [e]; rfl), hb, hc⟩
/-- the cells of globals; of functions that are being made -/
def glc (gs : List (Bt × Int)) : List Value := gs.flatMap fun g => [.string (st g.1), .int .i64 g.2]
structure Fr where
  nm : Bt
  pa : Option Addr
  pn : Nat
  pc : Nat
  ba : Option Addr
  bn : Nat
  bc : Nat
def frc (fs : List Fr) : List Value := fs.flatMap fun f => [.string (st f.nm), .int .i64 0, .slice f.pa f.pn f.pc, .slice f.ba f.bn f.bc]
theorem glc_len (l : List (Bt × Int)) : (glc l).length = l.length * 2 := by
  induction l with
  | nil => rfl
  | cons s l ih => unfold glc at ih ⊢; rw [List.flatMap_cons, List.length_append, ih]; show 2 + _ = (l.length + 1) * 2; omega
theorem frc_len (l : List Fr) : (frc l).length = l.length * 4 := by
  induction l with
  | nil => rfl
  | cons s l ih => unfold frc at ih ⊢; rw [List.flatMap_cons, List.length_append, ih]; show 4 + _ = (l.length + 1) * 4; omega
theorem glc_get (l : List (Bt × Int)) (j : Nat) (s : Bt × Int) (h : l[j]? = some s) : (glc l)[j * 2]? = some (.string (st s.1)) ∧ (glc l)[j * 2 + 1]? = some (.int .i64 s.2) := by
  induction l generalizing j with
  | nil => simp at h
  | cons x l ih =>
    cases j with
    | zero => simp at h; subst h; exact ⟨rfl, rfl⟩
    | succ j =>
      have := ih j (by simpa using h)
      have e1 : (j + 1) * 2 = j * 2 + 1 + 1 := by omega
      rw [e1]
      exact this
theorem frc_get (l : List Fr) (j : Nat) (s : Fr) (h : l[j]? = some s) : (frc l)[j * 4]? = some (.string (st s.nm)) ∧ (frc l)[j * 4 + 1]? = some (.int .i64 0) ∧ (frc l)[j * 4 + 2]? = some (.slice s.pa s.pn s.pc) ∧ (frc l)[j * 4 + 3]? = some (.slice s.ba s.bn s.bc) := by
  induction l generalizing j with
  | nil => simp at h
  | cons x l ih =>
    cases j with
    | zero => simp at h; subst h; exact ⟨rfl, rfl, rfl, rfl⟩
    | succ j =>
      have := ih j (by simpa using h)
      have e1 : (j + 1) * 4 = j * 4 + 1 + 1 + 1 + 1 := by omega
      rw [e1]
      exact this
/-- the maker: its values and what they mean -/
structure Mk where
  va : Value
  vb : Value
  vl : Value
  gs : List (Bt × Int)
  fs : List Fr
  ls : List Bt
  bud : Int
structure MkAt (w : World) (gc gm : Nat) (M : Mk) : Prop where
  cod : Cod w gc
  lt : gc < gm
  row : w.heap[gm]? = some (.cells #[.pointer (some ⟨gc, 0, none⟩), M.va, M.vb, M.vl, .int .i64 M.bud] 73 (0, 0))
  gl : w.ownsRow (gm + 1) 66 2 M.va M.gs.length (glc M.gs)
  fn : w.ownsRow (gm + 1) 69 4 M.vb M.fs.length (frc M.fs)
  lo : w.ownsRow (gm + 1) 9 1 M.vl M.ls.length (strs M.ls)
  gok : ∀ g ∈ M.gs, okN g.1 ∧ 0 ≤ g.2 ∧ g.2 ≤ 5
  fok : ∀ f ∈ M.fs, okN f.nm ∧ f.pn ≤ 2
  lok : ∀ l ∈ M.ls, okN l
  gn : M.gs.length ≤ 4
  fn1 : 1 ≤ M.fs.length
  fn2 : M.fs.length ≤ 4
  ln : M.ls.length ≤ 10
theorem own_grown {w w' : World} {base e k n : Nat} {v : Value} {l : List Value} {g : Nat} (h : w.ownsRow base e k v n l) (hg : w.grownBy w' (some g)) (hgb : g < base) : w'.ownsRow base e k v n l :=
  h.kept hg (by cases hq : v.ownBlock with | none => exact .inl rfl | some k => exact .inr (fun e => by have := (h.lt k hq).1; injection e with e; omega))
/-- what a choice leaves of the maker -/
theorem MkAt.grown {w w' : World} {gc gm : Nat} {M : Mk} (h : MkAt w gc gm M) (hg : w.grownBy w' (some gc)) (hc : Cod w' gc) : MkAt w' gc gm M :=
  { h with
    cod := hc
    row := (hg.block gm (heap_lt h.row) (fun e => by injection e with e; have := h.lt; omega)).trans h.row
    gl := own_grown h.gl hg (by have := h.lt; omega)
    fn := own_grown h.fn hg (by have := h.lt; omega)
    lo := own_grown h.lo hg (by have := h.lt; omega) }
/-- what new blocks leave of the maker -/
theorem MkAt.below {w w' : World} {gc gm : Nat} {M : Mk} (h : MkAt w gc gm M) (hb : Below w.heap.size w w') : MkAt w' gc gm M :=
  h.grown (grownBy_of_below hb _) (h.cod.below hb h.cod.lt)
theorem MkAt.lt2 {w : World} {gc gm : Nat} {M : Mk} (h : MkAt w gc gm M) : gc < gm ∧ gm < w.heap.size := ⟨h.lt, heap_lt h.row⟩
/-- what the makers of expressions leave -/
def ExPost (gc gm d : Nat) (w : World) (e : Ending) (w' : World) : Prop :=
  ∃ h ar sl, e = .returned (exv h sl) ∧ ArgsAt w' (fun b => w.heap.size ≤ b) ar sl ∧ goodE d h ar ∧ Cod w' gc ∧ w.grownBy w' (some gc)
end Go.Proofs.YthcagbplolcbpaaDoor
namespace Go.Proofs.YthcagbplolcbpaaDoor
open Go.ChangeShapes Go.WideShapes Go.ChangeAt Go.RowKit
set_option linter.unusedVariables false
set_option linter.unusedSimpArgs false

theorem cells6 {w : World} {g : Nat} {v0 v1 v2 v3 v4 v5 : Value} {t : TypeId} {fr : Nat × Nat} (h : w.heap[g]? = some (.cells #[v0, v1, v2, v3, v4, v5] t fr)) :
    w.cell? ⟨g, 0, none⟩ = some v0 ∧ w.cell? ⟨g, 1, none⟩ = some v1 ∧ w.cell? ⟨g, 2, none⟩ = some v2 ∧ w.cell? ⟨g, 3, none⟩ = some v3 ∧ w.cell? ⟨g, 4, none⟩ = some v4 ∧ w.cell? ⟨g, 5, none⟩ = some v5 :=
  ⟨cell_of_row w g 0 _ _ _ h, cell_of_row w g 1 _ _ _ h, cell_of_row w g 2 _ _ _ h, cell_of_row w g 3 _ _ _ h, cell_of_row w g 4 _ _ _ h, cell_of_row w g 5 _ _ _ h⟩
def namesL : List Bt := [[97], [98], [99], [100], [101], [102], [105], [107]]
theorem namesL_ok : ∀ l ∈ namesL, okN l := by
  intro l hl
  simp [namesL] at hl
  rcases hl with rfl | rfl | rfl | rfl | rfl | rfl | rfl | rfl <;> exact ⟨_, _, rfl, by decide, by simp, by decide, by simp⟩
set_option maxRecDepth 100000 in
theorem names_any (w : World) : Calls Tryd.prog 78 #[] w fun e w' => e = .returned (.slice (some ⟨w.heap.size, 0, none⟩) 8 8) ∧ w' = w.alloc (.cells (strs namesL).toArray 9) := by
  go_enter Tryd.func78, Tryd.ntmps78
  go_wp2_with fail
  go_ret
  exact ⟨rfl, rfl⟩
set_option maxRecDepth 100000 in
theorem node_any (k op : Int) (a : Option Addr) (n c : Nat) (w : World) : Calls Tryd.prog 80 #[.int .i64 k, .int .i64 op, .slice a n c] w fun e w' => e = .returned (exv ⟨k, op, 0, 0, []⟩ (.slice a n c)) ∧ Below w.heap.size w w' := by
  go_enter Tryd.func80, Tryd.ntmps80
  go_wp2_with fail
  obtain ⟨q0, q1, q2, q3, q4, q5⟩ := cells6 (heap_alloc_new w (.cells #[.int .i64 k, .int .i64 op, .int .i64 0, .int .i64 0, .string { data := #[] }, .slice a n c] 97))
  have hb : Below w.heap.size w (w.alloc (.cells #[.int .i64 k, .int .i64 op, .int .i64 0, .int .i64 0, .string { data := #[] }, .slice a n c] 97)) := (Below.refl _ _).alloc (Nat.le_refl _) _
  obtain ⟨wn, hwn⟩ : ∃ wn, w.alloc (.cells #[.int .i64 k, .int .i64 op, .int .i64 0, .int .i64 0, .string { data := #[] }, .slice a n c] 97) = wn := ⟨_, rfl⟩
  rw [hwn] at q0 q1 q2 q3 q4 q5 hb ⊢
  refine bodyPost_ret (v := exv ⟨k, op, 0, 0, []⟩ (.slice a n c)) (by simp [results, Tryd.results80, go_sem, q0, q1, q2, q3, q4, q5]) rfl ?_
  exact ⟨rfl, hb⟩
set_option maxRecDepth 100000 in
theorem one_any (k : Int) (nm : ByteArray) (h : Hd) (a : Option Addr) (n c : Nat) (w : World) : Calls Tryd.prog 61 #[.int .i64 k, .string nm, exv h (.slice a n c)] w fun e w' => ∃ g, e = .returned (.agg #[.int .i64 k, .int .i64 0, .string nm, .slice (some ⟨g, 0, none⟩) 1 1, .slice none 0 0, .slice none 0 0]) ∧ w.heap.size ≤ g ∧ w'.heap[g]? = some (.cells (hdc h (.slice a n c)).toArray 97 (0, 0)) ∧ Below w.heap.size w w' := by
  go_enter Tryd.func61, Tryd.ntmps61
  go_wp2_with fail
  have hb1 := (Below.refl w.heap.size w).alloc (Nat.le_refl _) (.cells #[.int .i64 h.k, .int .i64 h.op, .int .i64 h.v, .int .i64 h.ln, .string (st h.nm), .slice a n c] 97)
  obtain ⟨w1, hw1⟩ : ∃ w1, w.alloc (.cells #[.int .i64 h.k, .int .i64 h.op, .int .i64 h.v, .int .i64 h.ln, .string (st h.nm), .slice a n c] 97) = w1 := ⟨_, rfl⟩
  have hs1 : w1.heap.size = w.heap.size + 1 := by rw [← hw1]; simp
  rw [hw1] at hb1 ⊢
  rw [← hs1]
  have hb2 := hb1.alloc hb1.size (.cells #[.int .i64 k, .int .i64 0, .string nm, .slice (some ⟨w1.heap.size + 1, 0, none⟩) 1 1, .slice none 0 0, .slice none 0 0] 84)
  have hr := heap_alloc_new w1 (.cells #[.int .i64 k, .int .i64 0, .string nm, .slice (some ⟨w1.heap.size + 1, 0, none⟩) 1 1, .slice none 0 0, .slice none 0 0] 84)
  obtain ⟨w2, hw2⟩ : ∃ w2, w1.alloc (.cells #[.int .i64 k, .int .i64 0, .string nm, .slice (some ⟨w1.heap.size + 1, 0, none⟩) 1 1, .slice none 0 0, .slice none 0 0] 84) = w2 := ⟨_, rfl⟩
  have hs2 : w2.heap.size = w1.heap.size + 1 := by rw [← hw2]; simp
  rw [hw2] at hb2 hr ⊢
  have hb3 := hb2.alloc hb2.size (.cells #[.int .i64 h.k, .int .i64 h.op, .int .i64 h.v, .int .i64 h.ln, .string (st h.nm), .slice a n c] 97)
  have hn := heap_alloc_new w2 (.cells #[.int .i64 h.k, .int .i64 h.op, .int .i64 h.v, .int .i64 h.ln, .string (st h.nm), .slice a n c] 97)
  have hr3 := (Below.heap_alloc w2 (.cells #[.int .i64 h.k, .int .i64 h.op, .int .i64 h.v, .int .i64 h.ln, .string (st h.nm), .slice a n c] 97) w1.heap.size (heap_lt hr)).trans hr
  obtain ⟨w3, hw3⟩ : ∃ w3, w2.alloc (.cells #[.int .i64 h.k, .int .i64 h.op, .int .i64 h.v, .int .i64 h.ln, .string (st h.nm), .slice a n c] 97) = w3 := ⟨_, rfl⟩
  rw [hw3] at hb3 hn hr3 ⊢
  obtain ⟨q0, q1, q2, q3, q4, q5⟩ := cells6 hr3
  refine bodyPost_ret (v := .agg #[.int .i64 k, .int .i64 0, .string nm, .slice (some ⟨w1.heap.size + 1, 0, none⟩) 1 1, .slice none 0 0, .slice none 0 0]) (by simp [results, Tryd.results61, go_sem, q0, q1, q2, q3, q4, q5]) rfl ?_
  exact ⟨w1.heap.size + 1, rfl, by omega, by rw [← hs2]; exact hn, hb3⟩
end Go.Proofs.YthcagbplolcbpaaDoor
namespace Go.Proofs.YthcagbplolcbpaaDoor
open Go.ChangeShapes Go.WideShapes Go.ChangeAt Go.RowKit
set_option linter.unusedVariables false
set_option linter.unusedSimpArgs false

theorem Tryd.infoStr : (Tryd.prog.info? 9).map (fun i => (i.zero, i.size, i.bytes)) = some (some (.string ⟨#[]⟩), 1, 16) := by kernel_rfl
theorem Tryd.infoExpr : (Tryd.prog.info? 97).map (fun i => (i.zero, i.size, i.bytes)) = some (some (.agg #[.int .i64 0, .int .i64 0, .int .i64 0, .int .i64 0, .string ⟨#[]⟩, .slice none 0 0]), 6, 72) := by kernel_rfl
theorem strs_push (l : List Bt) (x : Bt) : strs l ++ [.string (st x)] = strs (l ++ [x]) := by simp [strs]
/-- the globals, as they read -/
def GlsAt (w : World) (a : Option Addr) (gs : List (Bt × Int)) : Prop := ∀ j x, gs[j]? = some x → ∃ b off, a = some ⟨b, off, none⟩ ∧ b < w.heap.size ∧
  w.cell? ⟨b, off + j * 2, none⟩ = some (.string (st x.1)) ∧ w.cell? ⟨b, off + j * 2 + 1, none⟩ = some (.int .i64 x.2)
theorem GlsAt.of_own {w : World} {base n : Nat} {e : TypeId} {v : Value} {gs : List (Bt × Int)} (h : w.ownsRow base e 2 v n (glc gs)) :
    ∃ a cap, v = .slice a n cap ∧ gs.length = n ∧ n ≤ cap ∧ cap ≤ maxLen ∧ GlsAt w a gs := by
  obtain ⟨a, cap, rfl, h1, h2, h3, h4, h5⟩ := Cells.of_own h
  rw [glc_len] at h1
  refine ⟨a, cap, rfl, by omega, h2, h3, fun j s hj => ?_⟩
  obtain ⟨g1, g2⟩ := glc_get gs j s hj
  obtain ⟨b, off, e1, hb, hc⟩ := h4 (fun e => by rw [e] at g1; simp at g1)
  exact ⟨b, off, e1, hb, hc _ _ g1, by rw [Nat.add_assoc]; exact hc _ _ g2⟩
def PickOk (M : Mk) (arr : Bool) (nm : Bt) : Prop := ∃ g ∈ M.gs, g.1 = nm ∧ decide (0 < g.2) = arr
def PickPost (gc gm : Nat) (M : Mk) (arr : Bool) (w : World) (e : Ending) (w' : World) : Prop :=
  ∃ (nm : Bt) (ok : Bool), e = .returned (.tuple #[.string (st nm), .bool ok]) ∧ (ok = true → PickOk M arr nm) ∧ Cod w' gc ∧ w.grownBy w' (some gc)
set_option maxRecDepth 100000 in
set_option maxHeartbeats 4000000 in
theorem pick_any (gc gm : Nat) (M : Mk) (arr : Bool) (w : World) (h : MkAt w gc gm M) : Calls Tryd.prog 63 #[.pointer (some ⟨gm, 0, none⟩), .bool arr] w (PickPost gc gm M arr w) := by
  obtain ⟨i0, hi0, hz0, hz1, hz2⟩ := info_parts Tryd.infoStr
  have HI := Lib.hid hi0
  have HZ0 := Lib.hid hz0
  have HZ1 := Lib.hid hz1
  have HZ2 := Lib.hid hz2
  clear hi0 hz0 hz1 hz2
  have HM := Lib.hid h
  obtain ⟨ag, cg, hva, hgl, hgc1, hgc2, _⟩ := GlsAt.of_own h.gl
  have hgn := h.gn
  have hnn : M.gs.length ≤ 9223372036854775807 := by omega
  have hlt2 := h.lt2
  have hrow := h.row
  rw [hva] at hrow
  have c0 := cell_of_row _ _ 0 _ _ _ hrow
  have c1 := cell_of_row _ _ 1 _ _ _ hrow
  have HVA := Lib.hid hva
  have HROW := Lib.hid hrow
  clear h hva hrow
  go_enter Tryd.func63, Tryd.ntmps63
  go_wp2_with fail
  go_loopw [6, 7] (fun v6 v7 wr => ∃ (i : Nat) (acc : List Bt), v7 = .int .i64 i ∧ i ≤ M.gs.length ∧ acc.length ≤ i ∧ Hid ((∀ l ∈ acc, PickOk M arr l) ∧ Below w.heap.size w wr ∧ wr.ownsRow w.heap.size 9 1 v6 acc.length (strs acc))) (fun _ v7 _ => M.gs.length - (intOf v7).toNat)
  case atStart => exact ⟨0, [], rfl, by omega, by simp, Lib.hid ⟨by simp, Below.refl _ _, World.ownsRow_nil _ _ _ _⟩⟩
  case round =>
    obtain ⟨i, acc, rfl, hi, hacc, HR⟩ := hrel
    have hM2 := HM.out.below HR.out.2.1
    have hsz := HR.out.2.1.size
    clear c0 c1
    have hrow := hM2.row
    rw [HVA.out] at hrow
    have c0 := cell_of_row _ _ 0 _ _ _ hrow
    have c1 := cell_of_row _ _ 1 _ _ _ hrow
    clear hrow
    by_cases hlt : i < M.gs.length
    · obtain ⟨g, hg⟩ : ∃ g, M.gs[i]? = some g := ⟨_, List.getElem?_eq_getElem hlt⟩
      obtain ⟨ag', cg', hva', _, _, _, hgls⟩ := GlsAt.of_own hM2.gl
      rw [HVA.out] at hva'
      injection hva' with e1 e2 e3
      subst e1 e3
      obtain ⟨b, off, rfl, hb, g1, g2⟩ := hgls i g hg
      have HMEM : Hid (g ∈ M.gs) := Lib.hid (List.mem_of_getElem? hg)
      clear hgls hM2 hg
      cases hs : decide ((0 : Int) < g.2) <;> cases arr
      · have HOA := Lib.hid (HR.out.2.2.alloc (.cells #[.string (st g.1)] 9))
        have HBA := Lib.hid (HR.out.2.1.alloc HR.out.2.1.size (.cells #[.string (st g.1)] 9))
        have HPK : Hid (PickOk M false g.1) := Lib.hid ⟨g, HMEM.out, rfl, hs⟩
        go_wp2_with (at_builtin; refine wpList_append_own _ rfl _ _ _ rfl w.heap.size 9 i0 _ 1 16 Tryd.underlying38 HI.out HZ0.out HZ1.out HZ2.out rfl (by omega) _ _ _ rfl HOA.out ⟨wr.heap.size, 0, none⟩ 1 1 [.string (st g.1)] rfl rfl (World.news_of_block (cs := #[.string (st g.1)]) (t := 9) (fr := (0, 0)) (heap_alloc_new wr _)) (by simp [Value.oneCell']) (by unfold maxLen; omega) (by omega) (by simp; omega) ?_; intro v' w9 hown9 hgrow9 _; have HO9 := Lib.hid hown9; have HG9 := Lib.hid hgrow9; clear hown9 hgrow9)
        go_roundw
        case rel =>
          refine ⟨i + 1, acc ++ [g.1], by go_num, by omega, by simp; omega, Lib.hid ⟨?_, HBA.out.grown HG9.out HBA.out.size (fun k hk => (HOA.out.lt k hk).1), ?_⟩⟩
          · intro l hl
            rw [List.mem_append] at hl
            rcases hl with hl | hl
            · exact HR.out.1 l hl
            · simp at hl; subst hl; exact HPK.out
          · have := HO9.out
            rw [← strs_push]
            simpa using this
        case measure => simp [intOf]; omega
      · go_wp2_with fail
        go_roundw
        case rel => exact ⟨i + 1, acc, by go_num, by omega, by omega, HR⟩
        case measure => simp [intOf]; omega
      · go_wp2_with fail
        go_roundw
        case rel => exact ⟨i + 1, acc, by go_num, by omega, by omega, HR⟩
        case measure => simp [intOf]; omega
      · have HOA := Lib.hid (HR.out.2.2.alloc (.cells #[.string (st g.1)] 9))
        have HBA := Lib.hid (HR.out.2.1.alloc HR.out.2.1.size (.cells #[.string (st g.1)] 9))
        have HPK : Hid (PickOk M true g.1) := Lib.hid ⟨g, HMEM.out, rfl, hs⟩
        go_wp2_with (at_builtin; refine wpList_append_own _ rfl _ _ _ rfl w.heap.size 9 i0 _ 1 16 Tryd.underlying38 HI.out HZ0.out HZ1.out HZ2.out rfl (by omega) _ _ _ rfl HOA.out ⟨wr.heap.size, 0, none⟩ 1 1 [.string (st g.1)] rfl rfl (World.news_of_block (cs := #[.string (st g.1)]) (t := 9) (fr := (0, 0)) (heap_alloc_new wr _)) (by simp [Value.oneCell']) (by unfold maxLen; omega) (by omega) (by simp; omega) ?_; intro v' w9 hown9 hgrow9 _; have HO9 := Lib.hid hown9; have HG9 := Lib.hid hgrow9; clear hown9 hgrow9)
        go_roundw
        case rel =>
          refine ⟨i + 1, acc ++ [g.1], by go_num, by omega, by simp; omega, Lib.hid ⟨?_, HBA.out.grown HG9.out HBA.out.size (fun k hk => (HOA.out.lt k hk).1), ?_⟩⟩
          · intro l hl
            rw [List.mem_append] at hl
            rcases hl with hl | hl
            · exact HR.out.1 l hl
            · simp at hl; subst hl; exact HPK.out
          · have := HO9.out
            rw [← strs_push]
            simpa using this
        case measure => simp [intOf]; omega
    · obtain rfl : i = M.gs.length := by omega
      obtain ⟨a6, c6, rfl, h61, h62, h63, h64, _⟩ := Cells.of_own HR.out.2.2
      have HCOD := Lib.hid hM2.cod
      clear h61 h64 hM2
      unfold maxLen at h63
      cases acc with
      | nil =>
        go_wp2_with fail
        refine bodyPost_ret (v := .tuple #[.string (st []), .bool false]) (by simp [results, Tryd.results63, go_sem]) rfl ?_
        exact ⟨[], false, rfl, (fun h => nomatch h), HCOD.out, grownBy_of_below HR.out.2.1 _⟩
      | cons l0 lr =>
        obtain ⟨n, hn⟩ : ∃ n, (l0 :: lr).length = n := ⟨_, rfl⟩
        have HN := Lib.hid hn
        have hn1 : 1 ≤ n := by rw [← hn]; simp
        have hn2 : n ≤ 4 := by omega
        rw [hn] at h62 ⊢
        clear hn
        have dn : ((n : Int) == 0) = false := by rw [beq_eq_false_iff_ne]; omega
        go_wp2_with fail
        refine (Next_any gc n (by omega) _ HCOD.out).mono ?_
        rintro e w2 ⟨x, rfl, x0, x1, hcod, hg⟩
        obtain ⟨x, rfl⟩ := Int.eq_ofNat_of_zero_le x0
        have x2 : x < n := by omega
        have hown := own_grown HR.out.2.2 hg (by omega)
        obtain ⟨_, _, e1, _, _, _, hcs, _⟩ := Cells.of_own hown
        injection e1 with e1 e2 e3
        subst e1
        have hgx : (l0 :: lr)[x]? = some ((l0 :: lr).getD x []) := by
          have := HN.out
          rw [List.getD, List.getElem?_eq_getElem (by omega)]; rfl
        obtain ⟨nm, hnm⟩ : ∃ nm, (l0 :: lr).getD x [] = nm := ⟨_, rfl⟩
        rw [hnm] at hgx
        have hsx : (strs (l0 :: lr))[x]? = some (.string (st nm)) := by unfold strs; rw [List.getElem?_map, hgx]; rfl
        obtain ⟨b, off, rfl, hb, hc⟩ := hcs (fun e => by rw [e] at hsx; cases hsx)
        have hcx := hc _ _ hsx
        have HPK : Hid (PickOk M arr nm) := Lib.hid (HR.out.1 nm (List.mem_of_getElem? hgx))
        have HEND := Lib.hid (grownBy_trans (grownBy_of_below HR.out.2.1 (some gc)) hg)
        have HCD := Lib.hid hcod
        have hx1' : (x : Int) < (n : Int) := by omega
        clear hown hcs hgx hnm hsx hc hg hcod x1
        go_wp2_with fail
        refine bodyPost_ret (v := .tuple #[.string (st nm), .bool true]) (by simp [results, Tryd.results63, go_sem]) rfl ?_
        exact ⟨nm, true, rfl, fun _ => HPK.out, HCD.out, HEND.out⟩
end Go.Proofs.YthcagbplolcbpaaDoor
namespace Go.Proofs.YthcagbplolcbpaaDoor
open Go.ChangeShapes Go.WideShapes Go.ChangeAt Go.RowKit
set_option linter.unusedVariables false
set_option linter.unusedSimpArgs false

/-- six cells of a block written anew -/
abbrev set6 (w : World) (b : Nat) (v0 v1 v2 v3 v4 v5 : Value) : World := (((((w.setCell ⟨b, 0, none⟩ v0).setCell ⟨b, 1, none⟩ v1).setCell ⟨b, 2, none⟩ v2).setCell ⟨b, 3, none⟩ v3).setCell ⟨b, 4, none⟩ v4).setCell ⟨b, 5, none⟩ v5
theorem heap_set6 {w : World} {b : Nat} {u0 u1 u2 u3 u4 u5 v0 v1 v2 v3 v4 v5 : Value} {t : TypeId} (h : w.heap[b]? = some (.cells #[u0, u1, u2, u3, u4, u5] t (0, 0))) : (set6 w b v0 v1 v2 v3 v4 v5).heap[b]? = some (.cells #[v0, v1, v2, v3, v4, v5] t (0, 0)) :=
  heap_setCell_same _ b 5 _ _ v5 (heap_setCell_same _ b 4 _ _ v4 (heap_setCell_same _ b 3 _ _ v3 (heap_setCell_same _ b 2 _ _ v2 (heap_setCell_same _ b 1 _ _ v1 (heap_setCell_same _ b 0 _ _ v0 h)))))
theorem other_set6 {w : World} {b : Nat} {v0 v1 v2 v3 v4 v5 : Value} (k : Nat) (h : k ≠ b) : (set6 w b v0 v1 v2 v3 v4 v5).heap[k]? = w.heap[k]? :=
  (heap_setCell_other _ ⟨b, 5, none⟩ k v5 h).trans ((heap_setCell_other _ ⟨b, 4, none⟩ k v4 h).trans ((heap_setCell_other _ ⟨b, 3, none⟩ k v3 h).trans ((heap_setCell_other _ ⟨b, 2, none⟩ k v2 h).trans ((heap_setCell_other _ ⟨b, 1, none⟩ k v1 h).trans (heap_setCell_other _ ⟨b, 0, none⟩ k v0 h)))))
theorem size_set6 (w : World) (b : Nat) (v0 v1 v2 v3 v4 v5 : Value) : (set6 w b v0 v1 v2 v3 v4 v5).heap.size = w.heap.size := by simp [set6, World.setCell]
theorem grown_set1 {w0 w : World} {p : Addr} {row : Option Nat} {v : Value} (h : w0.grownBy w row) (hb : w0.heap.size ≤ p.block) : w0.grownBy (w.setCell p v) row :=
  ⟨h.os, h.tape, h.output, by simp [World.setCell]; exact h.size, fun k hk hn => (heap_setCell_other w p k v (by omega)).trans (h.block k hk hn)⟩
theorem grown_set6 {w0 w : World} {b : Nat} {row : Option Nat} {v0 v1 v2 v3 v4 v5 : Value} (h : w0.grownBy w row) (hb : w0.heap.size ≤ b) : w0.grownBy (set6 w b v0 v1 v2 v3 v4 v5) row :=
  grown_set1 (p := ⟨b, 5, none⟩) (grown_set1 (p := ⟨b, 4, none⟩) (grown_set1 (p := ⟨b, 3, none⟩) (grown_set1 (p := ⟨b, 2, none⟩) (grown_set1 (p := ⟨b, 1, none⟩) (grown_set1 (p := ⟨b, 0, none⟩) h hb) hb) hb) hb) hb) hb
theorem cell_set6 {w : World} {b b' o' : Nat} {v0 v1 v2 v3 v4 v5 u : Value} (hne : b ≠ b') (h : w.cell? ⟨b', o', none⟩ = some u) : (set6 w b v0 v1 v2 v3 v4 v5).cell? ⟨b', o', none⟩ = some u :=
  (World.cell?_of_block (a := ⟨b', o', none⟩) (other_set6 b' (fun e => hne e.symm))).trans h
theorem cod_set6 {w : World} {gc b : Nat} {v0 v1 v2 v3 v4 v5 : Value} (h : Cod w gc) (hb : gc < b) : Cod (set6 w b v0 v1 v2 v3 v4 v5) gc := h.keep fun k hk => other_set6 k (by omega)
theorem args_set6 {w : World} {b lo : Nat} {v0 v1 v2 v3 v4 v5 : Value} {ar : Fo} {sl : Value} (h : ArgsAt w (fun k => b < k) ar sl) (hlo : lo ≤ b) : ArgsAt (set6 w b v0 v1 v2 v3 v4 v5) (fun k => lo ≤ k) ar sl :=
  h.keep (fun k hk _ => ⟨other_set6 k (by omega), by omega⟩) (by rw [size_set6]; exact Nat.le_refl _)
/-- the zero of an expression, in a block -/
abbrev zex : Obj := .cells #[.int .i64 0, .int .i64 0, .int .i64 0, .int .i64 0, .string { data := #[] }, .slice none 0 0] 97 (0, 0)
/-- the world in the midst of a maker of an expression: the result's block g -/
structure ExW (w : World) (gc gm : Nat) (M : Mk) (g : Nat) (wx : World) : Prop where
  eg : g = w.heap.size
  row : wx.heap[g]? = some zex
  mkr : MkAt wx gc gm M
  gr : w.grownBy wx (some gc)
theorem ExW.start {w : World} {gc gm : Nat} {M : Mk} (h : MkAt w gc gm M) : ExW w gc gm M w.heap.size (w.alloc zex) :=
  ⟨rfl, heap_alloc_new w _, h.below (below_alloc _ _), grownBy_of_below (below_alloc _ _) _⟩
theorem ExW.lts {w : World} {gc gm : Nat} {M : Mk} {g : Nat} {wx : World} (h : ExW w gc gm M g wx) : g < wx.heap.size := heap_lt h.row
theorem ExW.grown {w : World} {gc gm : Nat} {M : Mk} {g : Nat} {wx wy : World} (h : ExW w gc gm M g wx) (hl : gc < g) (hg : wx.grownBy wy (some gc)) (hc : Cod wy gc) : ExW w gc gm M g wy :=
  ⟨h.eg, (hg.block g h.lts (fun e => by injection e with e; omega)).trans h.row, h.mkr.grown hg hc, grownBy_trans h.gr hg⟩
theorem ExW.below {w : World} {gc gm : Nat} {M : Mk} {g : Nat} {wx wy : World} (h : ExW w gc gm M g wx) (hb : Below wx.heap.size wx wy) : ExW w gc gm M g wy :=
  ⟨h.eg, (hb.block g h.lts).trans h.row, h.mkr.below hb, grownBy_trans h.gr (grownBy_of_below hb _)⟩
/-- the end: the expression is stored into the result's block -/
theorem ExW.fin {w : World} {gc gm : Nat} {M : Mk} {g : Nat} {wx : World} {d : Nat} (h : ExW w gc gm M g wx) (hl : gc < g) {hd : Hd} {ar : Fo} {sl : Value} (ha : ArgsAt wx (fun k => g < k) ar sl) (hE : goodE d hd ar) :
    ∀ W, W = set6 wx g (.int .i64 hd.k) (.int .i64 hd.op) (.int .i64 hd.v) (.int .i64 hd.ln) (.string (st hd.nm)) sl →
      W.cell? ⟨g, 0, none⟩ = some (.int .i64 hd.k) ∧ W.cell? ⟨g, 1, none⟩ = some (.int .i64 hd.op) ∧ W.cell? ⟨g, 2, none⟩ = some (.int .i64 hd.v) ∧ W.cell? ⟨g, 3, none⟩ = some (.int .i64 hd.ln) ∧ W.cell? ⟨g, 4, none⟩ = some (.string (st hd.nm)) ∧ W.cell? ⟨g, 5, none⟩ = some sl ∧ Hid (ExPost gc gm d w (.returned (exv hd sl)) W) := fun W hW => by
  subst hW
  obtain ⟨q0, q1, q2, q3, q4, q5⟩ := cells6 (heap_set6 (v0 := .int .i64 hd.k) (v1 := .int .i64 hd.op) (v2 := .int .i64 hd.v) (v3 := .int .i64 hd.ln) (v4 := .string (st hd.nm)) (v5 := sl) h.row)
  exact ⟨q0, q1, q2, q3, q4, q5, Lib.hid ⟨hd, ar, sl, rfl, args_set6 ha (Nat.le_of_eq h.eg.symm), hE, cod_set6 h.mkr.cod hl, grown_set6 h.gr (Nat.le_of_eq h.eg.symm)⟩⟩
/-- what the walk is told of the result's block, to store into it -/
theorem ExW.cells {w : World} {gc gm : Nat} {M : Mk} {g : Nat} {wx : World} (h : ExW w gc gm M g wx) :
    g < wx.heap.size ∧ wx.frozen? ⟨g, 0, none⟩ = false ∧ wx.frozen? ⟨g, 1, none⟩ = false ∧ wx.frozen? ⟨g, 2, none⟩ = false ∧ wx.frozen? ⟨g, 3, none⟩ = false ∧ wx.frozen? ⟨g, 4, none⟩ = false ∧ wx.frozen? ⟨g, 5, none⟩ = false ∧
    wx.cell? ⟨g, 0, none⟩ = some (.int .i64 0) ∧ wx.cell? ⟨g, 1, none⟩ = some (.int .i64 0) ∧ wx.cell? ⟨g, 2, none⟩ = some (.int .i64 0) ∧ wx.cell? ⟨g, 3, none⟩ = some (.int .i64 0) ∧ wx.cell? ⟨g, 4, none⟩ = some (.string { data := #[] }) ∧ wx.cell? ⟨g, 5, none⟩ = some (.slice none 0 0) :=
  ⟨h.lts, frozen_of_row _ g 0 _ _ h.row, frozen_of_row _ g 1 _ _ h.row, frozen_of_row _ g 2 _ _ h.row, frozen_of_row _ g 3 _ _ h.row, frozen_of_row _ g 4 _ _ h.row, frozen_of_row _ g 5 _ _ h.row, cells6 h.row⟩
theorem cells4 {w : World} {g : Nat} {v0 v1 v2 v3 : Value} {t : TypeId} {fr : Nat × Nat} (h : w.heap[g]? = some (.cells #[v0, v1, v2, v3] t fr)) :
    w.cell? ⟨g, 0, none⟩ = some v0 ∧ w.cell? ⟨g, 1, none⟩ = some v1 ∧ w.cell? ⟨g, 2, none⟩ = some v2 ∧ w.cell? ⟨g, 3, none⟩ = some v3 :=
  ⟨cell_of_row w g 0 _ _ _ h, cell_of_row w g 1 _ _ _ h, cell_of_row w g 2 _ _ _ h, cell_of_row w g 3 _ _ _ h⟩
theorem froz4 {w : World} {g : Nat} {v0 v1 v2 v3 : Value} {t : TypeId} (h : w.heap[g]? = some (.cells #[v0, v1, v2, v3] t (0, 0))) :
    g < w.heap.size ∧ w.frozen? ⟨g, 0, none⟩ = false ∧ w.frozen? ⟨g, 1, none⟩ = false ∧ w.frozen? ⟨g, 2, none⟩ = false ∧ w.frozen? ⟨g, 3, none⟩ = false :=
  ⟨heap_lt h, frozen_of_row _ g 0 _ _ h, frozen_of_row _ g 1 _ _ h, frozen_of_row _ g 2 _ _ h, frozen_of_row _ g 3 _ _ h⟩
theorem other_set4 {w : World} {b : Nat} {v0 v1 v2 v3 : Value} (k : Nat) (h : k ≠ b) : (set4 w b v0 v1 v2 v3).heap[k]? = w.heap[k]? :=
  (heap_setCell_other _ ⟨b, 3, none⟩ k v3 h).trans ((heap_setCell_other _ ⟨b, 2, none⟩ k v2 h).trans ((heap_setCell_other _ ⟨b, 1, none⟩ k v1 h).trans (heap_setCell_other _ ⟨b, 0, none⟩ k v0 h)))
/-- a store into a block that is newer than the result's -/
theorem MkAt.set {w wx : World} {gc gm : Nat} {M : Mk} {p : Addr} {v : Value} (h : MkAt wx gc gm M) (hM : MkAt w gc gm M) (hp : w.heap.size ≤ p.block) : MkAt (wx.setCell p v) gc gm M :=
  have kp : ∀ b, b ≠ p.block → (wx.setCell p v).heap[b]? = wx.heap[b]? := fun b hb => heap_setCell_other wx p b v hb
  have key : ∀ {e k n : Nat} {u : Value} {l : List Value}, wx.ownsRow (gm + 1) e k u n l → w.ownsRow (gm + 1) e k u n l → (wx.setCell p v).ownsRow (gm + 1) e k u n l := fun {e k n u l} h1 h2 => by
    have hg : wx.grownBy (wx.setCell p v) (some p.block) := ⟨rfl, rfl, rfl, by simp [World.setCell], fun k hk hn => kp k (fun e => hn (by rw [e]))⟩
    refine h1.kept hg ?_
    cases hq : u.ownBlock with
    | none => exact .inl rfl
    | some q => exact .inr (fun e => by injection e with e; have := (h2.lt q hq).2; omega)
  { h with
    cod := h.cod.keep fun k hk => kp k (by have := hM.cod.lt; omega)
    row := (kp gm (by have := heap_lt hM.row; omega)).trans h.row
    gl := key h.gl hM.gl
    fn := key h.fn hM.fn
    lo := key h.lo hM.lo }
theorem ExW.set {w : World} {gc gm : Nat} {M : Mk} {g : Nat} {wx : World} {p : Addr} {v : Value} (h : ExW w gc gm M g wx) (hp : g < p.block) (hM : MkAt w gc gm M) : ExW w gc gm M g (wx.setCell p v) :=
  ⟨h.eg, (heap_setCell_other wx p g v (by omega)).trans h.row, h.mkr.set hM (by have := h.eg; omega), grown_set1 h.gr (by have := h.eg; omega)⟩
theorem ExW.set4 {w : World} {gc gm : Nat} {M : Mk} {g b : Nat} {wx : World} {v0 v1 v2 v3 : Value} (h : ExW w gc gm M g wx) (hl : gc < g) (hgm : gm < g) (hp : g < b) (hM : MkAt w gc gm M) : ExW w gc gm M g (set4 wx b v0 v1 v2 v3) :=
  (((h.set (p := ⟨b, 0, none⟩) hp hM).set (p := ⟨b, 1, none⟩) hp hM).set (p := ⟨b, 2, none⟩) hp hM).set (p := ⟨b, 3, none⟩) hp hM
theorem ExW.set6 {w : World} {gc gm : Nat} {M : Mk} {g b : Nat} {wx : World} {v0 v1 v2 v3 v4 v5 : Value} (h : ExW w gc gm M g wx) (hp : g < b) (hM : MkAt w gc gm M) : ExW w gc gm M g (set6 wx b v0 v1 v2 v3 v4 v5) :=
  (((((h.set (p := ⟨b, 0, none⟩) hp hM).set (p := ⟨b, 1, none⟩) hp hM).set (p := ⟨b, 2, none⟩) hp hM).set (p := ⟨b, 3, none⟩) hp hM).set (p := ⟨b, 4, none⟩) hp hM).set (p := ⟨b, 5, none⟩) hp hM
/-- an append to a row that is newer than the result's block -/
theorem MkAt.own {w wx wy : World} {gc gm : Nat} {M : Mk} {r : Option Nat} (h : MkAt wx gc gm M) (hM : MkAt w gc gm M) (hg : wx.grownBy wy r) (hr : ∀ k, r = some k → w.heap.size ≤ k) : MkAt wy gc gm M :=
  have hs := hg.size
  have kp : ∀ b, b < w.heap.size → b < wx.heap.size → wy.heap[b]? = wx.heap[b]? := fun b hb hbx => hg.block b hbx (fun e => by have := hr b e.symm; omega)
  have key : ∀ {e k n : Nat} {u : Value} {l : List Value}, wx.ownsRow (gm + 1) e k u n l → w.ownsRow (gm + 1) e k u n l → wy.ownsRow (gm + 1) e k u n l := fun {e k n u l} h1 h2 => by
    refine h1.kept hg ?_
    cases hq : u.ownBlock with
    | none => exact .inl rfl
    | some q => exact .inr (fun e => by have := hr q e.symm; have := (h2.lt q hq).2; omega)
  { h with
    cod := h.cod.keep fun k hk => kp k (by have := hM.cod.lt; omega) (by have := h.cod.lt; omega)
    row := (kp gm (heap_lt hM.row) (heap_lt h.row)).trans h.row
    gl := key h.gl hM.gl
    fn := key h.fn hM.fn
    lo := key h.lo hM.lo }
theorem ExW.own {w : World} {gc gm : Nat} {M : Mk} {g : Nat} {wx wy : World} {r : Option Nat} (h : ExW w gc gm M g wx) (hg : wx.grownBy wy r) (hr : ∀ k, r = some k → g < k) (hM : MkAt w gc gm M) (hl : gc < g) : ExW w gc gm M g wy :=
  ⟨h.eg, (hg.block g h.lts (fun e => by have := hr g e.symm; omega)).trans h.row, h.mkr.own hM hg (fun k hk => by have := hr k hk; have := h.eg; omega),
    ⟨hg.os.trans h.gr.os, hg.tape.trans h.gr.tape, hg.output.trans h.gr.output, Nat.le_trans h.gr.size hg.size, fun k hk hn => (hg.block k (Nat.lt_of_lt_of_le hk h.gr.size) (fun e => by have := hr k e.symm; have := h.eg; omega)).trans (h.gr.block k hk hn)⟩⟩
/-- strings, as they read -/
def LsAt (w : World) (a : Option Addr) (ls : List Bt) : Prop := ∀ j x, ls[j]? = some x → ∃ b off, a = some ⟨b, off, none⟩ ∧ b < w.heap.size ∧ w.cell? ⟨b, off + j, none⟩ = some (.string (st x))
theorem LsAt.of_own {w : World} {base n : Nat} {e : TypeId} {v : Value} {ls : List Bt} (h : w.ownsRow base e 1 v n (strs ls)) :
    ∃ a cap, v = .slice a n cap ∧ ls.length = n ∧ n ≤ cap ∧ cap ≤ maxLen ∧ LsAt w a ls := by
  obtain ⟨a, cap, rfl, h1, h2, h3, h4, h5⟩ := Cells.of_own h
  refine ⟨a, cap, rfl, by simpa using h1, h2, h3, fun j x hj => ?_⟩
  have hs : (strs ls)[j]? = some (.string (st x)) := by unfold strs; rw [List.getElem?_map, hj]; rfl
  obtain ⟨b, off, e1, hb, hc⟩ := h4 (fun e => by rw [e] at hs; cases hs)
  exact ⟨b, off, e1, hb, hc _ _ hs⟩
theorem LsAt.get {w : World} {base n cap j : Nat} {e : TypeId} {v : Value} {a : Option Addr} {ls : List Bt} (h : w.ownsRow base e 1 v ls.length (strs ls)) (hv : v = .slice a n cap) (hj : j < ls.length) :
    ∃ nm b off, a = some ⟨b, off, none⟩ ∧ b < w.heap.size ∧ nm ∈ ls ∧ w.cell? ⟨b, off + j, none⟩ = some (.string (st nm)) := by
  obtain ⟨a', cap', e1, _, _, _, hls⟩ := LsAt.of_own h
  rw [hv] at e1
  injection e1 with e1 e2 e3
  subst e1
  have hx : ls[j]? = some ls[j] := List.getElem?_eq_getElem hj
  obtain ⟨b, off, e, hb, hc⟩ := hls j _ hx
  exact ⟨_, b, off, e, hb, List.mem_of_getElem? hx, hc⟩
theorem ok_read : okH ⟨12, 0, 0, 0, []⟩ .nil := .inl ⟨rfl, rfl, .inr (.inl ⟨rfl, rfl, rfl⟩)⟩
theorem ok_name {nm : Bt} (h : okN nm) : okH ⟨13, 0, 0, 0, nm⟩ .nil := .inl ⟨rfl, rfl, .inl ⟨rfl, h, rfl⟩⟩
theorem ok_num {z : Int} (h0 : 0 ≤ z) (h1 : z ≤ 9223372036854775807) : okH ⟨1, 0, z, 0, []⟩ .nil := .inr (.inl ⟨rfl, rfl, rfl, h0, h1, rfl⟩)
theorem PickOk.nm {w : World} {gc gm : Nat} {M : Mk} {arr : Bool} {nm : Bt} (h : PickOk M arr nm) (hM : MkAt w gc gm M) : okN nm := by
  obtain ⟨g, hg, rfl, _⟩ := h
  exact (hM.gok g hg).1
set_option maxRecDepth 100000 in
set_option maxHeartbeats 8000000 in
theorem leaf_any (gc gm d : Nat) (M : Mk) (w : World) (h : MkAt w gc gm M) : Calls Tryd.prog 79 #[.pointer (some ⟨gm, 0, none⟩)] w (ExPost gc gm d w) := by
  have hx := ExW.start h
  have HL : Hid (gc < w.heap.size) := Lib.hid (by have := h.lt2; omega)
  have HP := Lib.hid (fun W (hW : MkAt W gc gm M) => pick_any gc gm M false W hW)
  have HM := Lib.hid h
  go_enter Tryd.func79, Tryd.ntmps79
  go_upto_region 1 with fail
  obtain ⟨w1, hw1⟩ : ∃ w1, w.alloc zex = w1 := ⟨_, rfl⟩
  rw [hw1] at hx ⊢
  obtain ⟨g, hg⟩ : ∃ g, w.heap.size = g := ⟨_, rfl⟩
  rw [hg] at hx HL ⊢
  have HX := Lib.hid hx
  have hlt2 := hx.mkr.lt2
  have c0 := cell_of_row _ _ 0 _ _ _ hx.mkr.row
  clear hw1 hx h hg
  go_wp2_with fail
  refine (Next_any gc 6 (by omega) _ HX.out.mkr.cod).mono ?_
  rintro e w2 ⟨x, rfl, x0, x1, hcod, hg⟩
  have HX2 := Lib.hid (HX.out.grown HL.out hg hcod)
  clear c0 hcod hg HX hlt2
  clear w1
  go_upto_block 0 with fail
  go_cut [4, 5] from 13 to 48 (fun v4 v5 wx => Hid (ExW w gc gm M g wx))
  case first =>
    by_cases e0 : x = 0
    · subst e0
      obtain ⟨jl, f0, f1, f2, f3, f4, f5, c0, c1, c2, c3, c4, c5⟩ := HX2.out.cells
      go_wp2_with fail
      obtain ⟨q0, q1, q2, q3, q4, q5, HF⟩ := HX2.out.fin HL.out (hd := ⟨12, 0, 0, 0, []⟩) (ar := .nil) (sl := .slice none 0 0) (d := d) (ArgsAt.nil _ _) (goodE.leaf ok_read rfl rfl (.inr (.inr (.inl rfl))) d) _ rfl
      refine bodyPost_ret (v := exv ⟨12, 0, 0, 0, []⟩ (.slice none 0 0)) (by simp [results, Tryd.results79, go_sem, q0, q1, q2, q3, q4, q5]) rfl ?_
      exact HF.out
    have d0 : (x == 0) = false := by rw [beq_eq_false_iff_ne]; exact e0
    by_cases e1 : x = 1
    · subst e1
      clear d0
      go_wp2_with fail
      refine (HP.out _ HX2.out.mkr).mono ?_
      rintro e w3 ⟨nm, ok, rfl, hpk, hcod, hg⟩
      have HX3 := Lib.hid (HX2.out.grown HL.out hg hcod)
      cases ok
      · clear hpk hg hcod
        go_wp2_with fail
        go_meet
        exact HX3
      · have HOK := Lib.hid ((hpk rfl).nm HM.out)
        clear hpk hg hcod
        obtain ⟨jl, f0, f1, f2, f3, f4, f5, c0, c1, c2, c3, c4, c5⟩ := HX3.out.cells
        go_wp2_with fail
        obtain ⟨q0, q1, q2, q3, q4, q5, HF⟩ := HX3.out.fin HL.out (hd := ⟨13, 0, 0, 0, nm⟩) (ar := .nil) (sl := .slice none 0 0) (d := d) (ArgsAt.nil _ _) (goodE.leaf (ok_name HOK.out) rfl rfl (.inr (.inl rfl)) d) _ rfl
        refine bodyPost_ret (v := exv ⟨13, 0, 0, 0, nm⟩ (.slice none 0 0)) (by simp [results, Tryd.results79, go_sem, q0, q1, q2, q3, q4, q5]) rfl ?_
        exact HF.out
    have d1 : (x == 1) = false := by rw [beq_eq_false_iff_ne]; exact e1
    by_cases e2 : x = 2 ∨ x = 3
    · clear e0 e1 x0 x1
      rcases e2 with rfl | rfl
      · clear d0 d1
        obtain ⟨al, cl, hvl, hll, hlc1, hlc2, hls⟩ := LsAt.of_own HX2.out.mkr.lo
        have hln := HX2.out.mkr.ln
        have hrow := HX2.out.mkr.row
        have HMB : Hid (gc < gm ∧ gm < g) := Lib.hid ⟨HX2.out.mkr.lt, by rw [HX2.out.eg]; exact heap_lt HM.out.row⟩
        rw [hvl] at hrow
        have c0 := cell_of_row _ _ 0 _ _ _ hrow
        have c3 := cell_of_row _ _ 3 _ _ _ hrow
        have hgm := heap_lt hrow
        have HVL := Lib.hid hvl
        obtain ⟨n, hn⟩ : ∃ n, M.ls.length = n := ⟨_, rfl⟩
        rw [hn] at c0 c3 hln hlc1
        have HN := Lib.hid hn
        clear hn hrow hvl hll
        have HLS := Lib.hid hls
        clear hls
        by_cases hn0 : n = 0
        · subst hn0
          clear HLS
          go_wp2_with fail
          go_meet
          exact HX2
        · have hn1 : (0 : Int) < (n : Int) := by omega
          have dn : decide ((0 : Int) < (n : Int)) = true := by rw [decide_eq_true_iff]; exact hn1
          obtain ⟨_, bl, ol, hal, hbl, _, _⟩ := LsAt.get (j := 0) HM.out.lo HVL.out (by rw [HN.out]; omega)
          subst hal
          have HBL : Hid (bl < g ∧ gc < bl) := Lib.hid ⟨by rw [HX2.out.eg]; exact hbl, by
            have := (HX2.out.mkr.lo.lt bl (by rw [HVL.out]; rfl)).1
            have := HMB.out; omega⟩
          clear hbl
          have HRW : Hid (∀ W, w2.grownBy W (some gc) → W.cell? ⟨gm, 0, none⟩ = some (.pointer (some ⟨gc, 0, none⟩)) ∧ W.cell? ⟨gm, 3, none⟩ = some (.slice (some ⟨bl, ol, none⟩) n cl) ∧ ∀ j x, M.ls[j]? = some x → W.cell? ⟨bl, ol + j, none⟩ = some (.string (st x))) := Lib.hid (fun W hW => ⟨hW.cell c0 (by simp; have := HMB.out; omega), hW.cell c3 (by simp; have := HMB.out; omega), fun j x hj => by
            obtain ⟨b', o', e1, _, hc⟩ := HLS.out j x hj
            injection e1 with e1
            injection e1 with e1 e2
            subst e1 e2
            exact hW.cell hc (by simp; have := HBL.out; omega)⟩)
          go_upto_region 12 with fail
          refine wp_region_held_drew (S := (fun w' => w'.cell? ⟨gm, 0, none⟩ = some (.pointer (some ⟨gc, 0, none⟩)) ∧ w'.cell? ⟨gm, 3, none⟩ = some (.slice (some ⟨bl, ol, none⟩) n cl) ∧ ∀ j x, M.ls[j]? = some x → w'.cell? ⟨bl, ol + j, none⟩ = some (.string (st x)))) (by kernel_rfl) (HRW.out _ (grownBy_drewN w2 1 _)) (fun hHeld => ?_)
          refine wpAnyH_takeD (i := 0) (d := some 35) (v := ?_) rfl (by kernel_rfl) (by kernel_rfl) (by kernel_rfl) (by kernel_rfl) (fun _ _ _ h => h) (Or.inl ⟨by kernel_rfl, ?_⟩) (by assumption) ?_
          rotate_left
          · (intro w hSw; (try dsimp only at hSw); go_simp; try with_reducible rfl)
          (try simp only [Act.put, List.setIfInBounds_toArray, List.set_cons_zero, List.set_cons_succ])
          refine wpAnyH_takeD (i := 1) (d := some 36) (v := ?_) rfl (by kernel_rfl) (by kernel_rfl) (by kernel_rfl) (by kernel_rfl) (fun _ _ _ h => h) (Or.inl ⟨by kernel_rfl, ?_⟩) (by assumption) ?_
          rotate_left
          · (intro w hSw; (try dsimp only at hSw); go_simp; try with_reducible rfl)
          (try simp only [Act.put, List.setIfInBounds_toArray, List.set_cons_zero, List.set_cons_succ])
          refine wpAnyH_takeD (i := 2) (d := some 37) (v := ?_) rfl (by kernel_rfl) (by kernel_rfl) (by kernel_rfl) (by kernel_rfl) (fun _ _ _ h => h) (Or.inl ⟨by kernel_rfl, ?_⟩) (by assumption) ?_
          rotate_left
          · (intro w hSw; (try dsimp only at hSw); go_simp; try with_reducible rfl)
          (try simp only [Act.put, List.setIfInBounds_toArray, List.set_cons_zero, List.set_cons_succ])
          refine wpAnyH_takeD (i := 3) (d := some 38) (v := ?_) rfl (by kernel_rfl) (by kernel_rfl) (by kernel_rfl) (by kernel_rfl) (fun _ _ _ h => h) (Or.inl ⟨by kernel_rfl, ?_⟩) (by assumption) ?_
          rotate_left
          · (intro w hSw; (try dsimp only at hSw); go_simp; try with_reducible rfl)
          (try simp only [Act.put, List.setIfInBounds_toArray, List.set_cons_zero, List.set_cons_succ])
          refine wpAnyH_takeD (i := 4) (d := some 39) (v := ?_) rfl (by kernel_rfl) (by kernel_rfl) (by kernel_rfl) (by kernel_rfl) (fun _ _ _ h => h) (Or.inl ⟨by kernel_rfl, ?_⟩) (by assumption) ?_
          rotate_left
          · (intro w hSw; (try dsimp only at hSw); go_simp; try with_reducible rfl)
          (try simp only [Act.put, List.setIfInBounds_toArray, List.set_cons_zero, List.set_cons_succ])
          refine wpAnyH_takeD (i := 5) (d := some 40) (v := ?_) rfl (by kernel_rfl) (by kernel_rfl) (by kernel_rfl) (by kernel_rfl) (fun _ _ _ h => h) (Or.inl ⟨by kernel_rfl, ?_⟩) (by assumption) ?_
          rotate_left
          · (intro w hSw; (try dsimp only at hSw); go_simp; try with_reducible rfl)
          (try simp only [Act.put, List.setIfInBounds_toArray, List.set_cons_zero, List.set_cons_succ])
          refine wpAnyH_takeD (i := 6) (d := some 41) (v := ?_) rfl (by kernel_rfl) (by kernel_rfl) (by kernel_rfl) (by kernel_rfl) (fun _ _ _ h => h) (Or.inl ⟨by kernel_rfl, ?_⟩) (by assumption) ?_
          rotate_left
          · (intro w hSw; (try dsimp only at hSw); go_simp; try with_reducible rfl)
          (try simp only [Act.put, List.setIfInBounds_toArray, List.set_cons_zero, List.set_cons_succ])
          refine wpAnyH_takeD (i := 7) (d := some 42) (v := ?_) rfl (by kernel_rfl) (by kernel_rfl) (by kernel_rfl) (by kernel_rfl) (fun _ _ _ h => h) (Or.inl ⟨by kernel_rfl, ?_⟩) (by assumption) ?_
          rotate_left
          · (intro w hSw; (try dsimp only at hSw); go_simp; try with_reducible rfl)
          (try simp only [Act.put, List.setIfInBounds_toArray, List.set_cons_zero, List.set_cons_succ])
          refine wpAnyH_takeD (i := 8) (d := some 43) (v := ?_) rfl (by kernel_rfl) (by kernel_rfl) (by kernel_rfl) (by kernel_rfl) (fun _ _ _ h => h) (Or.inl ⟨by kernel_rfl, ?_⟩) (by assumption) ?_
          rotate_left
          · (intro w hSw; (try dsimp only at hSw); go_simp; try with_reducible rfl)
          (try simp only [Act.put, List.setIfInBounds_toArray, List.set_cons_zero, List.set_cons_succ])
          refine wpAnyH_takeD (i := 9) (d := some 44) (v := ?_) rfl (by kernel_rfl) (by kernel_rfl) (by kernel_rfl) (by kernel_rfl) (fun _ _ _ h => h) (Or.inl ⟨by kernel_rfl, ?_⟩) (by assumption) ?_
          rotate_left
          · (intro w hSw; (try dsimp only at hSw); go_simp; try with_reducible rfl)
          (try simp only [Act.put, List.setIfInBounds_toArray, List.set_cons_zero, List.set_cons_succ])
          refine wpAnyH_ready (rs := [10]) (by kernel_rfl) (by simp) ?_
          refine AllReadyH.cons rfl (fun K hK => ?_) AllReadyH.nil
          go_simp
          refine (Next_any gc n (by omega) _ HX2.out.mkr.cod.drew).mono ?_
          rintro e wy ⟨y, rfl, y0, y1, hcod, hg0⟩
          obtain ⟨y, rfl⟩ := Int.eq_ofNat_of_zero_le y0
          have y2 : y < n := by omega
          have hg := grownBy_trans (grownBy_drewN w2 1 (some gc)) hg0
          clear hg0
          have HX3 := Lib.hid (HX2.out.grown HL.out hg hcod)
          refine hK.out _ _ (HRW.out _ hg) (fun hHeld => ?_)
          clear hK K
          (try simp only [Act.put, List.setIfInBounds_toArray, List.set_cons_zero, List.set_cons_succ])
          have hy3 : (y : Int) < (n : Int) := by omega
          obtain ⟨nm, hnm⟩ : ∃ nm, M.ls[y]? = some nm := ⟨_, List.getElem?_eq_getElem (by rw [HN.out]; exact y2)⟩
          have HNM : Hid (okN nm) := Lib.hid (HX3.out.mkr.lok nm (List.mem_of_getElem? hnm))
          clear hg hcod y1
          refine wpAnyH_takeD (i := 11) (d := some 46) (v := ?_) rfl (by kernel_rfl) (by kernel_rfl) (by kernel_rfl) (by kernel_rfl) (fun _ _ _ h => h) (Or.inl ⟨by kernel_rfl, ?_⟩) (by assumption) ?_
          rotate_left
          · (intro w hSw; (try dsimp only at hSw); go_simp; try with_reducible rfl)
          (try simp only [Act.put, List.setIfInBounds_toArray, List.set_cons_zero, List.set_cons_succ])
          refine wpAnyH_takeD (i := 12) (d := some 47) (v := .string (st nm)) rfl (by kernel_rfl) (by kernel_rfl) (by kernel_rfl) (by kernel_rfl) (fun _ _ _ h => h) (Or.inl ⟨by kernel_rfl, ?_⟩) (by assumption) ?_
          · (intro w hSw; have hcx := hSw.2.2 y nm hnm; go_simp; try with_reducible rfl)
          (try simp only [Act.put, List.setIfInBounds_toArray, List.set_cons_zero, List.set_cons_succ])
          refine wpAnyH_takeD (i := 13) (d := some 48) (v := ?_) rfl (by kernel_rfl) (by kernel_rfl) (by kernel_rfl) (by kernel_rfl) (fun _ _ _ h => h) (Or.inl ⟨by kernel_rfl, ?_⟩) (by assumption) ?_
          rotate_left
          · (intro w hSw; (try dsimp only at hSw); go_simp; try with_reducible rfl)
          (try simp only [Act.put, List.setIfInBounds_toArray, List.set_cons_zero, List.set_cons_succ])
          obtain ⟨jl, f0, f1, f2, f3, f4, f5, r0, r1, r2, r3, r4, r5⟩ := HX3.out.cells
          refine wpAnyH_ready (rs := [14]) (by kernel_rfl) (by simp) ?_
          refine AllReadyH.cons rfl (fun K hK => ?_) AllReadyH.nil
          go_simp
          refine hK.out _ _ ⟨cell_set6 (by have := HMB.out; omega) hHeld.1, cell_set6 (by have := HMB.out; omega) hHeld.2.1, fun j x hj => cell_set6 (by have := HBL.out; omega) (hHeld.2.2 j x hj)⟩ (fun hHeld => ?_)
          clear hK K
          (try simp only [Act.put, List.setIfInBounds_toArray, List.set_cons_zero, List.set_cons_succ])
          refine wpAnyH_done (by kernel_rfl) ?_ _
          go_wp2_with fail
          obtain ⟨q0, q1, q2, q3, q4, q5, HF⟩ := HX3.out.fin HL.out (hd := ⟨13, 0, 0, 0, nm⟩) (ar := .nil) (sl := .slice none 0 0) (d := d) (ArgsAt.nil _ _) (goodE.leaf (ok_name HNM.out) rfl rfl (.inr (.inl rfl)) d) _ rfl
          refine bodyPost_ret (v := exv ⟨13, 0, 0, 0, nm⟩ (.slice none 0 0)) (by simp [results, Tryd.results79, go_sem, q0, q1, q2, q3, q4, q5]) rfl ?_
          exact HF.out
      · clear d0 d1
        obtain ⟨al, cl, hvl, hll, hlc1, hlc2, hls⟩ := LsAt.of_own HX2.out.mkr.lo
        have hln := HX2.out.mkr.ln
        have hrow := HX2.out.mkr.row
        have HMB : Hid (gc < gm ∧ gm < g) := Lib.hid ⟨HX2.out.mkr.lt, by rw [HX2.out.eg]; exact heap_lt HM.out.row⟩
        rw [hvl] at hrow
        have c0 := cell_of_row _ _ 0 _ _ _ hrow
        have c3 := cell_of_row _ _ 3 _ _ _ hrow
        have hgm := heap_lt hrow
        have HVL := Lib.hid hvl
        obtain ⟨n, hn⟩ : ∃ n, M.ls.length = n := ⟨_, rfl⟩
        rw [hn] at c0 c3 hln hlc1
        have HN := Lib.hid hn
        clear hn hrow hvl hll
        have HLS := Lib.hid hls
        clear hls
        by_cases hn0 : n = 0
        · subst hn0
          clear HLS
          go_wp2_with fail
          go_meet
          exact HX2
        · have hn1 : (0 : Int) < (n : Int) := by omega
          have dn : decide ((0 : Int) < (n : Int)) = true := by rw [decide_eq_true_iff]; exact hn1
          obtain ⟨_, bl, ol, hal, hbl, _, _⟩ := LsAt.get (j := 0) HM.out.lo HVL.out (by rw [HN.out]; omega)
          subst hal
          have HBL : Hid (bl < g ∧ gc < bl) := Lib.hid ⟨by rw [HX2.out.eg]; exact hbl, by
            have := (HX2.out.mkr.lo.lt bl (by rw [HVL.out]; rfl)).1
            have := HMB.out; omega⟩
          clear hbl
          have HRW : Hid (∀ W, w2.grownBy W (some gc) → W.cell? ⟨gm, 0, none⟩ = some (.pointer (some ⟨gc, 0, none⟩)) ∧ W.cell? ⟨gm, 3, none⟩ = some (.slice (some ⟨bl, ol, none⟩) n cl) ∧ ∀ j x, M.ls[j]? = some x → W.cell? ⟨bl, ol + j, none⟩ = some (.string (st x))) := Lib.hid (fun W hW => ⟨hW.cell c0 (by simp; have := HMB.out; omega), hW.cell c3 (by simp; have := HMB.out; omega), fun j x hj => by
            obtain ⟨b', o', e1, _, hc⟩ := HLS.out j x hj
            injection e1 with e1
            injection e1 with e1 e2
            subst e1 e2
            exact hW.cell hc (by simp; have := HBL.out; omega)⟩)
          go_upto_region 12 with fail
          refine wp_region_held_drew (S := (fun w' => w'.cell? ⟨gm, 0, none⟩ = some (.pointer (some ⟨gc, 0, none⟩)) ∧ w'.cell? ⟨gm, 3, none⟩ = some (.slice (some ⟨bl, ol, none⟩) n cl) ∧ ∀ j x, M.ls[j]? = some x → w'.cell? ⟨bl, ol + j, none⟩ = some (.string (st x)))) (by kernel_rfl) (HRW.out _ (grownBy_drewN w2 1 _)) (fun hHeld => ?_)
          refine wpAnyH_takeD (i := 0) (d := some 35) (v := ?_) rfl (by kernel_rfl) (by kernel_rfl) (by kernel_rfl) (by kernel_rfl) (fun _ _ _ h => h) (Or.inl ⟨by kernel_rfl, ?_⟩) (by assumption) ?_
          rotate_left
          · (intro w hSw; (try dsimp only at hSw); go_simp; try with_reducible rfl)
          (try simp only [Act.put, List.setIfInBounds_toArray, List.set_cons_zero, List.set_cons_succ])
          refine wpAnyH_takeD (i := 1) (d := some 36) (v := ?_) rfl (by kernel_rfl) (by kernel_rfl) (by kernel_rfl) (by kernel_rfl) (fun _ _ _ h => h) (Or.inl ⟨by kernel_rfl, ?_⟩) (by assumption) ?_
          rotate_left
          · (intro w hSw; (try dsimp only at hSw); go_simp; try with_reducible rfl)
          (try simp only [Act.put, List.setIfInBounds_toArray, List.set_cons_zero, List.set_cons_succ])
          refine wpAnyH_takeD (i := 2) (d := some 37) (v := ?_) rfl (by kernel_rfl) (by kernel_rfl) (by kernel_rfl) (by kernel_rfl) (fun _ _ _ h => h) (Or.inl ⟨by kernel_rfl, ?_⟩) (by assumption) ?_
          rotate_left
          · (intro w hSw; (try dsimp only at hSw); go_simp; try with_reducible rfl)
          (try simp only [Act.put, List.setIfInBounds_toArray, List.set_cons_zero, List.set_cons_succ])
          refine wpAnyH_takeD (i := 3) (d := some 38) (v := ?_) rfl (by kernel_rfl) (by kernel_rfl) (by kernel_rfl) (by kernel_rfl) (fun _ _ _ h => h) (Or.inl ⟨by kernel_rfl, ?_⟩) (by assumption) ?_
          rotate_left
          · (intro w hSw; (try dsimp only at hSw); go_simp; try with_reducible rfl)
          (try simp only [Act.put, List.setIfInBounds_toArray, List.set_cons_zero, List.set_cons_succ])
          refine wpAnyH_takeD (i := 4) (d := some 39) (v := ?_) rfl (by kernel_rfl) (by kernel_rfl) (by kernel_rfl) (by kernel_rfl) (fun _ _ _ h => h) (Or.inl ⟨by kernel_rfl, ?_⟩) (by assumption) ?_
          rotate_left
          · (intro w hSw; (try dsimp only at hSw); go_simp; try with_reducible rfl)
          (try simp only [Act.put, List.setIfInBounds_toArray, List.set_cons_zero, List.set_cons_succ])
          refine wpAnyH_takeD (i := 5) (d := some 40) (v := ?_) rfl (by kernel_rfl) (by kernel_rfl) (by kernel_rfl) (by kernel_rfl) (fun _ _ _ h => h) (Or.inl ⟨by kernel_rfl, ?_⟩) (by assumption) ?_
          rotate_left
          · (intro w hSw; (try dsimp only at hSw); go_simp; try with_reducible rfl)
          (try simp only [Act.put, List.setIfInBounds_toArray, List.set_cons_zero, List.set_cons_succ])
          refine wpAnyH_takeD (i := 6) (d := some 41) (v := ?_) rfl (by kernel_rfl) (by kernel_rfl) (by kernel_rfl) (by kernel_rfl) (fun _ _ _ h => h) (Or.inl ⟨by kernel_rfl, ?_⟩) (by assumption) ?_
          rotate_left
          · (intro w hSw; (try dsimp only at hSw); go_simp; try with_reducible rfl)
          (try simp only [Act.put, List.setIfInBounds_toArray, List.set_cons_zero, List.set_cons_succ])
          refine wpAnyH_takeD (i := 7) (d := some 42) (v := ?_) rfl (by kernel_rfl) (by kernel_rfl) (by kernel_rfl) (by kernel_rfl) (fun _ _ _ h => h) (Or.inl ⟨by kernel_rfl, ?_⟩) (by assumption) ?_
          rotate_left
          · (intro w hSw; (try dsimp only at hSw); go_simp; try with_reducible rfl)
          (try simp only [Act.put, List.setIfInBounds_toArray, List.set_cons_zero, List.set_cons_succ])
          refine wpAnyH_takeD (i := 8) (d := some 43) (v := ?_) rfl (by kernel_rfl) (by kernel_rfl) (by kernel_rfl) (by kernel_rfl) (fun _ _ _ h => h) (Or.inl ⟨by kernel_rfl, ?_⟩) (by assumption) ?_
          rotate_left
          · (intro w hSw; (try dsimp only at hSw); go_simp; try with_reducible rfl)
          (try simp only [Act.put, List.setIfInBounds_toArray, List.set_cons_zero, List.set_cons_succ])
          refine wpAnyH_takeD (i := 9) (d := some 44) (v := ?_) rfl (by kernel_rfl) (by kernel_rfl) (by kernel_rfl) (by kernel_rfl) (fun _ _ _ h => h) (Or.inl ⟨by kernel_rfl, ?_⟩) (by assumption) ?_
          rotate_left
          · (intro w hSw; (try dsimp only at hSw); go_simp; try with_reducible rfl)
          (try simp only [Act.put, List.setIfInBounds_toArray, List.set_cons_zero, List.set_cons_succ])
          refine wpAnyH_ready (rs := [10]) (by kernel_rfl) (by simp) ?_
          refine AllReadyH.cons rfl (fun K hK => ?_) AllReadyH.nil
          go_simp
          refine (Next_any gc n (by omega) _ HX2.out.mkr.cod.drew).mono ?_
          rintro e wy ⟨y, rfl, y0, y1, hcod, hg0⟩
          obtain ⟨y, rfl⟩ := Int.eq_ofNat_of_zero_le y0
          have y2 : y < n := by omega
          have hg := grownBy_trans (grownBy_drewN w2 1 (some gc)) hg0
          clear hg0
          have HX3 := Lib.hid (HX2.out.grown HL.out hg hcod)
          refine hK.out _ _ (HRW.out _ hg) (fun hHeld => ?_)
          clear hK K
          (try simp only [Act.put, List.setIfInBounds_toArray, List.set_cons_zero, List.set_cons_succ])
          have hy3 : (y : Int) < (n : Int) := by omega
          obtain ⟨nm, hnm⟩ : ∃ nm, M.ls[y]? = some nm := ⟨_, List.getElem?_eq_getElem (by rw [HN.out]; exact y2)⟩
          have HNM : Hid (okN nm) := Lib.hid (HX3.out.mkr.lok nm (List.mem_of_getElem? hnm))
          clear hg hcod y1
          refine wpAnyH_takeD (i := 11) (d := some 46) (v := ?_) rfl (by kernel_rfl) (by kernel_rfl) (by kernel_rfl) (by kernel_rfl) (fun _ _ _ h => h) (Or.inl ⟨by kernel_rfl, ?_⟩) (by assumption) ?_
          rotate_left
          · (intro w hSw; (try dsimp only at hSw); go_simp; try with_reducible rfl)
          (try simp only [Act.put, List.setIfInBounds_toArray, List.set_cons_zero, List.set_cons_succ])
          refine wpAnyH_takeD (i := 12) (d := some 47) (v := .string (st nm)) rfl (by kernel_rfl) (by kernel_rfl) (by kernel_rfl) (by kernel_rfl) (fun _ _ _ h => h) (Or.inl ⟨by kernel_rfl, ?_⟩) (by assumption) ?_
          · (intro w hSw; have hcx := hSw.2.2 y nm hnm; go_simp; try with_reducible rfl)
          (try simp only [Act.put, List.setIfInBounds_toArray, List.set_cons_zero, List.set_cons_succ])
          refine wpAnyH_takeD (i := 13) (d := some 48) (v := ?_) rfl (by kernel_rfl) (by kernel_rfl) (by kernel_rfl) (by kernel_rfl) (fun _ _ _ h => h) (Or.inl ⟨by kernel_rfl, ?_⟩) (by assumption) ?_
          rotate_left
          · (intro w hSw; (try dsimp only at hSw); go_simp; try with_reducible rfl)
          (try simp only [Act.put, List.setIfInBounds_toArray, List.set_cons_zero, List.set_cons_succ])
          obtain ⟨jl, f0, f1, f2, f3, f4, f5, r0, r1, r2, r3, r4, r5⟩ := HX3.out.cells
          refine wpAnyH_ready (rs := [14]) (by kernel_rfl) (by simp) ?_
          refine AllReadyH.cons rfl (fun K hK => ?_) AllReadyH.nil
          go_simp
          refine hK.out _ _ ⟨cell_set6 (by have := HMB.out; omega) hHeld.1, cell_set6 (by have := HMB.out; omega) hHeld.2.1, fun j x hj => cell_set6 (by have := HBL.out; omega) (hHeld.2.2 j x hj)⟩ (fun hHeld => ?_)
          clear hK K
          (try simp only [Act.put, List.setIfInBounds_toArray, List.set_cons_zero, List.set_cons_succ])
          refine wpAnyH_done (by kernel_rfl) ?_ _
          go_wp2_with fail
          obtain ⟨q0, q1, q2, q3, q4, q5, HF⟩ := HX3.out.fin HL.out (hd := ⟨13, 0, 0, 0, nm⟩) (ar := .nil) (sl := .slice none 0 0) (d := d) (ArgsAt.nil _ _) (goodE.leaf (ok_name HNM.out) rfl rfl (.inr (.inl rfl)) d) _ rfl
          refine bodyPost_ret (v := exv ⟨13, 0, 0, 0, nm⟩ (.slice none 0 0)) (by simp [results, Tryd.results79, go_sem, q0, q1, q2, q3, q4, q5]) rfl ?_
          exact HF.out
    have d2 : (x == 2) = false := by rw [beq_eq_false_iff_ne]; omega
    have d3 : (x == 3) = false := by rw [beq_eq_false_iff_ne]; omega
    clear e0 e1 e2
    go_wp2_with fail
    go_meet
    exact HX2
  case rest =>
    have HX := hcut
    clear HX2 hcut
    go_wp2_with fail
    refine (Next_any gc 5 (by omega) _ HX.out.mkr.cod).mono ?_
    rintro e w3 ⟨y, rfl, y0, y1, hcod, hg⟩
    have HX3 := Lib.hid (HX.out.grown HL.out hg hcod)
    clear hg hcod HX
    go_wp2_with fail
    refine (Next_any gc 12 (by omega) _ HX3.out.mkr.cod).mono ?_
    rintro e w4 ⟨z, rfl, z0, z1, hcod, hg⟩
    have HX4 := Lib.hid (HX3.out.grown HL.out hg hcod)
    have y2 : y < 5 := by omega
    clear hg hcod HX3 y1
    by_cases ez : z = 11
    · subst ez
      clear z0 z1
      go_wp2_with fail
      have hb5 := below_alloc w4 (.cells #[.int .i64 9223372036854775807, .int .i64 2147483648, .int .i64 1000, .int .i64 64] 3)
      have hblk := heap_alloc_new w4 (.cells #[.int .i64 9223372036854775807, .int .i64 2147483648, .int .i64 1000, .int .i64 64] 3)
      have HX5 := Lib.hid (HX4.out.below hb5)
      have HNE : Hid (gc < w4.heap.size) := Lib.hid (by have := HX4.out.lts; have := HL.out; omega)
      obtain ⟨w5, hw5⟩ : ∃ w5, w4.alloc (.cells #[.int .i64 9223372036854775807, .int .i64 2147483648, .int .i64 1000, .int .i64 64] 3) = w5 := ⟨_, rfl⟩
      obtain ⟨g5, hg5⟩ : ∃ g5, w4.heap.size = g5 := ⟨_, rfl⟩
      rw [hw5] at HX5 hblk ⊢
      rw [hg5] at hblk HNE ⊢
      clear hb5 hw5 hg5 HX4
      clear w4
      refine (Next_any gc 4 (by omega) _ HX5.out.mkr.cod).mono ?_
      rintro e w6 ⟨z, rfl, z0, z1, hcod, hg⟩
      have HX6 := Lib.hid (HX5.out.grown HL.out hg hcod)
      have hb6 := (hg.block g5 (heap_lt hblk) (fun e => by injection e with e; have := HNE.out; omega)).trans hblk
      clear hcod hg hblk HX5
      clear w5
      have z2 : z < 4 := by omega
      obtain ⟨z, rfl⟩ := Int.eq_ofNat_of_zero_le z0
      obtain ⟨u, hu, hu0, hu1⟩ : ∃ u : Int, w6.cell? ⟨g5, z, none⟩ = some (.int .i64 u) ∧ 0 ≤ u ∧ u ≤ 9223372036854775807 := by
        rw [cell_of_row w6 g5 z _ _ _ hb6]
        have : z = 0 ∨ z = 1 ∨ z = 2 ∨ z = 3 := by omega
        rcases this with rfl | rfl | rfl | rfl <;> exact ⟨_, rfl, by omega, by omega⟩
      clear hb6 z1
      obtain ⟨jl, f0, f1, f2, f3, f4, f5, c0, c1, c2, c3, c4, c5⟩ := HX6.out.cells
      go_wp2_with fail
      obtain ⟨q0, q1, q2, q3, q4, q5, HF⟩ := HX6.out.fin HL.out (hd := ⟨1, 0, u, 0, []⟩) (ar := .nil) (sl := .slice none 0 0) (d := d) (ArgsAt.nil _ _) (goodE.leaf (ok_num hu0 hu1) rfl rfl (.inl rfl) d) _ rfl
      refine bodyPost_ret (v := exv ⟨1, 0, u, 0, []⟩ (.slice none 0 0)) (by simp [results, Tryd.results79, go_sem, q0, q1, q2, q3, q4, q5]) rfl ?_
      exact HF.out
    · have dz : (z == 11) = false := by rw [beq_eq_false_iff_ne]; exact ez
      obtain ⟨jl, f0, f1, f2, f3, f4, f5, c0, c1, c2, c3, c4, c5⟩ := HX4.out.cells
      go_wp2_with fail
      obtain ⟨q0, q1, q2, q3, q4, q5, HF⟩ := HX4.out.fin HL.out (hd := ⟨1, 0, y, 0, []⟩) (ar := .nil) (sl := .slice none 0 0) (d := d) (ArgsAt.nil _ _) (goodE.leaf (ok_num y0 (by omega)) rfl rfl (.inl rfl) d) _ rfl
      refine bodyPost_ret (v := exv ⟨1, 0, y, 0, []⟩ (.slice none 0 0)) (by simp [results, Tryd.results79, go_sem, q0, q1, q2, q3, q4, q5]) rfl ?_
      exact HF.out
end Go.Proofs.YthcagbplolcbpaaDoor
namespace Go.Proofs.YthcagbplolcbpaaDoor
open Go.ChangeShapes Go.WideShapes Go.ChangeAt Go.RowKit
set_option linter.unusedVariables false
set_option linter.unusedSimpArgs false

/-- the functions that are being made, as they read -/
def FrsAt (w : World) (b : Nat) (fs : List Fr) : Prop := ∀ j f, fs[j]? = some f → w.cell? ⟨b, j * 4, none⟩ = some (.string (st f.nm)) ∧ w.cell? ⟨b, j * 4 + 1, none⟩ = some (.int .i64 0) ∧ w.cell? ⟨b, j * 4 + 2, none⟩ = some (.slice f.pa f.pn f.pc) ∧ w.cell? ⟨b, j * 4 + 3, none⟩ = some (.slice f.ba f.bn f.bc)
theorem FrsAt.of_own {w : World} {base : Nat} {e : TypeId} {v : Value} {fs : List Fr} (h : w.ownsRow base e 4 v fs.length (frc fs)) (hn : 0 < fs.length) :
    ∃ b cap, v = .slice (some ⟨b, 0, none⟩) fs.length cap ∧ fs.length ≤ cap ∧ cap ≤ maxLen ∧ base ≤ b ∧ b < w.heap.size ∧ FrsAt w b fs := by
  have hne : frc fs ≠ [] := fun e => by have := frc_len fs; rw [e] at this; simp at this; omega
  obtain ⟨g, cap, rfl, hb, hl, h1, h2, _, hc⟩ := own_block h hne
  refine ⟨g, cap, rfl, h1, h2, hb, hl, fun j f hj => ?_⟩
  obtain ⟨g1, g2, g3, g4⟩ := frc_get fs j f hj
  exact ⟨hc _ _ g1, hc _ _ g2, hc _ _ g3, hc _ _ g4⟩
theorem FrsAt.kept {w w' : World} {b : Nat} {fs : List Fr} (h : FrsAt w b fs) (hb : w'.heap[b]? = w.heap[b]?) : FrsAt w' b fs := fun j f hj => by
  obtain ⟨h1, h2, h3, h4⟩ := h j f hj
  exact ⟨(World.cell?_of_block (a := ⟨b, j * 4, none⟩) hb).trans h1, (World.cell?_of_block (a := ⟨b, j * 4 + 1, none⟩) hb).trans h2, (World.cell?_of_block (a := ⟨b, j * 4 + 2, none⟩) hb).trans h3, (World.cell?_of_block (a := ⟨b, j * 4 + 3, none⟩) hb).trans h4⟩
theorem cod_set1 {w : World} {gc : Nat} {p : Addr} {v : Value} (h : Cod w gc) (hp : gc < p.block) : Cod (w.setCell p v) gc := h.setCell hp v
theorem grownBy_set6 (w : World) (g : Nat) (v0 v1 v2 v3 v4 v5 : Value) : w.grownBy (set6 w g v0 v1 v2 v3 v4 v5) (some g) :=
  grownBy_trans (grownBy_trans (grownBy_trans (grownBy_trans (grownBy_trans (grownBy_set w g 0 v0) (grownBy_set _ g 1 v1)) (grownBy_set _ g 2 v2)) (grownBy_set _ g 3 v3)) (grownBy_set _ g 4 v4)) (grownBy_set _ g 5 v5)
theorem okH.nm13 {h : Hd} {ar : Fo} (k : okH h ar) (e : h.k = 13) : okN h.nm := by
  rcases k with ⟨_, _, k⟩ | ⟨_, k, _⟩ | ⟨_, _, k⟩
  · rcases k with ⟨_, k, _⟩ | ⟨k, _⟩ | ⟨k, _⟩ | ⟨k, _⟩ | ⟨k, _⟩ | ⟨k, _⟩ | ⟨k, _⟩
    · exact k
    all_goals omega
  · omega
  · omega
/-- an own row of one expression, made anew -/
theorem own_one (w : World) (cs : Array Value) (base e : Nat) (hs : cs.size = 6) (hb : base ≤ w.heap.size) : (w.alloc (.cells cs e)).ownsRow base e 6 (.slice (some ⟨w.heap.size, 0, none⟩) 1 1) 1 cs.toList :=
  ⟨by simpa using hs, .inr ⟨w.heap.size, 1, cs, rfl, hb, heap_alloc_new w _, Nat.le_refl _, by simp [maxLen], by omega, List.take_of_length_le (by simp; omega)⟩⟩
/-- one more expression behind those of an own row -/
theorem fo_push {wr w2 w9 : World} {gc B g9 n : Nat} {e : TypeId} {v sl : Value} {F ar : Fo} {h : Hd} {xs : List Value} {ob : Obj} (hF : FoAt wr (fun b => B < b ∧ some b ≠ v.ownBlock) F xs) (hown : wr.ownsRow (B + 1) e 6 v n xs)
    (hg : wr.grownBy w2 (some gc)) (hgc : gc ≤ B) (hB : B < wr.heap.size) (ha : ArgsAt w2 (fun b => wr.heap.size ≤ b) ar sl) (hg9 : (w2.alloc ob).grownBy w9 v.ownBlock) (h9 : v.ownBlock = some g9 ∨ g9 = (w2.alloc ob).heap.size) :
    FoAt w9 (fun b => B < b ∧ some b ≠ some g9) (F.app (one1 h ar)) (xs ++ hdc h sl) := by
  have hs := hg.size
  have hsA : (w2.alloc ob).heap.size = w2.heap.size + 1 := by simp
  have hs9 := hg9.size
  refine FoAt.app (hF.keep (fun b hb hlt => ⟨?_, hb.1, ?_⟩) (by omega)) (ArgsAt.one (ha.keep (fun b hb hlt => ⟨?_, by omega, ?_⟩) (by omega)))
  · rw [hg9.block b (by omega) hb.2, Below.heap_alloc w2 ob b (by omega), hg.block b hlt (by simp; omega)]
  · rcases h9 with h9 | h9
    · rw [← h9]; exact hb.2
    · simp; omega
  · rw [hg9.block b (by omega) (fun e => by have := (hown.lt b e.symm).2; omega), Below.heap_alloc w2 ob b (by omega)]
  · rcases h9 with h9 | h9
    · have := (hown.lt g9 h9).2; simp; omega
    · simp; omega
/-- what call leaves -/
def CallPost (gc gm d : Nat) (w : World) (e : Ending) (w' : World) : Prop := ExPost gc gm d w e w' ∧ ∃ h sl, e = .returned (exv h sl) ∧ (h.k = 9 ∨ h.k = 10)
/-- a function in a block of its own -/
abbrev frow (f : Fr) : Obj := .cells #[.string (st f.nm), .int .i64 0, .slice f.pa f.pn f.pc, (.slice f.ba f.bn f.bc)] 69 (0, 0)
set_option maxRecDepth 100000 in
set_option maxHeartbeats 8000000 in
theorem call_any (gc gm d : Nat) (M : Mk) (hd63 : d ≤ 1000) (HE : ∀ W, MkAt W gc gm M → Calls Tryd.prog 62 #[.pointer (some ⟨gm, 0, none⟩), .int .i64 (d : Int)] W (ExPost gc gm d W)) (w : World) (h : MkAt w gc gm M) : Calls Tryd.prog 65 #[.pointer (some ⟨gm, 0, none⟩), .int .i64 ((d : Int) + 1)] w (CallPost gc gm (d + 1) w) := by
  have hx := ExW.start h
  have HEX := Lib.hid HE
  clear HE
  have HL : Hid (gc < w.heap.size) := Lib.hid (by have := h.lt2; omega)
  have HM := Lib.hid h
  go_enter Tryd.func65, Tryd.ntmps65
  go_upto_region 1 with fail
  obtain ⟨w1, hw1⟩ : ∃ w1, w.alloc zex = w1 := ⟨_, rfl⟩
  rw [hw1] at hx ⊢
  obtain ⟨g, hg⟩ : ∃ g, w.heap.size = g := ⟨_, rfl⟩
  rw [hg] at hx HL ⊢
  have HX := Lib.hid hx
  have HGM : Hid (gm < g) := Lib.hid (by rw [← hg]; exact heap_lt h.row)
  clear hw1 hx h hg
  go_cut [5] from 11 to 28 (fun v5 wx => ∃ (g5 : Nat) (f : Fr), v5 = .pointer (some ⟨g5, 0, none⟩) ∧ Hid (f ∈ M.fs) ∧ Hid (ExW w gc gm M g wx ∧ wx.heap[g5]? = some (frow f) ∧ g < g5))
  case first =>
    have hrow := HX.out.mkr.row
    have hfn1 := HX.out.mkr.fn1
    obtain ⟨bf, cf, hvb, hfc1, hfc2, hbf1, hbf2, hfr⟩ := FrsAt.of_own HX.out.mkr.fn hfn1
    rw [hvb] at hrow
    have HBF : Hid (gc < bf ∧ bf < g) := Lib.hid ⟨by have := HX.out.mkr.lt; omega, by
      have := (HM.out.fn.lt bf (by rw [hvb]; rfl)).2
      have := HX.out.eg; omega⟩
    have c0 := cell_of_row _ _ 0 _ _ _ hrow
    have c2 := cell_of_row _ _ 2 _ _ _ hrow
    have HMB : Hid (gc < gm) := Lib.hid HX.out.mkr.lt
    have hn4 := HX.out.mkr.fn2
    obtain ⟨n, hn⟩ : ∃ n, M.fs.length = n := ⟨_, rfl⟩
    rw [hn] at c0 c2 hfc1 hn4 hfn1
    have HN := Lib.hid hn
    have HFR := Lib.hid hfr
    clear hn hrow hvb hfr hbf1 hbf2
    have HRW : Hid (∀ W, w1.grownBy W (some gc) → W.cell? ⟨gm, 0, none⟩ = some (.pointer (some ⟨gc, 0, none⟩)) ∧ W.cell? ⟨gm, 2, none⟩ = some (.slice (some ⟨bf, 0, none⟩) n cf) ∧ FrsAt W bf M.fs) := Lib.hid (fun W hW => ⟨hW.cell c0 (by simp; have := HMB.out; omega), hW.cell c2 (by simp; have := HMB.out; omega), HFR.out.kept (hW.block bf (by have := HBF.out; have := HX.out.lts; omega) (by simp; have := HBF.out; omega))⟩)
    refine wp_region_held_drew (S := (fun w' => w'.cell? ⟨gm, 0, none⟩ = some (.pointer (some ⟨gc, 0, none⟩)) ∧ w'.cell? ⟨gm, 2, none⟩ = some (.slice (some ⟨bf, 0, none⟩) n cf) ∧ FrsAt w' bf M.fs)) (by kernel_rfl) (HRW.out _ (grownBy_drewN w1 1 _)) (fun hHeld => ?_)
    refine wpAnyH_takeD (i := 0) (d := some 11) (v := ?_) rfl (by kernel_rfl) (by kernel_rfl) (by kernel_rfl) (by kernel_rfl) (fun _ _ _ h => h) (Or.inl ⟨by kernel_rfl, ?_⟩) (by assumption) ?_
    rotate_left
    · (intro w hSw; (try dsimp only at hSw); go_simp; try with_reducible rfl)
    (try simp only [Act.put, List.setIfInBounds_toArray, List.set_cons_zero, List.set_cons_succ])
    refine wpAnyH_takeD (i := 1) (d := some 12) (v := ?_) rfl (by kernel_rfl) (by kernel_rfl) (by kernel_rfl) (by kernel_rfl) (fun _ _ _ h => h) (Or.inl ⟨by kernel_rfl, ?_⟩) (by assumption) ?_
    rotate_left
    · (intro w hSw; (try dsimp only at hSw); go_simp; try with_reducible rfl)
    (try simp only [Act.put, List.setIfInBounds_toArray, List.set_cons_zero, List.set_cons_succ])
    refine wpAnyH_takeD (i := 2) (d := some 13) (v := ?_) rfl (by kernel_rfl) (by kernel_rfl) (by kernel_rfl) (by kernel_rfl) (fun _ _ _ h => h) (Or.inl ⟨by kernel_rfl, ?_⟩) (by assumption) ?_
    rotate_left
    · (intro w hSw; (try dsimp only at hSw); go_simp; try with_reducible rfl)
    (try simp only [Act.put, List.setIfInBounds_toArray, List.set_cons_zero, List.set_cons_succ])
    refine wpAnyH_takeD (i := 3) (d := some 14) (v := ?_) rfl (by kernel_rfl) (by kernel_rfl) (by kernel_rfl) (by kernel_rfl) (fun _ _ _ h => h) (Or.inl ⟨by kernel_rfl, ?_⟩) (by assumption) ?_
    rotate_left
    · (intro w hSw; (try dsimp only at hSw); go_simp; try with_reducible rfl)
    (try simp only [Act.put, List.setIfInBounds_toArray, List.set_cons_zero, List.set_cons_succ])
    refine wpAnyH_takeD (i := 4) (d := some 15) (v := ?_) rfl (by kernel_rfl) (by kernel_rfl) (by kernel_rfl) (by kernel_rfl) (fun _ _ _ h => h) (Or.inl ⟨by kernel_rfl, ?_⟩) (by assumption) ?_
    rotate_left
    · (intro w hSw; (try dsimp only at hSw); go_simp; try with_reducible rfl)
    (try simp only [Act.put, List.setIfInBounds_toArray, List.set_cons_zero, List.set_cons_succ])
    refine wpAnyH_takeD (i := 5) (d := some 16) (v := ?_) rfl (by kernel_rfl) (by kernel_rfl) (by kernel_rfl) (by kernel_rfl) (fun _ _ _ h => h) (Or.inl ⟨by kernel_rfl, ?_⟩) (by assumption) ?_
    rotate_left
    · (intro w hSw; (try dsimp only at hSw); go_simp; try with_reducible rfl)
    (try simp only [Act.put, List.setIfInBounds_toArray, List.set_cons_zero, List.set_cons_succ])
    refine wpAnyH_takeD (i := 6) (d := some 17) (v := ?_) rfl (by kernel_rfl) (by kernel_rfl) (by kernel_rfl) (by kernel_rfl) (fun _ _ _ h => h) (Or.inl ⟨by kernel_rfl, ?_⟩) (by assumption) ?_
    rotate_left
    · (intro w hSw; (try dsimp only at hSw); go_simp; try with_reducible rfl)
    (try simp only [Act.put, List.setIfInBounds_toArray, List.set_cons_zero, List.set_cons_succ])
    refine wpAnyH_takeD (i := 7) (d := some 18) (v := ?_) rfl (by kernel_rfl) (by kernel_rfl) (by kernel_rfl) (by kernel_rfl) (fun _ _ _ h => h) (Or.inl ⟨by kernel_rfl, ?_⟩) (by assumption) ?_
    rotate_left
    · (intro w hSw; (try dsimp only at hSw); go_simp; try with_reducible rfl)
    (try simp only [Act.put, List.setIfInBounds_toArray, List.set_cons_zero, List.set_cons_succ])
    refine wpAnyH_takeD (i := 8) (d := some 19) (v := ?_) rfl (by kernel_rfl) (by kernel_rfl) (by kernel_rfl) (by kernel_rfl) (fun _ _ _ h => h) (Or.inl ⟨by kernel_rfl, ?_⟩) (by assumption) ?_
    rotate_left
    · (intro w hSw; (try dsimp only at hSw); go_simp; try with_reducible rfl)
    (try simp only [Act.put, List.setIfInBounds_toArray, List.set_cons_zero, List.set_cons_succ])
    refine wpAnyH_takeD (i := 9) (d := some 20) (v := ?_) rfl (by kernel_rfl) (by kernel_rfl) (by kernel_rfl) (by kernel_rfl) (fun _ _ _ h => h) (Or.inl ⟨by kernel_rfl, ?_⟩) (by assumption) ?_
    rotate_left
    · (intro w hSw; (try dsimp only at hSw); go_simp; try with_reducible rfl)
    (try simp only [Act.put, List.setIfInBounds_toArray, List.set_cons_zero, List.set_cons_succ])
    refine wpAnyH_takeD (i := 10) (d := some 21) (v := ?_) rfl (by kernel_rfl) (by kernel_rfl) (by kernel_rfl) (by kernel_rfl) (fun _ _ _ h => h) (Or.inl ⟨by kernel_rfl, ?_⟩) (by assumption) ?_
    rotate_left
    · (intro w hSw; (try dsimp only at hSw); go_simp; try with_reducible rfl)
    (try simp only [Act.put, List.setIfInBounds_toArray, List.set_cons_zero, List.set_cons_succ])
    refine wpAnyH_takeD (i := 11) (d := some 22) (v := ?_) rfl (by kernel_rfl) (by kernel_rfl) (by kernel_rfl) (by kernel_rfl) (fun _ _ _ h => h) (Or.inl ⟨by kernel_rfl, ?_⟩) (by assumption) ?_
    rotate_left
    · (intro w hSw; (try dsimp only at hSw); go_simp; try with_reducible rfl)
    (try simp only [Act.put, List.setIfInBounds_toArray, List.set_cons_zero, List.set_cons_succ])
    refine wpAnyH_takeD (i := 12) (d := some 23) (v := ?_) rfl (by kernel_rfl) (by kernel_rfl) (by kernel_rfl) (by kernel_rfl) (fun _ _ _ h => h) (Or.inl ⟨by kernel_rfl, ?_⟩) (by assumption) ?_
    rotate_left
    · (intro w hSw; (try dsimp only at hSw); go_simp; try with_reducible rfl)
    (try simp only [Act.put, List.setIfInBounds_toArray, List.set_cons_zero, List.set_cons_succ])
    refine wpAnyH_takeD (i := 13) (d := some 24) (v := ?_) rfl (by kernel_rfl) (by kernel_rfl) (by kernel_rfl) (by kernel_rfl) (fun _ _ _ h => h) (Or.inl ⟨by kernel_rfl, ?_⟩) (by assumption) ?_
    rotate_left
    · (intro w hSw; (try dsimp only at hSw); go_simp; try with_reducible rfl)
    (try simp only [Act.put, List.setIfInBounds_toArray, List.set_cons_zero, List.set_cons_succ])
    refine wpAnyH_takeD (i := 14) (d := some 25) (v := ?_) rfl (by kernel_rfl) (by kernel_rfl) (by kernel_rfl) (by kernel_rfl) (fun _ _ _ h => h) (Or.inl ⟨by kernel_rfl, ?_⟩) (by assumption) ?_
    rotate_left
    · (intro w hSw; (try dsimp only at hSw); go_simp; try with_reducible rfl)
    (try simp only [Act.put, List.setIfInBounds_toArray, List.set_cons_zero, List.set_cons_succ])
    refine wpAnyH_ready (rs := [15, 18]) (by kernel_rfl) (by simp) ?_
    refine AllReadyH.cons rfl (fun K hK => ?_) (AllReadyH.cons rfl (fun K hK => ?_) AllReadyH.nil)
    · go_simp
      refine (Next_any gc n (by omega) _ HX.out.mkr.cod.drew).mono ?_
      rintro e wy ⟨y, rfl, y0, y1, hcod, hg0⟩
      obtain ⟨y, rfl⟩ := Int.eq_ofNat_of_zero_le y0
      have y2 : y < n := by omega
      have hy3 : (y : Int) < (n : Int) := by omega
      obtain ⟨f, hf⟩ : ∃ f, M.fs[y]? = some f := ⟨_, List.getElem?_eq_getElem (by rw [HN.out]; exact y2)⟩
      have HF : Hid (f ∈ M.fs) := Lib.hid (List.mem_of_getElem? hf)
      have hg := grownBy_trans (grownBy_drewN w1 1 (some gc)) hg0
      clear hg0
      have HX3 := Lib.hid (HX.out.grown HL.out hg hcod)
      refine hK.out _ _ (HRW.out _ hg) (fun hHeld => ?_)
      clear hK K y1 hcod
      (try simp only [Act.put, List.setIfInBounds_toArray, List.set_cons_zero, List.set_cons_succ])
      refine wpAnyH_takeD (i := 16) (d := some 27) (v := ?_) rfl (by kernel_rfl) (by kernel_rfl) (by kernel_rfl) (by kernel_rfl) (fun _ _ _ h => h) (Or.inl ⟨by kernel_rfl, ?_⟩) (by assumption) ?_
      rotate_left
      · (intro w hSw; (try dsimp only at hSw); go_simp; try with_reducible rfl)
      (try simp only [Act.put, List.setIfInBounds_toArray, List.set_cons_zero, List.set_cons_succ])
      refine wpAnyH_takeD (i := 17) (d := some 28) (v := .agg #[.string (st f.nm), .int .i64 0, .slice f.pa f.pn f.pc, (.slice f.ba f.bn f.bc)]) rfl (by kernel_rfl) (by kernel_rfl) (by kernel_rfl) (by kernel_rfl) (fun _ _ _ h => h) (Or.inl ⟨by kernel_rfl, ?_⟩) (by assumption) ?_
      · (intro w hSw; obtain ⟨p0, p1, p2, p3⟩ := hSw.2.2 y f hf; go_simp; try with_reducible rfl)
      (try simp only [Act.put, List.setIfInBounds_toArray, List.set_cons_zero, List.set_cons_succ])
      refine wpAnyH_ready (rs := [18]) (by kernel_rfl) (by simp) ?_
      refine AllReadyH.cons rfl (fun K hK => ?_) AllReadyH.nil
      go_simp
      have hg2 := grownBy_trans hg (grownBy_of_below (below_alloc wy (.cells #[.string { data := #[] }, .int .i64 0, .slice none 0 0, .slice none 0 0] 69)) (some gc))
      refine hK.out _ _ (HRW.out _ hg2) (fun hHeld => ?_)
      clear hK K
      (try simp only [Act.put, List.setIfInBounds_toArray, List.set_cons_zero, List.set_cons_succ])
      have hb5 := heap_alloc_new wy (.cells #[.string { data := #[] }, .int .i64 0, .slice none 0 0, .slice none 0 0] 69)
      have HX4 := Lib.hid (HX3.out.below (below_alloc wy (.cells #[.string { data := #[] }, .int .i64 0, .slice none 0 0, .slice none 0 0] 69)))
      have HG5 : Hid (g < wy.heap.size) := Lib.hid HX3.out.lts
      obtain ⟨w5, hw5⟩ : ∃ w5, wy.alloc (.cells #[.string { data := #[] }, .int .i64 0, .slice none 0 0, .slice none 0 0] 69) = w5 := ⟨_, rfl⟩
      obtain ⟨g5, hg5⟩ : ∃ g5, wy.heap.size = g5 := ⟨_, rfl⟩
      rw [hw5] at hb5 HX4 hg2 hHeld ⊢
      rw [hg5] at hb5 HG5 ⊢
      clear hw5 hg5 hg HX3
      obtain ⟨p0, p1, p2, p3⟩ := cells4 hb5
      obtain ⟨jl, s0, s1, s2, s3⟩ := froz4 hb5
      refine wpAnyH_ready (rs := [19]) (by kernel_rfl) (by simp) ?_
      refine AllReadyH.cons rfl (fun K hK => ?_) AllReadyH.nil
      go_simp
      refine hK.out _ _ ⟨cell_set4 (b := g5) (b' := gm) (by have := HG5.out; have := HGM.out; omega) hHeld.1, cell_set4 (b := g5) (b' := gm) (by have := HG5.out; have := HGM.out; omega) hHeld.2.1, hHeld.2.2.kept (other_set4 bf (by have := HG5.out; have := HBF.out; omega))⟩ (fun hHeld => ?_)
      clear hK K
      (try simp only [Act.put, List.setIfInBounds_toArray, List.set_cons_zero, List.set_cons_succ])
      refine wpAnyH_done (by kernel_rfl) ?_ _
      go_wp2_with fail
      go_meet
      exact ⟨g5, f, rfl, HF, Lib.hid ⟨HX4.out.set4 HL.out HGM.out HG5.out HM.out, heap_set4 hb5, HG5.out⟩⟩
    · go_simp
      have hb5 := heap_alloc_new w1 (.cells #[.string { data := #[] }, .int .i64 0, .slice none 0 0, .slice none 0 0] 69)
      have hg1 := grownBy_trans (grownBy_of_below (below_alloc w1 (.cells #[.string { data := #[] }, .int .i64 0, .slice none 0 0, .slice none 0 0] 69)) (some gc)) (grownBy_drewN (w1.alloc (.cells #[.string { data := #[] }, .int .i64 0, .slice none 0 0, .slice none 0 0] 69)) 1 (some gc))
      refine hK.out _ _ (HRW.out _ hg1) (fun hHeld => ?_)
      clear hK K
      (try simp only [Act.put, List.setIfInBounds_toArray, List.set_cons_zero, List.set_cons_succ])
      have HX3 := Lib.hid (HX.out.grown HL.out hg1 ((HX.out.mkr.cod.alloc (.cells #[.string { data := #[] }, .int .i64 0, .slice none 0 0, .slice none 0 0] 69)).drew))
      have HG5 : Hid (g < w1.heap.size) := Lib.hid HX.out.lts
      obtain ⟨w5, hw5⟩ : ∃ w5, (w1.alloc (.cells #[.string { data := #[] }, .int .i64 0, .slice none 0 0, .slice none 0 0] 69)).drew = w5 := ⟨_, rfl⟩
      obtain ⟨g5, hg5⟩ : ∃ g5, w1.heap.size = g5 := ⟨_, rfl⟩
      have hb6 : w5.heap[g5]? = some (.cells #[.string { data := #[] }, .int .i64 0, .slice none 0 0, .slice none 0 0] 69 (0, 0)) := by rw [← hw5, ← hg5]; exact hb5
      clear hb5
      have hb5 := hb6
      clear hb6
      rw [show (w1.alloc (.cells #[.string { data := #[] }, .int .i64 0, .slice none 0 0, .slice none 0 0] 69)).drewN 1 = w5 from hw5] at HX3 hg1
      rw [hw5] at hHeld ⊢
      rw [hg5] at HG5
      (try rw [hg5])
      clear hw5 hg5
      refine wpAnyH_ready (rs := [15]) (by kernel_rfl) (by simp) ?_
      refine AllReadyH.cons rfl (fun K hK => ?_) AllReadyH.nil
      go_simp
      refine (Next_any gc n (by omega) _ HX3.out.mkr.cod).mono ?_
      rintro e wy ⟨y, rfl, y0, y1, hcod, hg0⟩
      obtain ⟨y, rfl⟩ := Int.eq_ofNat_of_zero_le y0
      have y2 : y < n := by omega
      have hy3 : (y : Int) < (n : Int) := by omega
      obtain ⟨f, hf⟩ : ∃ f, M.fs[y]? = some f := ⟨_, List.getElem?_eq_getElem (by rw [HN.out]; exact y2)⟩
      have HF : Hid (f ∈ M.fs) := Lib.hid (List.mem_of_getElem? hf)
      have hg := grownBy_trans hg1 hg0
      have hb6 := (hg0.block g5 (heap_lt hb5) (by simp; have := HG5.out; have := HL.out; omega)).trans hb5
      have HX4 := Lib.hid (HX3.out.grown HL.out hg0 hcod)
      refine hK.out _ _ (HRW.out _ hg) (fun hHeld => ?_)
      clear hK K y1 hcod hg0 hb5
      have hb5 := hb6
      clear hb6
      (try simp only [Act.put, List.setIfInBounds_toArray, List.set_cons_zero, List.set_cons_succ])
      refine wpAnyH_takeD (i := 16) (d := some 27) (v := ?_) rfl (by kernel_rfl) (by kernel_rfl) (by kernel_rfl) (by kernel_rfl) (fun _ _ _ h => h) (Or.inl ⟨by kernel_rfl, ?_⟩) (by assumption) ?_
      rotate_left
      · (intro w hSw; (try dsimp only at hSw); go_simp; try with_reducible rfl)
      (try simp only [Act.put, List.setIfInBounds_toArray, List.set_cons_zero, List.set_cons_succ])
      refine wpAnyH_takeD (i := 17) (d := some 28) (v := .agg #[.string (st f.nm), .int .i64 0, .slice f.pa f.pn f.pc, (.slice f.ba f.bn f.bc)]) rfl (by kernel_rfl) (by kernel_rfl) (by kernel_rfl) (by kernel_rfl) (fun _ _ _ h => h) (Or.inl ⟨by kernel_rfl, ?_⟩) (by assumption) ?_
      · (intro w hSw; obtain ⟨p0, p1, p2, p3⟩ := hSw.2.2 y f hf; go_simp; try with_reducible rfl)
      (try simp only [Act.put, List.setIfInBounds_toArray, List.set_cons_zero, List.set_cons_succ])
      obtain ⟨p0, p1, p2, p3⟩ := cells4 hb5
      obtain ⟨jl, s0, s1, s2, s3⟩ := froz4 hb5
      refine wpAnyH_ready (rs := [19]) (by kernel_rfl) (by simp) ?_
      refine AllReadyH.cons rfl (fun K hK => ?_) AllReadyH.nil
      go_simp
      refine hK.out _ _ ⟨cell_set4 (b := g5) (b' := gm) (by have := HG5.out; have := HGM.out; omega) hHeld.1, cell_set4 (b := g5) (b' := gm) (by have := HG5.out; have := HGM.out; omega) hHeld.2.1, hHeld.2.2.kept (other_set4 bf (by have := HG5.out; have := HBF.out; omega))⟩ (fun hHeld => ?_)
      clear hK K
      (try simp only [Act.put, List.setIfInBounds_toArray, List.set_cons_zero, List.set_cons_succ])
      refine wpAnyH_done (by kernel_rfl) ?_ _
      go_wp2_with fail
      go_meet
      exact ⟨g5, f, rfl, HF, Lib.hid ⟨HX4.out.set4 HL.out HGM.out HG5.out HM.out, heap_set4 hb5, HG5.out⟩⟩
  case rest =>
    obtain ⟨g5, f, rfl, HF, HY⟩ := hcut
    clear HX
    have hpn := (HM.out.fok f HF.out).2
    have HKP : Hid (∀ wx wy : World, ExW w gc gm M g wx ∧ wx.heap[g5]? = some (frow f) ∧ g < g5 → wx.grownBy wy (some gc) → Cod wy gc → ExW w gc gm M g wy ∧ wy.heap[g5]? = some (frow f) ∧ g < g5) := Lib.hid (fun wx wy h hg hc => ⟨h.1.grown HL.out hg hc, (hg.block g5 (heap_lt h.2.1) (by simp; have := HL.out; omega)).trans h.2.1, h.2.2⟩)
    have HC0 : Hid (∀ wx : World, ExW w gc gm M g wx → wx.cell? ⟨gm, 0, none⟩ = some (.pointer (some ⟨gc, 0, none⟩))) := Lib.hid (fun wx h => cell_of_row _ _ 0 _ _ _ h.mkr.row)
    obtain ⟨p0, p1, p2, p3⟩ := cells4 HY.out.2.1
    have c0 := HC0.out _ HY.out.1
    go_wp2_with fail
    refine (Next_any gc 3 (by omega) _ HY.out.1.mkr.cod).mono ?_
    rintro e w2 ⟨x, rfl, x0, x1, hcod, hg⟩
    have HY2 := Lib.hid (HKP.out _ _ HY.out hg hcod)
    clear p0 p1 p2 p3 c0 hcod hg HY x0 x1
    clear wc
    go_upto_region 4 with fail
    obtain ⟨bv, hbv⟩ : ∃ b, (x == 2) = b := ⟨_, rfl⟩
    rw [hbv]
    clear hbv
    go_cut [46] from 38 to 46 (fun v46 wx => ∃ b46, v46 = .bool b46 ∧ Hid (ExW w gc gm M g wx ∧ wx.heap[g5]? = some (frow f) ∧ g < g5))
    case first =>
      cases bv
      · go_wp2_with fail
        go_meet
        exact ⟨false, rfl, HY2⟩
      · have c0 := HC0.out _ HY2.out.1
        go_wp2_with fail
        refine (Next_any gc 8 (by omega) _ HY2.out.1.mkr.cod).mono ?_
        rintro e w3 ⟨y, rfl, y0, y1, hcod, hg⟩
        have HY3 := Lib.hid (HKP.out _ _ HY2.out hg hcod)
        clear hcod hg c0
        obtain ⟨b7, hb7⟩ : ∃ b, (y == 7) = b := ⟨_, rfl⟩
        go_wp2_with fail
        go_meet
        exact ⟨b7, by rw [← hb7], HY3⟩
    case rest =>
    clear HY2
    clear w2
    obtain ⟨b46, rfl, HY2⟩ := hcut
    go_upto_if 46 with fail
    go_cut [6] from 47 to 51 (fun v6 wx => ∃ n : Nat, v6 = .int .i64 n ∧ n ≤ 2 ∧ Hid (ExW w gc gm M g wx ∧ wx.heap[g5]? = some (frow f) ∧ g < g5))
    case first =>
      cases b46
      · go_wp2_with fail
        go_meet
        exact ⟨f.pn, rfl, hpn, HY2⟩
      · have c0 := HC0.out _ HY2.out.1
        go_wp2_with fail
        refine (Next_any gc 3 (by omega) _ HY2.out.1.mkr.cod).mono ?_
        rintro e w4 ⟨z, rfl, z0, z1, hcod, hg⟩
        have HY4 := Lib.hid (HKP.out _ _ HY2.out hg hcod)
        clear hcod hg c0
        obtain ⟨z, rfl⟩ := Int.eq_ofNat_of_zero_le z0
        go_wp2_with fail
        go_meet
        exact ⟨z, rfl, by omega, HY4⟩
    case rest =>
      clear HY2
      obtain ⟨n, rfl, hn2, HY⟩ := hcut
      obtain ⟨i0, hi0, hz0, hz1, hz2⟩ := info_parts Tryd.infoExpr
      have HI := Lib.hid hi0
      have HZ0 := Lib.hid hz0
      have HZ1 := Lib.hid hz1
      have HZ2 := Lib.hid hz2
      clear hi0 hz0 hz1 hz2
      go_upto_block 0 with fail
      go_wp2_with fail
      go_loopw [8, 9] (fun v8 v9 wr => ∃ (i : Nat) (F : Fo) (xs : List Value), v9 = .int .i64 i ∧ i ≤ n ∧ Hid (F.len = i ∧ goodF d F ∧ (ExW w gc gm M g wr ∧ wr.heap[g5]? = some (frow f) ∧ g < g5) ∧ wr.ownsRow (g5 + 1) 97 6 v8 i xs ∧ FoAt wr (fun b => g5 < b ∧ some b ≠ v8.ownBlock) F xs)) (fun _ v9 _ => n - (intOf v9).toNat)
      case atStart => exact ⟨0, .nil, [], rfl, by omega, Lib.hid ⟨rfl, goodF.nil d, HY.out, World.ownsRow_nil _ _ _ _, rfl⟩⟩
      case round =>
        clear HY
        obtain ⟨i, F, xs, rfl, hi, HR⟩ := hrel
        by_cases hlt : i < n
        · go_wp2_with fail
          refine (HEX.out _ HR.out.2.2.1.1.mkr).mono ?_
          rintro e w2 ⟨h, ar, sl, rfl, ha, hE, hcod, hg⟩
          have HA := Lib.hid ha
          have HE := Lib.hid hE
          have HW2 := Lib.hid (HKP.out _ _ HR.out.2.2.1 hg hcod)
          have HG := Lib.hid hg
          obtain ⟨aa, ca, rws, hsl, _⟩ := ha
          clear hE hcod hg
          rw [hsl] at HA ⊢
          clear hsl
          have HOA := Lib.hid ((own_grown HR.out.2.2.2.1 HG.out (by have := HL.out; have := HR.out.2.2.1.2.2; omega)).alloc (.cells #[.int .i64 h.k, .int .i64 h.op, .int .i64 h.v, .int .i64 h.ln, .string (st h.nm), .slice aa ar.len ca] 97))
          have HWA := Lib.hid (HW2.out.1.below (below_alloc w2 (.cells #[.int .i64 h.k, .int .i64 h.op, .int .i64 h.v, .int .i64 h.ln, .string (st h.nm), .slice aa ar.len ca] 97)))
          have hsb : g5 + 1 ≤ w2.heap.size + 1 := by have := heap_lt HW2.out.2.1; omega
          go_wp2_with (at_builtin; refine wpList_append_lies _ rfl _ _ _ rfl (g5 + 1) 97 i0 _ 6 72 Tryd.underlying82 HI.out HZ0.out HZ1.out HZ2.out rfl (by omega) _ _ _ rfl HOA.out ⟨w2.heap.size, 0, none⟩ 1 1 (hdc h (.slice aa ar.len ca)) rfl rfl (World.news_of_block (cs := (hdc h (.slice aa ar.len ca)).toArray) (t := 97) (fr := (0, 0)) (heap_alloc_new w2 _)) (by simp [Value.oneCell']) (by omega) (by unfold maxLen; omega) (by omega) (by simp; omega) _ rfl ?_; intro g9 c9 w9 hown9 hgrow9 hor9 hlt9; have HO9 := Lib.hid hown9; have HG9 := Lib.hid hgrow9; have HR9 := Lib.hid hor9; clear hown9 hgrow9 hor9 hlt9)
          go_roundw
          case rel =>
            refine ⟨i + 1, F.app (one1 h ar), xs ++ hdc h (.slice aa ar.len ca), by go_num, by omega, Lib.hid ⟨by rw [Fo.len_app, HR.out.1]; rfl, goodF.snoc HR.out.2.1 HE.out, ?_, HO9.out, ?_⟩⟩
            · have hg59 : w9.heap[g5]? = some (frow f) := by
                rw [HG9.out.block g5 (by have := heap_lt HW2.out.2.1; simp; omega) (fun e => by have := (HR.out.2.2.2.1.lt g5 e.symm).1; omega), Below.heap_alloc w2 _ g5 (heap_lt HW2.out.2.1)]
                exact HW2.out.2.1
              refine ⟨?_, hg59, HW2.out.2.2⟩
              exact HWA.out.own HG9.out (fun k hk => by have := (HR.out.2.2.2.1.lt k hk).1; have := HW2.out.2.2; omega) HM.out HL.out
            · exact fo_push HR.out.2.2.2.2 HR.out.2.2.2.1 HG.out (by have := HL.out; have := HW2.out.2.2; omega) (heap_lt HR.out.2.2.1.2.1) HA.out HG9.out HR9.out
          case measure => simp [intOf]; omega
        · obtain rfl : i = n := by omega
          have hlen := HR.out.1
          obtain ⟨aF, cF, rF, hvF, hF1, hF2, hF3, hF4, hF5⟩ := ArgsAt.of_own (e := 97) (size := 6) (P := fun b => g < b) (F := F) (by rw [HR.out.1]; exact HR.out.2.2.2.1) (HR.out.2.2.2.2.keep (fun b hb _ => ⟨rfl, by have := HR.out.2.2.1.2.2; omega⟩) (Nat.le_refl _)) (fun b hb => by have := (HR.out.2.2.2.1.lt b hb).1; have := HR.out.2.2.1.2.2; omega)
          have HAF : Hid (ArgsAt wr (fun b => g < b) F u8) := Lib.hid ⟨aF, cF, rF, hvF, hF1, hF2, hF3, hF4, hF5⟩
          clear hF1 hF3 hF4 hF5
          subst hvF
          have HOK := Lib.hid (HM.out.fok f HF.out).1
          have hiL : i = F.len := hlen.symm
          clear hlen
          subst hiL
          cases bv
          · obtain ⟨p0, p1, p2, p3⟩ := cells4 HR.out.2.2.1.2.1
            obtain ⟨jl, f0, f1, f2, f3, f4, f5, r0, r1, r2, r3, r4, r5⟩ := HR.out.2.2.1.1.cells
            go_wp2_with fail
            obtain ⟨q0, q1, q2, q3, q4, q5, HFN⟩ := HR.out.2.2.1.1.fin HL.out (hd := ⟨9, 0, 0, 0, f.nm⟩) (ar := F) (sl := (.slice aF F.len cF)) (d := d + 1) HAF.out (goodE.up (.inl ⟨rfl, rfl, .inr (.inr (.inr (.inr (.inr (.inl ⟨rfl, HOK.out, by omega⟩)))))⟩) rfl HR.out.2.1 (by omega)) _ rfl
            refine bodyPost_ret (v := exv ⟨9, 0, 0, 0, f.nm⟩ (.slice aF F.len cF)) (by simp [results, Tryd.results65, go_sem, q0, q1, q2, q3, q4, q5]) rfl ?_
            exact ⟨HFN.out, _, _, rfl, .inl rfl⟩
          · obtain ⟨p0, p1, p2, p3⟩ := cells4 HR.out.2.2.1.2.1
            have c0 := HC0.out _ HR.out.2.2.1.1
            have hgx : ∀ W, W = wr.alloc (.cells #[.int .i64 11, .int .i64 0, .int .i64 0, .int .i64 0, .string (st f.nm), .slice none 0 0] 97) → Hid (ExW w gc gm M g W ∧ W.heap[wr.heap.size]? = some (.cells #[.int .i64 11, .int .i64 0, .int .i64 0, .int .i64 0, .string (st f.nm), .slice none 0 0] 97 (0, 0)) ∧ W.ownsRow (g5 + 1) 97 6 (.slice aF F.len cF) F.len xs ∧ FoAt W (fun b => g5 < b ∧ b ≠ wr.heap.size) F xs ∧ g5 < wr.heap.size) := fun W hW => by
              subst hW
              exact Lib.hid ⟨HR.out.2.2.1.1.below (below_alloc _ _), heap_alloc_new _ _, HR.out.2.2.2.1.alloc _, HR.out.2.2.2.2.keep (fun b hb hlt => ⟨Below.heap_alloc wr _ b hlt, hb.1, by omega⟩) (by simp), heap_lt HR.out.2.2.1.2.1⟩
            go_upto_region 14 with fail
            obtain ⟨wA, hwA⟩ : ∃ wA, wr.alloc (.cells #[.int .i64 11, .int .i64 0, .int .i64 0, .int .i64 0, .string (st f.nm), .slice none 0 0] 97) = wA := ⟨_, rfl⟩
            have HA := hgx wA hwA.symm
            rw [hwA]
            obtain ⟨gt, hgt⟩ : ∃ gt, wr.heap.size = gt := ⟨_, rfl⟩
            rw [hgt] at HA ⊢
            have HOB : Hid (∀ k, (Value.slice aF F.len cF).ownBlock = some k → k < gt) := Lib.hid (fun k hk => by rw [← hgt]; exact (HR.out.2.2.2.1.lt k hk).2)
            clear hgx hwA hgt p0 p1 p2 p3 c0
            have HGF := Lib.hid HR.out.2.1
            have HG5 : Hid (g < g5) := Lib.hid HR.out.2.2.1.2.2
            clear HR HAF
            clear wr
            have c0 := HC0.out _ HA.out.1
            go_wp2_with fail
            refine (Next_any gc 4 (by omega) _ HA.out.1.mkr.cod).mono ?_
            rintro e wB ⟨x, rfl, x0, x1, hcod, hg⟩
            have HB : Hid (ExW w gc gm M g wB ∧ wB.heap[gt]? = some (.cells #[.int .i64 11, .int .i64 0, .int .i64 0, .int .i64 0, .string (st f.nm), .slice none 0 0] 97 (0, 0)) ∧ wB.ownsRow (g5 + 1) 97 6 (.slice aF F.len cF) F.len xs ∧ FoAt wB (fun b => g5 < b ∧ b ≠ gt) F xs ∧ g5 < gt) := Lib.hid ⟨HA.out.1.grown HL.out hg hcod, (hg.block gt (heap_lt HA.out.2.1) (by simp; have := HL.out; have := HA.out.2.2.2.2; have := HG5.out; omega)).trans HA.out.2.1, own_grown HA.out.2.2.1 hg (by have := HL.out; have := HG5.out; omega), HA.out.2.2.2.1.keep (fun b hb hlt => ⟨hg.block b hlt (by simp; have := HL.out; have := HG5.out; omega), hb⟩) hg.size, HA.out.2.2.2.2⟩
            clear hcod hg c0 x0 x1 HA
            clear wA
            go_upto_if 78 with fail
            obtain ⟨b3, hb3⟩ : ∃ b, (x == 3) = b := ⟨_, rfl⟩
            rw [hb3]
            clear hb3
            go_cut [] from 79 to 82 (fun wx => ∃ (hd : Hd) (ar : Fo) (sa : Option Addr) (sc : Nat), Hid (goodE d hd ar ∧ ArgsAt wx (fun b => g5 < b ∧ b ≠ gt) ar (.slice sa ar.len sc) ∧ ExW w gc gm M g wx ∧ wx.heap[gt]? = some (.cells #[.int .i64 hd.k, .int .i64 hd.op, .int .i64 hd.v, .int .i64 hd.ln, .string (st hd.nm), .slice sa ar.len sc] 97 (0, 0)) ∧ wx.ownsRow (g5 + 1) 97 6 (.slice aF F.len cF) F.len xs ∧ FoAt wx (fun b => g5 < b ∧ b ≠ gt) F xs))
            case first =>
              cases b3
              · go_wp2_with fail
                go_meet
                exact ⟨⟨11, 0, 0, 0, f.nm⟩, .nil, none, 0, Lib.hid ⟨goodE.leaf (.inl ⟨rfl, rfl, .inr (.inr (.inl ⟨rfl, HOK.out, rfl⟩))⟩) rfl rfl (.inr (.inr (.inr rfl))) d, ArgsAt.nil _ _, HB.out.1, HB.out.2.1, HB.out.2.2.1, HB.out.2.2.2.1⟩⟩
              · go_wp2_with fail
                refine (HEX.out _ HB.out.1.mkr).mono ?_
                rintro e wC ⟨h, ar, sl, rfl, ha, hE, hcod, hg⟩
                have HA := Lib.hid ha
                have HE := Lib.hid hE
                obtain ⟨aa, ca, rws, hsl, _⟩ := ha
                rw [hsl] at HA ⊢
                have hsz := hg.size
                have hgtB := heap_lt HB.out.2.1
                have HC : Hid (ExW w gc gm M g wC ∧ wC.heap[gt]? = some (.cells #[.int .i64 11, .int .i64 0, .int .i64 0, .int .i64 0, .string (st f.nm), .slice none 0 0] 97 (0, 0)) ∧ wC.ownsRow (g5 + 1) 97 6 (.slice aF F.len cF) F.len xs ∧ FoAt wC (fun b => g5 < b ∧ b ≠ gt) F xs) := Lib.hid ⟨HB.out.1.grown HL.out hg hcod, (hg.block gt hgtB (by simp; have := HL.out; have := HB.out.2.2.2.2; have := HG5.out; omega)).trans HB.out.2.1, own_grown HB.out.2.2.1 hg (by have := HL.out; have := HG5.out; omega), HB.out.2.2.2.1.keep (fun b hb hlt => ⟨hg.block b hlt (by simp; have := HL.out; have := HG5.out; omega), hb⟩) hg.size⟩
                have HLT : Hid (gt < wB.heap.size ∧ g < gt ∧ g5 < gt) := Lib.hid ⟨hgtB, by have := HG5.out; have := HB.out.2.2.2.2; omega, HB.out.2.2.2.2⟩
                clear hsl hE hcod hg hsz hgtB
                obtain ⟨p0, p1, p2, p3, p4, p5⟩ := cells6 HC.out.2.1
                have s0 := frozen_of_row _ gt 0 _ _ HC.out.2.1
                have s1 := frozen_of_row _ gt 1 _ _ HC.out.2.1
                have s2 := frozen_of_row _ gt 2 _ _ HC.out.2.1
                have s3 := frozen_of_row _ gt 3 _ _ HC.out.2.1
                have s4 := frozen_of_row _ gt 4 _ _ HC.out.2.1
                have s5 := frozen_of_row _ gt 5 _ _ HC.out.2.1
                have jl := heap_lt HC.out.2.1
                go_wp2_with fail
                go_meet
                refine ⟨h, ar, aa, ca, Lib.hid ⟨HE.out, HA.out.keep (fun b hb _ => ⟨other_set6 b ?_, ?_, ?_⟩) ?_, HC.out.1.set6 HLT.out.2.1 HM.out, heap_set6 HC.out.2.1, HC.out.2.2.1.kept (grownBy_set6 wC gt _ _ _ _ _ _) ?_, HC.out.2.2.2.keep (fun b hb _ => ⟨other_set6 b hb.2, hb⟩) ?_⟩⟩
                · have := HLT.out; omega
                · have := HLT.out; omega
                · have := HLT.out; omega
                · rw [size_set6]; exact Nat.le_refl _
                · cases hq : (Value.slice aF F.len cF).ownBlock with
                  | none => exact .inl rfl
                  | some q => exact .inr (by simp; have := HOB.out q hq; omega)
                · rw [size_set6]; exact Nat.le_refl _
            case rest =>
              obtain ⟨hd, ar, sa, sc, HC⟩ := hcut
              have HLT : Hid (g < gt ∧ g5 < gt) := Lib.hid ⟨by have := HG5.out; have := HB.out.2.2.2.2; omega, HB.out.2.2.2.2⟩
              clear HB
              clear wB
              obtain ⟨p0, p1, p2, p3, p4, p5⟩ := cells6 HC.out.2.2.2.1
              obtain ⟨jl, f0, f1, f2, f3, f4, f5, r0, r1, r2, r3, r4, r5⟩ := HC.out.2.2.1.cells
              have HAF : Hid (ArgsAt wc (fun b => g < b) F (.slice aF F.len cF)) := Lib.hid (ArgsAt.of_own (e := 97) (size := 6) HC.out.2.2.2.2.1 (HC.out.2.2.2.2.2.keep (fun b hb _ => ⟨rfl, by have := HG5.out; omega⟩) (Nat.le_refl _)) (fun b hb => by have := (HC.out.2.2.2.2.1.lt b hb).1; have := HG5.out; omega))
              by_cases h13 : hd.k = 13
              · have d13 : (hd.k == 13) = true := by rw [h13]; rfl
                have HNM := Lib.hid (HC.out.1.1.nm13 h13)
                clear h13
                go_wp2_with fail
                obtain ⟨q0, q1, q2, q3, q4, q5, HFN⟩ := HC.out.2.2.1.fin HL.out (hd := ⟨9, 0, 0, 0, hd.nm⟩) (ar := F) (sl := (.slice aF F.len cF)) (d := d + 1) HAF.out (goodE.up (.inl ⟨rfl, rfl, .inr (.inr (.inr (.inr (.inr (.inl ⟨rfl, HNM.out, by omega⟩)))))⟩) rfl HGF.out (by omega)) _ rfl
                refine bodyPost_ret (v := exv ⟨9, 0, 0, 0, hd.nm⟩ (.slice aF F.len cF)) (by simp [results, Tryd.results65, go_sem, q0, q1, q2, q3, q4, q5]) rfl ?_
                exact ⟨HFN.out, _, _, rfl, .inl rfl⟩
              · have d13 : (hd.k == 13) = false := by rw [beq_eq_false_iff_ne]; exact h13
                have H13 := Lib.hid h13
                clear h13
                have hb1 := below_alloc wc (.cells #[.int .i64 hd.k, .int .i64 hd.op, .int .i64 hd.v, .int .i64 hd.ln, .string (st hd.nm), .slice sa ar.len sc] 97)
                have HOW := Lib.hid (own_one wc #[.int .i64 hd.k, .int .i64 hd.op, .int .i64 hd.v, .int .i64 hd.ln, .string (st hd.nm), .slice sa ar.len sc] (g5 + 1) 97 rfl (by have := heap_lt HC.out.2.2.2.1; have := HLT.out; omega))
                have HX1 := Lib.hid (HC.out.2.2.1.below hb1)
                have HTR : Hid (FoAt (wc.alloc (.cells #[.int .i64 hd.k, .int .i64 hd.op, .int .i64 hd.v, .int .i64 hd.ln, .string (st hd.nm), .slice sa ar.len sc] 97)) (fun b => g5 < b ∧ b < wc.heap.size) (.cons hd ar F) (hdc hd (.slice sa ar.len sc) ++ xs)) := Lib.hid (FoAt.app (G := F) (ArgsAt.one (HC.out.2.1.keep (fun b hb hlt => ⟨Below.heap_alloc wc _ b hlt, hb.1, hlt⟩) (by simp))) (HC.out.2.2.2.2.2.keep (fun b hb hlt => ⟨Below.heap_alloc wc _ b hlt, hb.1, hlt⟩) (by simp)))
                obtain ⟨_, _, e1, hxl, hfc, hcm, hcel, _⟩ := Cells.of_own HC.out.2.2.2.2.1
                injection e1 with e1 e2 e3
                subst e1 e3
                have HXL := Lib.hid hxl
                have HNI := Lib.hid (own_nil HC.out.2.2.2.2.1)
                have HCL := Lib.hid (hcel.below hb1)
                have HOC := Lib.hid (FoAt.oneCell HC.out.2.2.2.2.2)
                clear hb1 hcel hxl e2
                unfold maxLen at hcm
                have hgl : g5 + 1 ≤ wc.heap.size + 1 := by have := heap_lt HC.out.2.2.2.1; have := HLT.out; omega
                go_wp2_with (at_builtin; refine wpList_append_src rfl _ _ _ rfl (g5 + 1) 97 i0 _ 6 72 Tryd.underlying82 HI.out HZ0.out HZ1.out HZ2.out rfl (by omega) _ _ _ rfl HOW.out _ _ _ xs rfl hfc HNI.out HXL.out HCL.out HOC.out (by unfold maxLen; omega) (by omega) (by simp; omega) ?_; intro v' w9 hown9 hgrow9; obtain ⟨a9, c9, rfl, _⟩ := Cells.of_own hown9; have HO9 := Lib.hid hown9; have HG9 := Lib.hid hgrow9; clear hown9 hgrow9; have HX9 := Lib.hid (HX1.out.own HG9.out (fun k hk => by have := (HOW.out.lt k hk).1; have := HG5.out; omega) HM.out HL.out); obtain ⟨jl, f0, f1, f2, f3, f4, f5, r0, r1, r2, r3, r4, r5⟩ := HX9.out.cells)
                have e9 : 1 + F.len = (Fo.cons hd ar F).len := by simp only [Fo.len]; omega
                have HA9 : Hid (ArgsAt w9 (fun b => g < b) (.cons hd ar F) (.slice a9 (1 + F.len) c9)) := Lib.hid (by
                  have h9 := HO9.out
                  rw [e9] at h9 ⊢
                  refine ArgsAt.of_own (e := 97) (size := 6) h9 (HTR.out.keep (fun b hb hlt => ⟨HG9.out.block b hlt (by show some b ≠ some wc.heap.size; simp; omega), by have := HG5.out; omega⟩) HG9.out.size) (fun b hb => by have := (h9.lt b hb).1; have := HG5.out; omega))
                obtain ⟨q0, q1, q2, q3, q4, q5, HFN⟩ := HX9.out.fin HL.out (hd := ⟨10, 0, 0, 0, []⟩) (ar := (.cons hd ar F)) (sl := (.slice a9 (1 + F.len) c9)) (d := d + 1) HA9.out (goodE.up (.inl ⟨rfl, rfl, .inr (.inr (.inr (.inr (.inr (.inr ⟨rfl, rfl, hd, ar, F, rfl, H13.out, by omega⟩)))))⟩) rfl (goodF.cons HGF.out HC.out.1) (by simp only [Fo.len]; omega)) _ rfl
                refine bodyPost_ret (v := exv ⟨10, 0, 0, 0, []⟩ (.slice a9 (1 + F.len) c9)) (by simp [results, Tryd.results65, go_sem, q0, q1, q2, q3, q4, q5]) rfl ?_
                exact ⟨HFN.out, _, _, rfl, .inr rfl⟩
end Go.Proofs.YthcagbplolcbpaaDoor
