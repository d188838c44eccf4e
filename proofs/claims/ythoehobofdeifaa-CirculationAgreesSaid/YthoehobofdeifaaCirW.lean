/-
  WORDS on what circulation.search is made of: rows of values, arcs, steps; what a call leaves as it was. No walk. (Filled in from a template of this repo.)
-/
import Derived.Test.YthoehobofdeifaaNet
import Derived.Test.YthoehobofdeifaaWords
import Derived.Test.YthoehobofdeifaaDraw
import Derived.Laws.OwnMore
namespace Go.Proofs.Ythoehobofdeifaa
open Go.ChangeShapes Go.WideShapes Go.ChangeAt Go.RowKit

/-- n values in one array -/
def vrow (n : Nat) (F : Nat → Value) : Array Value := ((List.range n).map F).toArray
theorem vrow_size (n : Nat) (F : Nat → Value) : (vrow n F).size = n := by simp [vrow]
theorem vrow_get (n : Nat) (F : Nat → Value) (j : Nat) (h : j < n) : (vrow n F)[j]? = some (F j) := by simp [vrow, h]
theorem vrow_set (n : Nat) (F G : Nat → Value) (i : Nat) (v : Value) (hi : G i = v) (hg : ∀ j, j < n → j ≠ i → G j = F j) : (vrow n F).setIfInBounds i v = vrow n G := by
  apply Array.ext_getElem?
  intro j
  rw [Array.getElem?_setIfInBounds]
  by_cases hj : j < n
  · by_cases e : i = j
    · subst e
      rw [if_pos rfl, vrow_get n G i hj, hi, if_pos (by simpa [vrow_size] using hj)]
    · rw [if_neg e, vrow_get n F j hj, vrow_get n G j hj, hg j hj (fun x => e x.symm)]
  · have h1 : (vrow n F)[j]? = none := by simp [vrow, hj]
    have h2 : (vrow n G)[j]? = none := by simp [vrow, hj]
    rw [h1, h2]
    split
    · simp [vrow_size]; omega
    · rfl
theorem vrow_congr (n : Nat) (F G : Nat → Value) (h : ∀ j, j < n → F j = G j) : vrow n F = vrow n G := by
  unfold vrow
  congr 1
  exact List.map_congr_left fun j hj => h j (by simpa using hj)
/-- block b is n values of type t, none frozen -/
def VRow (w : World) (b : Nat) (t : TypeId) (n : Nat) (F : Nat → Value) : Prop := w.heap[b]? = some (.cells (vrow n F) t (0, 0))
section
variable {w w' : World} {b : Nat} {t : TypeId} {n : Nat} {F : Nat → Value}
theorem VRow.lt (h : VRow w b t n F) : b < w.heap.size := (Array.getElem?_eq_some_iff.1 h).1
theorem VRow.cell (h : VRow w b t n F) (j : Nat) (hj : j < n) : w.cell? ⟨b, j, none⟩ = some (F j) := by
  rw [cell_of_row w b j _ t _ h, vrow_get n F j hj]
theorem VRow.frozen (h : VRow w b t n F) (j : Nat) : w.frozen? ⟨b, j, none⟩ = false := frozen_of_row w b j _ t h
theorem VRow.set (h : VRow w b t n F) (i : Nat) (v : Value) (G : Nat → Value) (hi : G i = v) (hg : ∀ j, j < n → j ≠ i → G j = F j) : VRow (w.setCell ⟨b, i, none⟩ v) b t n G := by
  have := heap_setCell_same w b i _ t v h
  rw [vrow_set n F G i v hi hg] at this
  exact this
theorem VRow.congr (h : VRow w b t n F) (G : Nat → Value) (hg : ∀ j, j < n → F j = G j) : VRow w b t n G := by
  unfold VRow; rw [← vrow_congr n F G hg]; exact h
theorem VRow.keep (h : VRow w b t n F) (hk : w'.heap[b]? = w.heap[b]?) : VRow w' b t n F := hk.trans h
theorem VRow.below (h : VRow w b t n F) {B : Nat} (hb : Below B w w') (hB : b < B) : VRow w' b t n F := h.keep (hb.block b hB)
end
theorem VRow.new (w : World) (t : TypeId) (n : Nat) (F : Nat → Value) {b : Nat} (hb : b = w.heap.size) : VRow (w.alloc (.cells (vrow n F) t)) b t n F := by subst hb; exact heap_alloc_new w _
theorem VRow.alloc {w : World} {b : Nat} {t : TypeId} {n : Nat} {F : Nat → Value} (h : VRow w b t n F) (o : Obj) : VRow (w.alloc o) b t n F := h.keep (Below.heap_alloc w o b h.lt)
theorem VRow.ne {w : World} {b b' : Nat} {t t' : TypeId} {n n' : Nat} {F F' : Nat → Value} (h : VRow w b t n F) (h' : VRow w b' t' n' F') (hne : t ≠ t') : b ≠ b' := by
  rintro rfl
  unfold VRow at h h'
  rw [h] at h'
  injection h' with h'
  injection h' with _ ht
  exact hne ht
/-- integers -/
abbrev IRow (w : World) (b n : Nat) (f : Nat → Int) : Prop := VRow w b 3 n fun i => .int .i64 (f i)
/-- bools -/
abbrev BRow (w : World) (b n : Nat) (z : Nat → Bool) : Prop := VRow w b 4 n fun i => .bool (z i)
/-- the cells of steps -/
def stf (s : Nat → Sp) (j : Nat) : Value := if j % 2 = 0 then .int .i64 ((s (j / 2)).i : Int) else .bool (!(s (j / 2)).fw)
abbrev SRow (w : World) (b n : Nat) (s : Nat → Sp) : Prop := VRow w b 75 (n * 2) (stf s)
theorem stf_0 (s : Nat → Sp) (k : Nat) : stf s (k * 2) = .int .i64 ((s k).i : Int) := by
  unfold stf; rw [if_pos (by omega), Nat.mul_div_cancel _ (by omega)]
theorem stf_1 (s : Nat → Sp) (k : Nat) : stf s (k * 2 + 1) = .bool (!(s k).fw) := by
  unfold stf; rw [if_neg (by omega), show (k * 2 + 1) / 2 = k by omega]
theorem SRow.cells {w : World} {b n : Nat} {s : Nat → Sp} (h : SRow w b n s) (k : Nat) (hk : k < n) :
    w.cell? ⟨b, k * 2, none⟩ = some (.int .i64 ((s k).i : Int)) ∧ w.cell? ⟨b, k * 2 + 1, none⟩ = some (.bool (!(s k).fw)) := by
  refine ⟨?_, ?_⟩
  · rw [VRow.cell h (k * 2) (by omega), stf_0]
  · rw [VRow.cell h (k * 2 + 1) (by omega), stf_1]
/-- a step in a variable, or as an argument -/
abbrev stv (s : Sp) : List Value := [.int .i64 (s.i : Int), .bool (!s.fw)]
/-- the cells of a list of steps -/
def stvs (l : List Sp) : List Value := l.flatMap stv
theorem stvs_len (l : List Sp) : (stvs l).length = l.length * 2 := by
  induction l with
  | nil => rfl
  | cons s l ih => unfold stvs at ih ⊢; rw [List.flatMap_cons, List.length_append, ih]; show 2 + _ = (l.length + 1) * 2; omega
theorem stvs_get (l : List Sp) (j : Nat) (s : Sp) (h : l[j]? = some s) : (stvs l)[j * 2]? = some (.int .i64 (s.i : Int)) ∧ (stvs l)[j * 2 + 1]? = some (.bool (!s.fw)) := by
  induction l generalizing j with
  | nil => simp at h
  | cons x l ih =>
    cases j with
    | zero =>
      simp at h
      subst h
      exact ⟨rfl, rfl⟩
    | succ j =>
      have := ih j (by simpa using h)
      have e1 : (j + 1) * 2 = j * 2 + 1 + 1 := by omega
      rw [e1]
      exact this
theorem stvs_append (l k : List Sp) : stvs (l ++ k) = stvs l ++ stvs k := by unfold stvs; simp
theorem stvs_one (l : List Sp) : ∀ u ∈ stvs l, u.oneCell' = true := by
  intro u hu
  unfold stvs at hu
  rw [List.mem_flatMap] at hu
  obtain ⟨s, _, hs⟩ := hu
  simp at hs
  rcases hs with rfl | rfl <;> rfl
/-- a slice of steps reads as l -/
def Stps (w : World) (a : Option Addr) (l : List Sp) : Prop := ∀ j s, l[j]? = some s → ∃ b off, a = some ⟨b, off, none⟩ ∧ b < w.heap.size ∧
  w.cell? ⟨b, off + j * 2, none⟩ = some (.int .i64 (s.i : Int)) ∧ w.cell? ⟨b, off + j * 2 + 1, none⟩ = some (.bool (!s.fw))
theorem Stps.of_own {w : World} {base n e : Nat} {v : Value} {l : List Sp} (h : w.ownsRow base e 2 v n (stvs l)) :
    ∃ a cap, v = .slice a n cap ∧ l.length = n ∧ n ≤ cap ∧ cap ≤ maxLen ∧ Stps w a l ∧ ∀ x, a = some x → base ≤ x.block := by
  obtain ⟨a, cap, rfl, h1, h2, h3, h4, h5⟩ := Cells.of_own h
  rw [stvs_len] at h1
  refine ⟨a, cap, rfl, by omega, h2, h3, fun j s hj => ?_, h5⟩
  obtain ⟨g1, g2⟩ := stvs_get l j s hj
  obtain ⟨b, off, e1, hb, hc⟩ := h4 (fun e => by rw [e] at g1; simp at g1)
  exact ⟨b, off, e1, hb, hc _ _ g1, by rw [Nat.add_assoc]; exact hc _ _ g2⟩
/-- what a call leaves as it was: all blocks but those of X, and what is new -/
structure Kp (X : List Nat) (w w' : World) : Prop where
  os : w'.os = w.os
  tape : w'.tape = w.tape
  output : w'.output = w.output
  size : w.heap.size ≤ w'.heap.size
  block : ∀ k, k < w.heap.size → k ∉ X → w'.heap[k]? = w.heap[k]?
theorem Kp.refl (X : List Nat) (w : World) : Kp X w w := ⟨rfl, rfl, rfl, Nat.le_refl _, fun _ _ _ => rfl⟩
theorem Kp.trans {X : List Nat} {a b c : World} (h : Kp X a b) (k : Kp X b c) : Kp X a c :=
  ⟨k.os.trans h.os, k.tape.trans h.tape, k.output.trans h.output, Nat.le_trans h.size k.size, fun i hi hn => (k.block i (by have := h.size; omega) hn).trans (h.block i hi hn)⟩
theorem Kp.mono {X Y : List Nat} {a b : World} (h : Kp X a b) (hs : ∀ x ∈ X, x ∈ Y) : Kp Y a b :=
  ⟨h.os, h.tape, h.output, h.size, fun i hi hn => h.block i hi (fun hx => hn (hs i hx))⟩
/-- blocks that are new do not count -/
theorem Kp.new {X Y : List Nat} {a b c : World} (h : Kp X a b) (k : Kp Y b c) (hs : ∀ y ∈ Y, y ∈ X ∨ a.heap.size ≤ y) : Kp X a c :=
  ⟨k.os.trans h.os, k.tape.trans h.tape, k.output.trans h.output, Nat.le_trans h.size k.size, fun i hi hn =>
    (k.block i (by have := h.size; omega) (fun hy => by rcases hs i hy with e | e; exact hn e; omega)).trans (h.block i hi hn)⟩
theorem Kp.of_below {X : List Nat} {a b : World} (h : Below a.heap.size a b) : Kp X a b := ⟨h.os, h.tape, h.output, h.size, fun k hk _ => h.block k hk⟩
theorem Kp.of_grown {X : List Nat} {a b : World} {g : Nat} (h : a.grownBy b (some g)) (hg : g ∈ X ∨ a.heap.size ≤ g) : Kp X a b :=
  ⟨h.os, h.tape, h.output, h.size, fun k hk hn => h.block k hk (fun e => by injection e with e; subst e; rcases hg with e | e; exact hn e; omega)⟩
theorem Kp.to_below {X : List Nat} {B : Nat} {a b : World} (h : Kp X a b) (hB : B ≤ a.heap.size) (hs : ∀ x ∈ X, B ≤ x) : Below B a b :=
  ⟨h.os, h.tape, h.output, h.size, fun k hk => h.block k (by omega) (fun hx => by have := hs k hx; omega)⟩
theorem Kp.below_nil {a b : World} (h : Kp [] a b) : Below a.heap.size a b := h.to_below (Nat.le_refl _) (by simp)
theorem Kp.drew {X : List Nat} {a b : World} (h : Kp X a b) : Kp X a b.drew := ⟨h.os, h.tape, h.output, h.size, h.block⟩
theorem Kp.drewN {X : List Nat} {a b : World} (h : Kp X a b) (n : Nat) : Kp X a (b.drewN n) := ⟨h.os, h.tape, h.output, h.size, h.block⟩
theorem Kp.alloc {X : List Nat} {a b : World} (h : Kp X a b) (o : Obj) : Kp X a (b.alloc o) := h.new (Kp.of_below (X := []) ((Below.refl _ _).alloc (Nat.le_refl _) _)) (by simp)
theorem Kp.setCell {X : List Nat} {a b : World} (h : Kp X a b) (p : Addr) (v : Value) (hp : p.block ∈ X ∨ a.heap.size ≤ p.block) : Kp X a (b.setCell p v) := by
  refine ⟨h.os, h.tape, h.output, by simpa [World.setCell] using h.size, fun i hi hn => ?_⟩
  rw [heap_setCell_other b p i v (fun e => by subst e; rcases hp with e | e; exact hn e; omega)]
  exact h.block i hi hn
theorem Kp.cell {X : List Nat} {a b : World} (h : Kp X a b) {k o : Nat} {v : Value} (hc : a.cell? ⟨k, o, none⟩ = some v) (hn : k ∉ X) : b.cell? ⟨k, o, none⟩ = some v :=
  (World.cell?_of_block (a := ⟨k, o, none⟩) (h.block k (block_lt_of_cell hc) hn)).trans hc
theorem VRow.kp {w w' : World} {b : Nat} {t : TypeId} {n : Nat} {F : Nat → Value} (h : VRow w b t n F) {X : List Nat} (hk : Kp X w w') (hn : b ∉ X) : VRow w' b t n F := h.keep (hk.block b h.lt hn)
theorem Stps.kp {w w' : World} {a : Option Addr} {l : List Sp} (h : Stps w a l) {X : List Nat} (hk : Kp X w w') (hn : ∀ x, a = some x → x.block ∉ X) : Stps w' a l := fun j s hj => by
  obtain ⟨b, off, e, hb, h1, h2⟩ := h j s hj
  have := hn _ e
  exact ⟨b, off, e, by have := hk.size; omega, hk.cell h1 this, hk.cell h2 this⟩
theorem Stps.below {w w' : World} {a : Option Addr} {l : List Sp} (h : Stps w a l) (hb : Below w.heap.size w w') : Stps w' a l := h.kp (Kp.of_below (X := []) hb) (by simp)

/-- the arcs of a network, as a slice reads -/
def Arcs (w : World) (a : Option Addr) (N : Nw) : Prop := ∀ i, i < N.m → ∃ b off, a = some ⟨b, off, none⟩ ∧ b < w.heap.size ∧
  w.cell? ⟨b, off + i * 5, none⟩ = some (.int .i64 (N.fr i : Int)) ∧ w.cell? ⟨b, off + i * 5 + 1, none⟩ = some (.int .i64 (N.to i : Int)) ∧
  w.cell? ⟨b, off + i * 5 + 2, none⟩ = some (.int .i64 (N.lo i)) ∧ w.cell? ⟨b, off + i * 5 + 3, none⟩ = some (.int .i64 (N.up i)) ∧ w.cell? ⟨b, off + i * 5 + 4, none⟩ = some (.int .i64 (N.c i))
theorem Arcs.kp {w w' : World} {a : Option Addr} {N : Nw} (h : Arcs w a N) {X : List Nat} (hk : Kp X w w') (hn : 0 < N.m → ∀ x, a = some x → x.block ∉ X) : Arcs w' a N := fun i hi => by
  obtain ⟨b, off, e, hb, h1, h2, h3, h4, h5⟩ := h i hi
  have := hn (by omega) _ e
  exact ⟨b, off, e, by have := hk.size; omega, hk.cell h1 this, hk.cell h2 this, hk.cell h3 this, hk.cell h4 this, hk.cell h5 this⟩
theorem Arcs.below {w w' : World} {a : Option Addr} {N : Nw} (h : Arcs w a N) (hb : Below w.heap.size w w') : Arcs w' a N := h.kp (Kp.of_below (X := []) hb) (by simp)
/-- a network as the chapter bounds it -/
structure Nw.valid (N : Nw) : Prop where
  V1 : 1 ≤ N.V
  V2 : N.V ≤ 520
  m2 : N.m ≤ 2400
  ok : N.ok
  lo : ∀ i, i < N.m → 0 ≤ N.lo i ∧ N.lo i ≤ N.up i ∧ N.up i ≤ 1099511627776
  c : ∀ i, i < N.m → -1000 ≤ N.c i ∧ N.c i ≤ 1000
/-- where the parts of a search lie -/
structure Lay where
  a : Option Addr
  ca : Nat
  gf : Nat
  gt : Nat
  gp : Nat
  gc : Nat
  S : Nat → List Sp
/-- the steps that begin at each vertex -/
def Ats (w : World) (gt : Nat) (V : Nat) (S : Nat → List Sp) (X : List Nat) : Prop := ∀ v, v < V → ∃ a c, w.cell? ⟨gt, v, none⟩ = some (.slice a (S v).length c) ∧ Stps w a (S v) ∧ ∀ x, a = some x → x.block ∉ X
/-- block g is a search: what does not change -/
structure Srch (w : World) (g : Nat) (N : Nw) (K : Lay) : Prop where
  blk : w.heap[g]? = some (.cells #[.int .i64 (N.V : Int), .slice K.a N.m K.ca, .slice (some ⟨K.gf, 0, none⟩) N.m N.m, .slice (some ⟨K.gt, 0, none⟩) N.V N.V, .slice (some ⟨K.gp, 0, none⟩) N.V N.V, .slice (some ⟨K.gc, 0, none⟩) N.m N.m] 71 (0, 0))
  arcs : Arcs w K.a N
  far : 0 < N.m → ∀ x, K.a = some x → x.block ∉ [K.gf, K.gp, K.gc]
  ats : Ats w K.gt N.V K.S [K.gf, K.gp, K.gc]
  g_ne : g ∉ [K.gf, K.gp, K.gc]
  t_ne : K.gt ∉ [K.gf, K.gp, K.gc]
  dist : K.gf ≠ K.gp ∧ K.gf ≠ K.gc ∧ K.gp ≠ K.gc
  S_ok : ∀ v, v < N.V → ∀ s, s ∈ K.S v ↔ s.i < N.m ∧ N.beg s = v
  S_len : ∀ v, v < N.V → (K.S v).length ≤ 2 * N.m
theorem Srch.kp {w w' : World} {g : Nat} {N : Nw} {K : Lay} (h : Srch w g N K) (hk : Kp [K.gf, K.gp, K.gc] w w') : Srch w' g N K := by
  refine ⟨(hk.block g (Array.getElem?_eq_some_iff.1 h.blk).1 h.g_ne).trans h.blk, h.arcs.kp hk h.far, h.far, fun v hv => ?_, h.g_ne, h.t_ne, h.dist, h.S_ok, h.S_len⟩
  obtain ⟨a, c, h1, h2, h3⟩ := h.ats v hv
  exact ⟨a, c, hk.cell h1 h.t_ne, h2.kp hk h3, h3⟩
theorem Srch.below {w w' : World} {g : Nat} {N : Nw} {K : Lay} (h : Srch w g N K) (hb : Below w.heap.size w w') : Srch w' g N K := h.kp (Kp.of_below hb)
theorem Srch.lt {w : World} {g : Nat} {N : Nw} {K : Lay} (h : Srch w g N K) : g < w.heap.size := (Array.getElem?_eq_some_iff.1 h.blk).1
theorem Srch.cells {w : World} {g : Nat} {N : Nw} {K : Lay} (h : Srch w g N K) :
    w.cell? ⟨g, 0, none⟩ = some (.int .i64 (N.V : Int)) ∧ w.cell? ⟨g, 1, none⟩ = some (.slice K.a N.m K.ca) ∧ w.cell? ⟨g, 2, none⟩ = some (.slice (some ⟨K.gf, 0, none⟩) N.m N.m) ∧ w.cell? ⟨g, 3, none⟩ = some (.slice (some ⟨K.gt, 0, none⟩) N.V N.V) ∧
    w.cell? ⟨g, 4, none⟩ = some (.slice (some ⟨K.gp, 0, none⟩) N.V N.V) ∧ w.cell? ⟨g, 5, none⟩ = some (.slice (some ⟨K.gc, 0, none⟩) N.m N.m) :=
  ⟨cell_of_row _ _ 0 _ _ _ h.blk, cell_of_row _ _ 1 _ _ _ h.blk, cell_of_row _ _ 2 _ _ _ h.blk, cell_of_row _ _ 3 _ _ _ h.blk, cell_of_row _ _ 4 _ _ _ h.blk, cell_of_row _ _ 5 _ _ _ h.blk⟩
end Go.Proofs.Ythoehobofdeifaa
