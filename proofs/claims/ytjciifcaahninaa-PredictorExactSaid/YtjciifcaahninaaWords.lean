/-
  SMALL WORDS on slices that are read: a slice's cells are a list. No program in sight. (Filled in from a template of this repo.)
-/
import Derived.Test.YtjciifcaahninaaBase
import Derived.OwnWalk
namespace Go.Proofs.Ytjciifcaahninaa
open Go.ChangeShapes Go.WideShapes Go.ChangeAt Go.RowKit

/-- what the walk is told of a slice that is read: its cells are xs -/
def Cells (w : World) (a : Option Addr) (xs : List Value) : Prop :=
  xs ≠ [] → ∃ b off, a = some ⟨b, off, none⟩ ∧ b < w.heap.size ∧ ∀ j u, xs[j]? = some u → w.cell? ⟨b, off + j, none⟩ = some u
theorem Cells.nil (w : World) (a : Option Addr) : Cells w a [] := fun h => absurd rfl h
theorem Cells.below {w w' : World} {a : Option Addr} {xs : List Value} (h : Cells w a xs) (hb : Below w.heap.size w w') : Cells w' a xs := by
  intro hx
  obtain ⟨b, off, e, hlt, hc⟩ := h hx
  exact ⟨b, off, e, by have := hb.size; omega, fun j u hj => (hb.cell (p := ⟨b, off + j, none⟩) hlt).trans (hc j u hj)⟩
theorem Cells.grown {w w' : World} {a : Option Addr} {xs : List Value} {row : Option Nat} (h : Cells w a xs) (hg : w.grownBy w' row) (hr : ∀ x k, a = some x → row = some k → x.block ≠ k) : Cells w' a xs := by
  intro hx
  obtain ⟨b, off, e, hlt, hc⟩ := h hx
  refine ⟨b, off, e, by have := hg.size; omega, fun j u hj => ?_⟩
  exact (World.cell?_of_block (w := w) (hg.block b hlt (fun e2 => hr _ b e e2.symm rfl))).trans (hc j u hj)
theorem add_none (g o q : Nat) : (⟨g, o, none⟩ : Addr).add q = ⟨g, o + q, none⟩ := by unfold Addr.add; split <;> simp_all
theorem Cells.of_own {w : World} {base n e size : Nat} {v : Value} {xs : List Value} (h : w.ownsRow base e size v n xs) :
    ∃ a cap, v = .slice a n cap ∧ xs.length = n * size ∧ n ≤ cap ∧ cap ≤ maxLen ∧ Cells w a xs ∧ ∀ x, a = some x → base ≤ x.block := by
  have hn := h.1
  rcases h.2 with ⟨rfl, h0⟩ | ⟨g, cap, cur, rfl, hb, hg, hc, hm, hz, ht⟩
  · subst h0
    obtain rfl : xs = [] := List.eq_nil_of_length_eq_zero (by simpa using hn)
    exact ⟨none, 0, rfl, hn, by omega, by simp [maxLen], Cells.nil _ _, fun x hx => by cases hx⟩
  · refine ⟨_, cap, rfl, hn, hc, hm, fun _ => ⟨g, 0, rfl, (Array.getElem?_eq_some_iff.1 hg).1, fun j u hj => ?_⟩, fun x hx => by injection hx with hx; subst hx; exact hb⟩
    have := h.cells (g := g) rfl j u hj
    rwa [add_none] at this
/-- an owned row that is not empty: its block, whole -/
theorem own_block {w : World} {base n e size : Nat} {v : Value} {xs : List Value} (h : w.ownsRow base e size v n xs) (hx : xs ≠ []) :
    ∃ g cap, v = .slice (some ⟨g, 0, none⟩) n cap ∧ base ≤ g ∧ g < w.heap.size ∧ n ≤ cap ∧ cap ≤ maxLen ∧ xs.length = n * size ∧ ∀ j u, xs[j]? = some u → w.cell? ⟨g, j, none⟩ = some u := by
  have hn := h.1
  rcases h.2 with ⟨rfl, h0⟩ | ⟨g, cap, cur, rfl, hb, hg, hc, hm, hz, ht⟩
  · exact absurd (List.eq_nil_of_length_eq_zero (by rw [hn, h0, Nat.zero_mul])) hx
  · refine ⟨g, cap, rfl, hb, (Array.getElem?_eq_some_iff.1 hg).1, hc, hm, hn, fun j u hj => ?_⟩
    have := h.cells (g := g) rfl j u hj
    rwa [add_none, Nat.zero_add] at this

/-- the cells of a list of integers -/
abbrev ints (zs : List Int) : List Value := zs.map (Value.int .i64)
theorem ints_get (zs : List Int) (j : Nat) (h : j < zs.length) : (ints zs)[j]? = some (.int .i64 (zs.getD j 0)) := by simp [List.getD, h]
theorem ints_ne (zs : List Int) (j : Nat) (h : j < zs.length) : ints zs ≠ [] := by
  intro e; have := congrArg List.length e; simp at this; subst this; simp at h
theorem ints_one (zs : List Int) : ∀ v ∈ ints zs, v.oneCell' = true := by intro v hv; simp at hv; obtain ⟨z, _, rfl⟩ := hv; rfl
theorem Cells.int {w : World} {a : Option Addr} {zs : List Int} (h : Cells w a (ints zs)) (j : Nat) (hj : j < zs.length) :
    ∃ b off, a = some ⟨b, off, none⟩ ∧ b < w.heap.size ∧ ∀ i, i < zs.length → w.cell? ⟨b, off + i, none⟩ = some (.int .i64 (zs.getD i 0)) := by
  obtain ⟨b, off, e, hb, hc⟩ := h (ints_ne zs j hj)
  exact ⟨b, off, e, hb, fun i hi => hc i _ (ints_get zs i hi)⟩
/-- the cells of a list of bools -/
abbrev bools (zs : List Bool) : List Value := zs.map Value.bool
theorem bools_get (zs : List Bool) (j : Nat) (h : j < zs.length) : (bools zs)[j]? = some (.bool (zs.getD j false)) := by simp [List.getD, h]
theorem bools_ne (zs : List Bool) (j : Nat) (h : j < zs.length) : bools zs ≠ [] := by
  intro e; have := congrArg List.length e; simp at this; subst this; simp at h
theorem Cells.bool {w : World} {a : Option Addr} {zs : List Bool} (h : Cells w a (bools zs)) (j : Nat) (hj : j < zs.length) :
    ∃ b off, a = some ⟨b, off, none⟩ ∧ b < w.heap.size ∧ ∀ i, i < zs.length → w.cell? ⟨b, off + i, none⟩ = some (.bool (zs.getD i false)) := by
  obtain ⟨b, off, e, hb, hc⟩ := h (bools_ne zs j hj)
  exact ⟨b, off, e, hb, fun i hi => hc i _ (bools_get zs i hi)⟩
theorem grownBy_own {a b c : World} {g : Nat} {row : Option Nat} (h : a.grownBy b (some g)) (k : b.grownBy c row) (hr : ∀ k, row = some k → a.heap.size ≤ k) : a.grownBy c (some g) :=
  ⟨k.os.trans h.os, k.tape.trans h.tape, k.output.trans h.output, Nat.le_trans h.size k.size, fun i hi hn =>
    (k.block i (by have := h.size; omega) (fun e => by have := hr i e.symm; omega)).trans (h.block i hi hn)⟩
end Go.Proofs.Ytjciifcaahninaa
