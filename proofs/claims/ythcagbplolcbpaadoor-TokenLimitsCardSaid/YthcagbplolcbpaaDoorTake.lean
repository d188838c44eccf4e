/-
  THE KIT's MOVE, the slot written out. (Filled in from a template of this repo.)
-/
import Derived.Test.YthcagbplolcbpaaDoorWords
import Derived.Test.YthcagbplolcbpaaDoorDraw
import Derived.OrdersHeld
import Derived.Deep.RegionLaw
namespace Go.Proofs.YthcagbplolcbpaaDoor
open Go.ChangeShapes Go.WideShapes Go.ChangeAt Go.RowKit
set_option linter.unusedVariables false
section
variable {P : Program} {ops : Array Oper} {Q : Exit → Act → World → Prop} {md : Region.Mode} {S : World → Prop}
theorem wpAnyH_takeD {i : Nat} {oi : Oper} {d : Option Tmp} {v : Value} {fuel : Nat} {listed : Array Bool} {a : Act} {w : World} (hi : ops[i]? = some oi) (hd : oi.dst = d)
    (hs : Region.noSelect ops = true) (hf : Region.free md ops listed i = true) (hr : (Region.ready md ops listed).contains i = true)
    (hQ : ∀ c a w, Q (.panic c) (a.put d v) w → Q (.panic c) a w) (hy : YieldsIf P ops S oi v a) (hS : S w)
    (h : wpAnyH P md ops Q S fuel (listed.setIfInBounds i true) (a.put d v) w) : wpAnyH P md ops Q S (fuel + 1) listed a w := by
  subst hd; exact wpAnyH_take hi hs hf hr hQ hy hS h
end
theorem grownBy_of_below {w w' : World} (h : Below w.heap.size w w') (r : Option Nat) : w.grownBy w' r := ⟨h.os, h.tape, h.output, h.size, fun k hk _ => h.block k hk⟩
theorem heap_lt {w : World} {k : Nat} {o : Obj} (h : w.heap[k]? = some o) : k < w.heap.size := (Array.getElem?_eq_some_iff.1 h).1
theorem cell_mk (w : World) (cs : Array Value) (t : TypeId) {b o : Nat} {v : Value} (hb : b = w.heap.size) (hv : cs[o]? = some v) : (w.alloc (.cells cs t)).cell? ⟨b, o, none⟩ = some v := by
  subst hb; rw [cell_of_row _ _ o _ _ _ (heap_alloc_new w _)]; exact hv
theorem cell_ml {w : World} (ob : Obj) {b o : Nat} {v : Value} (h : w.cell? ⟨b, o, none⟩ = some v) : (w.alloc ob).cell? ⟨b, o, none⟩ = some v :=
  (((Below.refl w.heap.size w).alloc (Nat.le_refl _) ob).cell (p := ⟨b, o, none⟩) (block_lt_of_cell h)).trans h
theorem own_below {w w' : World} {base e k n : Nat} {v : Value} {l : List Value} (h : w.ownsRow base e k v n l) (hb : Below w.heap.size w w') : w'.ownsRow base e k v n l :=
  h.kept (grownBy_of_below hb none) (by cases hq : v.ownBlock with | none => exact .inl rfl | some k => exact .inr (by simp))
theorem cell_setn {w : World} {b b' o o' : Nat} (v : Value) {u : Value} (hne : b ≠ b') (h : w.cell? ⟨b', o', none⟩ = some u) : (w.setCell ⟨b, o, none⟩ v).cell? ⟨b', o', none⟩ = some u :=
  (World.cell?_of_block (a := ⟨b', o', none⟩) (heap_setCell_other w ⟨b, o, none⟩ b' v (fun e => hne e.symm))).trans h
/-- four cells of a block written anew -/
abbrev set4 (w : World) (b : Nat) (v0 v1 v2 v3 : Value) : World := (((w.setCell ⟨b, 0, none⟩ v0).setCell ⟨b, 1, none⟩ v1).setCell ⟨b, 2, none⟩ v2).setCell ⟨b, 3, none⟩ v3
theorem cell_set4 {w : World} {b b' o' : Nat} {v0 v1 v2 v3 u : Value} (hne : b ≠ b') (h : w.cell? ⟨b', o', none⟩ = some u) : (set4 w b v0 v1 v2 v3).cell? ⟨b', o', none⟩ = some u :=
  cell_setn _ hne (cell_setn _ hne (cell_setn _ hne (cell_setn _ hne h)))
theorem heap_set4 {w : World} {b : Nat} {u0 u1 u2 u3 v0 v1 v2 v3 : Value} {t : TypeId} (h : w.heap[b]? = some (.cells #[u0, u1, u2, u3] t (0, 0))) : (set4 w b v0 v1 v2 v3).heap[b]? = some (.cells #[v0, v1, v2, v3] t (0, 0)) :=
  heap_setCell_same _ b 3 _ _ v3 (heap_setCell_same _ b 2 _ _ v2 (heap_setCell_same _ b 1 _ _ v1 (heap_setCell_same _ b 0 _ _ v0 h)))
theorem below_set4 {B : Nat} {w0 w : World} {b : Nat} {v0 v1 v2 v3 : Value} (h : Below B w0 w) (hb : B ≤ b) : Below B w0 (set4 w b v0 v1 v2 v3) :=
  (((h.setCell (p := ⟨b, 0, none⟩) hb v0).setCell (p := ⟨b, 1, none⟩) hb v1).setCell (p := ⟨b, 2, none⟩) hb v2).setCell (p := ⟨b, 3, none⟩) hb v3
end Go.Proofs.YthcagbplolcbpaaDoor
