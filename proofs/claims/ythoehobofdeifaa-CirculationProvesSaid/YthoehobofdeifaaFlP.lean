/-
  WORDS of flow: rows of numbers that are owned. No program in sight but the types. (Filled in from a template of this repo.)
-/
import Derived.Test.YthoehobofdeifaaRSo
import Derived.Test.YthoehobofdeifaaOdd
import Derived.Test.YthoehobofdeifaaSml
import Derived.Test.YthoehobofdeifaaAll
namespace Go.Proofs.Ythoehobofdeifaa
open Go.ChangeShapes Go.WideShapes Go.ChangeAt Go.RowKit
set_option linter.unusedVariables false
set_option linter.unusedSimpArgs false

/-- n numbers as values -/
def ivs (n : Nat) (f : Nat → Int) : List Value := (vrow n fun j => .int .i64 (f j)).toList
theorem ivs_len (n : Nat) (f : Nat → Int) : (ivs n f).length = n := by simp [ivs, vrow]
theorem ivs_get {n : Nat} {f : Nat → Int} {j : Nat} (h : j < n) : (ivs n f)[j]? = some (.int .i64 (f j)) := by simp [ivs, vrow, h]
theorem ivs_ones (n : Nat) (f : Nat → Int) : ∀ u ∈ ivs n f, u.oneCell' = true := fun u hu => by
  simp [ivs, vrow] at hu
  obtain ⟨_, _, rfl⟩ := hu
  rfl
theorem ivs_set {n : Nat} {f : Nat → Int} {i : Nat} {x : Int} : (ivs n f).set i (.int .i64 x) = ivs n (upd f i x) := by
  apply List.ext_getElem?
  intro j
  rw [List.getElem?_set]
  by_cases hj : j < n
  · rw [ivs_get hj]
    by_cases e : i = j
    · subst e
      rw [if_pos rfl, if_pos (by rw [ivs_len]; exact hj), ivs_get hj, upd_same]
    · rw [if_neg e, ivs_get hj, upd_other _ _ (fun h => e h.symm)]
  · have h1 : ∀ g, (ivs n g)[j]? = none := fun g => List.getElem?_eq_none (by rw [ivs_len]; omega)
    rw [h1, h1]
    by_cases e : i = j
    · subst e; rw [if_pos rfl, if_neg (by rw [ivs_len]; exact hj)]
    · rw [if_neg e]
theorem ivs_push {n : Nat} {f : Nat → Int} {x : Int} : ivs n f ++ [.int .i64 x] = ivs (n + 1) (upd f n x) := by
  apply List.ext_getElem?
  intro j
  by_cases hj : j < n
  · rw [List.getElem?_append_left (by rw [ivs_len]; exact hj), ivs_get hj, ivs_get (by omega), upd_other _ _ (by omega)]
  · rw [List.getElem?_append_right (by rw [ivs_len]; omega), ivs_len]
    by_cases e : j = n
    · subst e; rw [ivs_get (by omega), upd_same]; simp
    · rw [List.getElem?_eq_none (by simp; omega), List.getElem?_eq_none (by rw [ivs_len]; omega)]
/-- the worlds of flow -/
structure FL (g : Nat) (w0 : World) (va : Option Addr) (n cap : Nat) (f : Nat → Int) (w : World) : Prop where
  own : w.ownsRow w0.heap.size 3 1 (.slice va n cap) n (ivs n f)
  cod : Cod w g
  gr : w0.grownBy w (some g)
  lt : g < w0.heap.size
section
variable {g n cap : Nat} {w0 w w' : World} {va : Option Addr} {f : Nat → Int}
theorem FL.next (h : FL g w0 va n cap f w) (hc : Cod w' g) (hg : w.grownBy w' (some g)) : FL g w0 va n cap f w' :=
  ⟨h.own.kept hg (own_row_ne h.own h.lt), hc, grownBy_trans h.gr hg, h.lt⟩
theorem FL.drewN (h : FL g w0 va n cap f w) (k : Nat) : FL g w0 va n cap f (w.drewN k) := h.next h.cod (grownBy_drewN _ _ _)
theorem FL.form (h : FL g w0 va n cap f w) (hn : 0 < n) : ∃ gl, va = some ⟨gl, 0, none⟩ ∧ w0.heap.size ≤ gl ∧ gl < w.heap.size := by
  obtain ⟨gl, cp, e, h1, h2⟩ := h.own.form hn
  injection e with e
  exact ⟨gl, e, h1, h2⟩
theorem FL.rd (h : FL g w0 va n cap f w) : Rd w va n f := fun j hj => by
  obtain ⟨gl, e, h1, h2⟩ := h.form (by omega)
  subst e
  refine ⟨gl, 0, rfl, h2, ?_⟩
  rw [Nat.zero_add, h.own.cellAt j (by omega)]
  exact ivs_get hj
theorem FL.put {gl : Nat} (h : FL g w0 (some ⟨gl, 0, none⟩) n cap f w) (i : Nat) (x : Int) : FL g w0 (some ⟨gl, 0, none⟩) n cap (upd f i x) (w.setCell ⟨gl, i, none⟩ (.int .i64 x)) := by
  have hs := h.own.stored i (.int .i64 x)
  have hb := (h.own.lt gl rfl).1
  have h1 := h.lt
  refine ⟨by rw [← ivs_set]; exact hs.1, h.cod.setCell (by show g < gl; omega) _, grownBy_own h.gr hs.2 (fun k hk => by injection hk with hk; omega), h.lt⟩
theorem FL.cell {gl : Nat} (h : FL g w0 (some ⟨gl, 0, none⟩) n cap f w) {i : Nat} (hi : i < n) : w.cell? ⟨gl, i, none⟩ = some (.int .i64 (f i)) := by
  rw [h.own.cellAt i (by omega)]; exact ivs_get hi
end
/-- what flow leaves -/
def FlowPost (g m : Nat) (w : World) (e : Ending) (w' : World) : Prop := ∃ (s : Option Addr) (n c : Nat) (f : Nat → Int), e = .returned (.slice s n c) ∧ n ≤ m + 1 ∧ Rd w' s n f ∧ (∀ x, s = some x → w.heap.size ≤ x.block) ∧ Cod w' g ∧ w.grownBy w' (some g)
theorem FL.post {g n cap m : Nat} {w0 w : World} {va : Option Addr} {f : Nat → Int} (h : FL g w0 va n cap f w) (hn : n ≤ m + 1) : FlowPost g m w0 (.returned (.slice va n cap)) w :=
  ⟨va, n, cap, f, rfl, hn, h.rd, fun x hx => by subst hx; exact (h.own.lt x.block rfl).1, h.cod, h.gr⟩
end Go.Proofs.Ythoehobofdeifaa
