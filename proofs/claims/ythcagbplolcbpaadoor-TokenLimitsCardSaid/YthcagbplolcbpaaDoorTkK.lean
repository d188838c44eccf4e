/-
  WALK of awake. (Filled in from a template of this repo.)
-/
import Derived.Test.YthcagbplolcbpaaDoorTkT
namespace Go.Proofs.YthcagbplolcbpaaDoor
open Go.ChangeShapes Go.WideShapes Go.ChangeAt Go.RowKit
set_option linter.unusedVariables false
set_option linter.unusedSimpArgs false

/-- a slice of tokens, as it reads -/
def Tks (w : World) (a : Option Addr) (ts : List Tk) : Prop := ∀ j x, ts[j]? = some x → ∃ b off, a = some ⟨b, off, none⟩ ∧ b < w.heap.size ∧
  w.cell? ⟨b, off + j * 4, none⟩ = some (.int .i64 x.k) ∧ w.cell? ⟨b, off + j * 4 + 1, none⟩ = some (.int .i64 x.n) ∧ w.cell? ⟨b, off + j * 4 + 2, none⟩ = some (.int .i64 x.v) ∧ w.cell? ⟨b, off + j * 4 + 3, none⟩ = some (.string (st x.t))
theorem Tks.of_own {w : World} {base n : Nat} {e : TypeId} {v : Value} {ts : List Tk} (h : w.ownsRow base e 4 v n (tkcs ts)) :
    ∃ a cap, v = .slice a n cap ∧ ts.length = n ∧ n ≤ cap ∧ cap ≤ maxLen ∧ Tks w a ts ∧ ∀ x, a = some x → base ≤ x.block := by
  obtain ⟨a, cap, rfl, h1, h2, h3, h4, h5⟩ := Cells.of_own h
  rw [tkcs_len] at h1
  refine ⟨a, cap, rfl, by omega, h2, h3, fun j s hj => ?_, h5⟩
  obtain ⟨g1, g2, g3, g4⟩ := tkcs_get ts j s hj
  obtain ⟨b, off, e1, hb, hc⟩ := h4 (fun e => by rw [e] at g1; simp at g1)
  exact ⟨b, off, e1, hb, hc _ _ g1, by rw [Nat.add_assoc]; exact hc _ _ g2, by rw [Nat.add_assoc]; exact hc _ _ g3, by rw [Nat.add_assoc]; exact hc _ _ g4⟩
theorem Tks.below {w w' : World} {a : Option Addr} {ts : List Tk} (h : Tks w a ts) (hb : Below w.heap.size w w') : Tks w' a ts := fun j x hj => by
  obtain ⟨b, off, e, hlt, h1, h2, h3, h4⟩ := h j x hj
  exact ⟨b, off, e, by have := hb.size; omega, (hb.cell (p := ⟨b, off + j * 4, none⟩) hlt).trans h1, (hb.cell (p := ⟨b, off + j * 4 + 1, none⟩) hlt).trans h2, (hb.cell (p := ⟨b, off + j * 4 + 2, none⟩) hlt).trans h3, (hb.cell (p := ⟨b, off + j * 4 + 3, none⟩) hlt).trans h4⟩
set_option maxRecDepth 100000 in
set_option maxHeartbeats 4000000 in
theorem awake_any (w : World) (hw : Lad w) : Calls Tryd.prog 7 #[] w fun e w' => e = .returned (.bool true) ∧ Below w.heap.size w w' := by
  have HSC := Lib.hid (Scan_any (st [120, 60, 61, 49, 48]) (by decide) w hw)
  go_enter Tryd.func7, Tryd.ntmps7
  go_wp2_with fail
  refine HSC.out.mono ?_
  rintro e w1 ⟨hb, hp⟩
  (try rw [show (st [120, 60, 61, 49, 48]).data.toList = [120, 60, 61, 49, 48] from rfl] at hp)
  rw [awake_scan] at hp
  rcases hp with ⟨h, _⟩ | ⟨_, h, _⟩ | ⟨_, ts, v, h1, rfl, hown⟩
  · exact absurd h (by decide)
  · cases h
  · injection h1 with h1
    subst h1
    obtain ⟨a, cap, rfl, hl, hc1, hc2, hts, _⟩ := Tks.of_own hown
    obtain ⟨b, off, rfl, hbl, _, _, _, q1⟩ := hts 1 _ rfl
    obtain ⟨b', off', e', _, _, _, q2, _⟩ := hts 2 _ rfl
    injection e' with e'
    injection e' with e1 e2
    subst e1 e2
    have HB := Lib.hid hb
    clear hb hown hts
    have HWD := Lib.hid (Word_st [119, 104, 105, 108, 101] w1)
    have hw5 : isW [119, 104, 105, 108, 101] = true := by decide
    go_wp2_with fail
    refine HWD.out.mono ?_
    rintro e w2 ⟨rfl, rfl⟩
    rw [hw5]
    go_wp2_with fail
    go_ret
    exact ⟨rfl, HB.out⟩
end Go.Proofs.YthcagbplolcbpaaDoor
