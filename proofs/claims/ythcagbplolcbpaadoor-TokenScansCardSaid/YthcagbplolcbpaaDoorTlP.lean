/-
  PLAIN FACTS for the walks of chapter 3's laws. No walk. (Filled in from a template of this repo.)
-/
import Derived.Test.YthcagbplolcbpaaDoorMlw
namespace Go.Proofs.YthcagbplolcbpaaDoor
open Go.ChangeShapes Go.WideShapes Go.ChangeAt Go.RowKit
set_option linter.unusedVariables false
set_option linter.unusedSimpArgs false

theorem nonE_ok (ys : List Tk) (ln : Int) (h : ∀ x ∈ ys, TokOk x) : nonE (ys ++ [⟨0, ln, 0, []⟩]) = ys := by
  unfold nonE
  rw [List.filter_append]
  have h1 : ys.filter (fun x => x.k != 0) = ys := by
    rw [List.filter_eq_self]
    intro x hx
    have := (h x hx).kind
    rw [bne_iff_ne]
    omega
  rw [h1]
  simp
theorem tkLen_1 (ys : List Tk) (h : ∀ x ∈ ys, TokOk x) : ys.length ≤ tkLen 0 ys ∧ tkLen 1 ys ≤ 2 * tkLen 0 ys := by
  induction ys with
  | nil => simp [tkLen]
  | cons x ys ih =>
    have h1 := (h x (by simp)).pos
    have h2 := ih (fun z hz => h z (by simp [hz]))
    simp only [tkLen, List.length_cons]
    omega
/-- what is known of the tokens of a text -/
theorem scan_facts {l : Bt} {ts : List Tk} {y : Int} (h : scan l = (some ts, y)) : ts.length ≤ l.length + 1 ∧ tkLen 1 ts ≤ 2 * l.length + 1 ∧ 1 ≤ ts.length := by
  obtain ⟨ys, ln, rfl, _, h3, h4⟩ := scan_toks h
  have := tkLen_1 ys h3
  rw [tkLen_app]
  simp only [List.length_append, List.length_cons, List.length_nil, tkLen]
  omega
theorem scan_back {l : Bt} {ts : List Tk} {y : Int} (h : scan l = (some ts, y)) : (joinB (nonE ts)).length ≤ 2 * l.length ∧ ∃ zs, scan (joinB (nonE ts)) = (some zs, 0) ∧ unl zs = unl ts := by
  obtain ⟨ys, ln, rfl, h3, h4, zs, h5, h6⟩ := back_law h
  rw [nonE_ok ys ln h3]
  exact ⟨h4, zs, h5, h6⟩
theorem unl_get {a b : List Tk} (h : unl a = unl b) : a.length = b.length ∧ ∀ (i : Nat) (x y : Tk), a[i]? = some x → b[i]? = some y → x.k = y.k ∧ x.v = y.v ∧ x.t = y.t := by
  have hl : a.length = b.length := by have := congrArg List.length h; unfold unl at this; simpa using this
  refine ⟨hl, fun i x y hx hy => ?_⟩
  have h1 := congrArg (fun l => l[i]?) h
  unfold unl at h1
  simp only [List.getElem?_map, hx, hy, Option.map_some, Option.some.injEq, Prod.mk.injEq] at h1
  exact h1
end Go.Proofs.YthcagbplolcbpaaDoor
