/-
  The reference's reader's expressions, for any tokens. (Filled in from a template of this repo.)
-/
import Derived.Test.YtlbjdglgnkajnaaDoorQsI
namespace Go.Proofs.YtlbjdglgnkajnaaDoor
set_option linter.unusedVariables false

theorem rall (m : Nat) : CQ 105 .un m ∧ CQ 21 .ex m := by
  induction m using Nat.strongRecOn with
  | ind m ih =>
    have hE : ∀ j, j < m → CQ 21 .ex j := fun j hj => (ih j hj).2
    have hU := runary_step m (rcalled_of m hE (rprimary_of m hE)) (fun j hj => (ih j hj).1)
    exact ⟨hU, rexpr_of m (rand_of m (rcompare_of m (rsum_of m (rterm_of m hU))))⟩
theorem rexpr_any (K : PC) (at_ : Nat) (rest : List Tk) (w : World) (h : RAt w K at_ false rest) : Calls Tryd.prog 21 #[.pointer (some ⟨K.g, 0, none⟩)] w (EQ K .ex at_ false rest w) :=
  (rall rest.length).2 K at_ false rest w h (Nat.le_refl _)
theorem rexpr_bad (K : PC) (at_ : Nat) (rest : List Tk) (w : World) (h : RAt w K at_ true rest) : Calls Tryd.prog 21 #[.pointer (some ⟨K.g, 0, none⟩)] w (EQ K .ex at_ true rest w) :=
  (rall 0).2 K at_ true rest w h (Nat.le_refl _)
end Go.Proofs.YtlbjdglgnkajnaaDoor
