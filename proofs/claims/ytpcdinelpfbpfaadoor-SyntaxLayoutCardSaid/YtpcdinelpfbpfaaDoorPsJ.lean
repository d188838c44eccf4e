/-
  JOIN of the parser's expression functions: all of them, for any number of tokens. (Filled in from a template of this repo.)
-/
import Derived.Test.YtpcdinelpfbpfaaDoorPsY
import Derived.Test.YtpcdinelpfbpfaaDoorPsZ
import Derived.Test.YtpcdinelpfbpfaaDoorPsC
namespace Go.Proofs.YtpcdinelpfbpfaaDoor
open Go.ChangeShapes Go.WideShapes Go.ChangeAt Go.RowKit

theorem expr_unary_all (m:Nat):CE 17 .ex m/\CE 80 .un m:=by
 induction m using Nat.strongRecOn with
 | _ m ih =>
  have hE : ∀ j,j<m->CE 17 .ex j:=fun j hj=>(ih j hj).1
  have hU:=unary_step m (called_of m hE (primary_of m hE)) (fun j hj=>(ih j hj).2)
  exact⟨expr_of m (and_of m (compare_of m (sum_of m (term_of m hU)))),hU⟩
theorem pexpr_any (K:PC) (at_:Nat) (rest:List Tk) (w:World) (h:PAt w K at_ rest):Calls Tryd.prog 17 #[.pointer (some ⟨K.g,0,none⟩)] w (EP K .ex rest w) :=
 (expr_unary_all rest.length).1 K at_ rest w h (Nat.le_refl _)
end Go.Proofs.YtpcdinelpfbpfaaDoor
