/-
  The parser's statements and blocks, for any tokens. (Filled in from a template of this repo.)
-/
import Derived.Test.YtpcdinelpfbpfaaDoorPqS
namespace Go.Proofs.YtpcdinelpfbpfaaDoor
set_option linter.unusedVariables false

theorem qall (m:Nat):CBl m/\CSt m:=by
 induction m using Nat.strongRecOn with
 | ind m ih=>exact⟨pblock_of m fun j hj=>(ih j hj).2,pstmt_of m fun j hj=>(ih j hj).1⟩
theorem block_any (K:PC) (at_:Nat) (rest:List Tk) (w:World) (h:PAt w K at_ rest):Calls Tryd.prog 40 #[.pointer (some ⟨K.g,0,none⟩)] w (BlQ K rest w) :=
 (qall rest.length).1 K at_ rest w h (Nat.le_refl _)
end Go.Proofs.YtpcdinelpfbpfaaDoor
