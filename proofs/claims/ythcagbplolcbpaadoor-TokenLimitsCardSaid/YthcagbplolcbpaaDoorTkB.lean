/-
  WALKS of Word and Sign. (Filled in from a template of this repo.)
-/
import Derived.Test.YthcagbplolcbpaaDoorTkA
namespace Go.Proofs.YthcagbplolcbpaaDoor
open Go.ChangeShapes Go.WideShapes Go.ChangeAt Go.RowKit
set_option linter.unusedVariables false
set_option linter.unusedSimpArgs false

theorem toList_bytes (s : ByteArray) : s.toList = s.data.toList := ByteArray.toList_eq s
set_option maxHeartbeats 1000000 in
theorem Word_any (s : ByteArray) (w : World) : Calls Tryd.prog 17 #[.string s] w fun e w' => e = .returned (.bool (isW s.data.toList)) ∧ w' = w := by
  rw [← toList_bytes]
  go_enter Tryd.func17, Tryd.ntmps17
  go_wp2
  all_goals first
    | (exfalso; simp_all; done)
    | (go_ret; refine ⟨?_, rfl⟩; simp_all [isW, wordsL])
set_option maxHeartbeats 1000000 in
theorem Sign_any (s : ByteArray) (w : World) : Calls Tryd.prog 19 #[.string s] w fun e w' => e = .returned (.bool (isS s.data.toList)) ∧ w' = w := by
  rw [← toList_bytes]
  go_enter Tryd.func19, Tryd.ntmps19
  go_wp2
  all_goals first
    | (exfalso; simp_all; done)
    | (go_ret; refine ⟨?_, rfl⟩; simp_all [isS, signsL])
theorem Word_st (l : Bt) (w : World) : Calls Tryd.prog 17 #[.string (st l)] w fun e w' => e = .returned (.bool (isW l)) ∧ w' = w := by
  have := Word_any (st l) w
  simpa using this
theorem Sign_st (l : Bt) (w : World) : Calls Tryd.prog 19 #[.string (st l)] w fun e w' => e = .returned (.bool (isS l)) ∧ w' = w := by
  have := Sign_any (st l) w
  simpa using this
end Go.Proofs.YthcagbplolcbpaaDoor
