/-
  CONTRACT of small, and what both answers of Solve say of one another. (Filled in from a template of this repo.)
-/
import Derived.Test.YthoehobofdeifaaCirS2
namespace Go.Proofs.Ythoehobofdeifaa
open Go.ChangeShapes Go.WideShapes Go.ChangeAt Go.RowKit
set_option linter.unusedVariables false

def smB (V : Int) (m : Nat) : Bool := decide (m ≤ 12 ∧ (V ≤ 12 ∨ 520 < V))
theorem small_any (V : Int) (a : Option Addr) (m ca : Nat) (w : World) :
    Calls Try.prog 10 #[.agg #[.int .i64 V, .slice a m ca]] w fun e w' => e = .returned (.bool (smB V m)) ∧ Below w.heap.size w w' := by
  have hb0 : Below w.heap.size w (w.alloc (.cells #[.int .i64 V, .slice a m ca] 25)) := (Below.refl _ _).alloc (Nat.le_refl _) _
  have HB0 := Lib.hid hb0
  clear hb0
  by_cases h1 : m ≤ 12
  · have d1 : decide ((m : Int) ≤ 12) = true := by rw [decide_eq_true_iff]; omega
    by_cases h2 : V ≤ 12
    · have HE : Hid (smB V m = true) := Lib.hid (by unfold smB; rw [decide_eq_true_iff]; omega)
      go_enter Try.func10, Try.ntmps10
      go_wp2_with fail
      go_ret
      exact ⟨by rw [HE.out]; rfl, HB0.out⟩
    · have d2 : decide (V ≤ 12) = false := by rw [decide_eq_false_iff_not]; omega
      have HE : Hid (smB V m = decide (520 < V)) := Lib.hid (by
        unfold smB
        rw [decide_eq_decide]
        omega)
      go_enter Try.func10, Try.ntmps10
      go_wp2_with fail
      go_ret
      exact ⟨by rw [HE.out]; rfl, HB0.out⟩
  · have d1 : decide ((m : Int) ≤ 12) = false := by rw [decide_eq_false_iff_not]; omega
    have HE : Hid (smB V m = false) := Lib.hid (by unfold smB; rw [decide_eq_false_iff_not]; omega)
    go_enter Try.func10, Try.ntmps10
    go_wp2_with fail
    go_ret
    exact ⟨by rw [HE.out]; rfl, HB0.out⟩
/-- an answer of Solve, for a network of any numbers -/
def AnsR (R : Rw) (code : Int) (n : Nat) (f : Nat → Int) : Prop := (¬ R.good ∧ code = 30 ∧ n = 0) ∨ (R.good ∧ code = 31 ∧ n = 0 ∧ R.nw.noc) ∨ (R.good ∧ code = 0 ∧ n = R.m ∧ R.nw.cert f)
def SolR (R : Rw) (w : World) (e : Ending) (w' : World) : Prop := ∃ (s : Option Addr) (n c : Nat) (f : Nat → Int) (code : Int), e = .returned (.tuple #[.slice s n c, .int .i64 code]) ∧ Rd w' s n f ∧ AnsR R code n f ∧ Below w.heap.size w w' ∧ n ≤ R.m
theorem sol_of {R : Rw} {w : World} {e : Ending} {w' : World} (h : SolvePost R w e w') : SolR R w e w' := by
  obtain ⟨hb, he⟩ := h
  rcases he with ⟨hn, rfl⟩ | ⟨hg, rfl, hn⟩ | ⟨hg, gf, f, rfl, hr, _, hc⟩
  · exact ⟨none, 0, 0, fun _ => 0, 30, rfl, fun j hj => absurd hj (by omega), .inl ⟨hn, rfl, rfl⟩, hb, by omega⟩
  · exact ⟨none, 0, 0, fun _ => 0, 31, rfl, fun j hj => absurd hj (by omega), .inr (.inl ⟨hg, rfl, rfl, hn⟩), hb, by omega⟩
  · exact ⟨_, _, _, f, 0, rfl, Rd.of_row hr, .inr (.inr ⟨hg, rfl, rfl, hc⟩), hb, by omega⟩
/-- there is but one answer -/
theorem ansR_one {R : Rw} {c1 c2 : Int} {n1 n2 : Nat} {f1 f2 : Nat → Int} (h1 : AnsR R c1 n1 f1) (h2 : AnsR R c2 n2 f2) : c1 = c2 ∧ n1 = n2 ∧ ∀ j, j < n1 → f1 j = f2 j := by
  rcases h1 with ⟨g1, rfl, rfl⟩ | ⟨g1, rfl, rfl, hn⟩ | ⟨g1, rfl, rfl, hc⟩
  · rcases h2 with ⟨_, rfl, rfl⟩ | ⟨g2, _⟩ | ⟨g2, _⟩
    · exact ⟨rfl, rfl, fun j hj => absurd hj (by omega)⟩
    · exact absurd g2 g1
    · exact absurd g2 g1
  · have hok := (Rw.valid g1).ok
    rcases h2 with ⟨g2, _⟩ | ⟨_, rfl, rfl, _⟩ | ⟨_, _, _, hc2⟩
    · exact absurd g1 g2
    · exact ⟨rfl, rfl, fun j hj => absurd hj (by omega)⟩
    · exact absurd (cert_best hok hc2).1 (noc_none hok hn _)
  · have hok := (Rw.valid g1).ok
    rcases h2 with ⟨g2, _⟩ | ⟨_, _, _, hn⟩ | ⟨_, rfl, rfl, hc2⟩
    · exact absurd g1 g2
    · exact absurd (cert_best hok hc).1 (noc_none hok hn _)
    · exact ⟨rfl, rfl, fun j hj => best_one (cert_best hok hc) (cert_best hok hc2) j hj⟩
end Go.Proofs.Ythoehobofdeifaa
