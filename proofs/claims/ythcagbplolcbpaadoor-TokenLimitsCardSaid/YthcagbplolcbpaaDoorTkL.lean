/-
  PLAIN LAW of TokenLimits. No walk. (Filled in from a template of this repo.)
-/
import Derived.Test.YthcagbplolcbpaaDoorTkT
namespace Go.Proofs.YthcagbplolcbpaaDoor
set_option linter.unusedVariables false

theorem rep_one (b : UInt8) (n : Nat) : rep [b] n = List.replicate n b := by
  induction n with
  | zero => rfl
  | succ n ih => show rep [b] n ++ [b] = _; rw [ih, ← List.replicate_succ']
theorem scI_head (h : Nat) : ∀ (f : Nat) (acc : List Tk) (l : Bt) (ln : Int), h + l.length ≤ f → scI f acc (List.replicate h 10 ++ l) ln = scI l.length acc l (ln + h) := by
  induction h with
  | zero => intro f acc l ln hf; simp; exact scI_fuel _ _ _ _ _ (by omega) (Nat.le_refl _)
  | succ h ih =>
    intro f acc l ln hf
    obtain ⟨g, rfl⟩ : ∃ g, f = g + 1 := ⟨f - 1, by omega⟩
    have hs : stepI ln 10 (List.replicate h 10 ++ l) = .skip 1 1 := by unfold stepI; rw [if_pos (by decide)]
    rw [List.replicate_succ, List.cons_append, scI_skip hs]
    show scI g acc (List.replicate h 10 ++ l) (ln + 1) = _
    rw [ih g acc l (ln + 1) (by omega)]
    congr 1
    push_cast
    omega
theorem scI_spaces (n : Nat) : ∀ (f : Nat) (acc : List Tk) (ln : Int), n ≤ f → scI f acc (List.replicate n 32) ln = (some (acc ++ [⟨0, ln, 0, []⟩]), 0) := by
  induction n with
  | zero => intro f acc ln hf; exact scI_nil _ _ _
  | succ n ih =>
    intro f acc ln hf
    obtain ⟨g, rfl⟩ : ∃ g, f = g + 1 := ⟨f - 1, by omega⟩
    have hs : stepI ln 32 (List.replicate n 32) = .skip 1 0 := by unfold stepI; rw [if_neg (by decide), if_pos (.inl (by decide))]
    rw [List.replicate_succ, scI_skip hs]
    show scI g acc (List.replicate n 32) (ln + 0) = _
    rw [Int.add_zero]
    exact ih g acc ln (by omega)
def digs7 : Bt := [57, 50, 50, 51, 51, 55, 50, 48, 51, 54, 56, 53, 52, 55, 55, 53, 56, 48, 55]
def digs8 : Bt := [57, 50, 50, 51, 51, 55, 50, 48, 51, 54, 56, 53, 52, 55, 55, 53, 56, 48, 56]
theorem lim_scan (h : Nat) (l : Bt) : scan (rep [10] h ++ l) = scI l.length [] l (1 + h) := by
  unfold scan
  rw [rep_one]
  exact scI_head h _ _ _ _ (by rw [List.length_append, List.length_replicate]; exact Nat.le_refl _)
theorem lim_name (h : Nat) : scan (rep [10] h ++ (120 :: List.replicate 31 121)) = (some [⟨1, 1 + h, 0, 120 :: List.replicate 31 121⟩, ⟨0, 1 + h, 0, []⟩], 0) := by
  rw [lim_scan]
  have hs : stepI (1 + (h : Int)) 120 (List.replicate 31 121) = .tok ⟨1, 1 + h, 0, 120 :: List.replicate 31 121⟩ := by rfl
  show scI 32 [] (120 :: List.replicate 31 121) (1 + h) = _
  rw [scI_tok hs]
  rfl
theorem lim_name1 (h : Nat) : scan (rep [10] h ++ (120 :: List.replicate 32 121)) = (none, 1 + (h : Int)) := by
  rw [lim_scan]
  have hs : stepI (1 + (h : Int)) 120 (List.replicate 32 121) = .bad := by rfl
  show scI 33 [] (120 :: List.replicate 32 121) (1 + h) = _
  rw [scI_bad hs]
theorem lim_num (h : Nat) : scan (rep [10] h ++ digs7) = (some [⟨2, 1 + h, 9223372036854775807, digs7⟩, ⟨0, 1 + h, 0, []⟩], 0) := by
  rw [lim_scan]
  have hs : stepI (1 + (h : Int)) 57 [50, 50, 51, 51, 55, 50, 48, 51, 54, 56, 53, 52, 55, 55, 53, 56, 48, 55] = .tok ⟨2, 1 + h, 9223372036854775807, digs7⟩ :=
    step_digits (by decide) (by decide) (by decide) (by decide +kernel) (by simp [Lib.itoa, Lib.decDigits]; decide) (by decide)
  show scI 19 [] (57 :: _) (1 + h) = _
  rw [scI_tok hs]
  rfl
theorem nx_digits {b : UInt8} {r : Bt} (h1 : lt8 b = false) (h2 : dg8 b = true) : nxI (b :: r) = (match Lib.atoiAll (run dg8 (b :: r)) with
    | .ok v => (2, v, run dg8 (b :: r), (Lib.itoa v == run dg8 (b :: r)) && decide ((run in8 (b :: r)).length = (run dg8 (b :: r)).length))
    | _ => (2, 0, run dg8 (b :: r), false)) := by
  show (if lt8 b then _ else _) = _
  rw [h1]; simp only [Bool.false_eq_true, if_false]; rw [h2]; simp only [if_true]
  cases Lib.atoiAll (run dg8 (b :: r)) <;> rfl
theorem lim_num1 (h : Nat) : scan (rep [10] h ++ digs8) = (none, 1 + (h : Int)) := by
  rw [lim_scan]
  have ha : Lib.atoiAll (run dg8 digs8) = .range := by decide +kernel
  have hn : (nxI digs8).2.2.2 = false := by
    have e : nxI digs8 = _ := nx_digits (b := 57) (r := [50, 50, 51, 51, 55, 50, 48, 51, 54, 56, 53, 52, 55, 55, 53, 56, 48, 56]) (by decide) (by decide)
    rw [e]
    have ha' : Lib.atoiAll (run dg8 (57 :: [50, 50, 51, 51, 55, 50, 48, 51, 54, 56, 53, 52, 55, 55, 53, 56, 48, 56])) = .range := ha
    rw [ha']
  have hs : stepI (1 + (h : Int)) 57 [50, 50, 51, 51, 55, 50, 48, 51, 54, 56, 53, 52, 55, 55, 53, 56, 48, 56] = .bad := by
    unfold stepI
    rw [if_neg (by decide), if_neg (by decide), if_neg (by decide), if_neg]
    show ¬ (nxI digs8).2.2.2 = true
    rw [hn]
    simp
  show scI 19 [] (57 :: _) (1 + h) = _
  rw [scI_bad hs]
theorem lim_space : scan (rep [32] 65536) = (some [⟨0, 1, 0, []⟩], 0) := by
  unfold scan
  rw [rep_one]
  exact scI_spaces _ _ _ _ (by rw [List.length_replicate]; exact Nat.le_refl _)
end Go.Proofs.YthcagbplolcbpaaDoor
