/-
  PLAIN WORDS: the tokens of a text. No walk. (Filled in from a template of this repo.)
-/
import Derived.Test.YthcagbplolcbpaaDoorTkN
namespace Go.Proofs.YthcagbplolcbpaaDoor
open Go.ChangeShapes Go.WideShapes Go.ChangeAt Go.RowKit
set_option linter.unusedVariables false
set_option linter.unusedSimpArgs false

/-- a token -/
structure Tk where
  k : Int
  n : Int
  v : Int
  t : Bt
deriving DecidableEq
abbrev tkc (x : Tk) : List Value := [.int .i64 x.k, .int .i64 x.n, .int .i64 x.v, .string (st x.t)]
def tkcs (l : List Tk) : List Value := l.flatMap tkc
theorem tkcs_len (l : List Tk) : (tkcs l).length = l.length * 4 := by
  induction l with
  | nil => rfl
  | cons s l ih => unfold tkcs at ih ⊢; rw [List.flatMap_cons, List.length_append, ih]; show 4 + _ = (l.length + 1) * 4; omega
theorem tkcs_push (l : List Tk) (x : Tk) : tkcs l ++ tkc x = tkcs (l ++ [x]) := by unfold tkcs; simp
theorem tkcs_get (l : List Tk) (j : Nat) (s : Tk) (h : l[j]? = some s) : (tkcs l)[j * 4]? = some (.int .i64 s.k) ∧ (tkcs l)[j * 4 + 1]? = some (.int .i64 s.n) ∧ (tkcs l)[j * 4 + 2]? = some (.int .i64 s.v) ∧ (tkcs l)[j * 4 + 3]? = some (.string (st s.t)) := by
  induction l generalizing j with
  | nil => simp at h
  | cons x l ih =>
    cases j with
    | zero => simp at h; subst h; exact ⟨rfl, rfl, rfl, rfl⟩
    | succ j =>
      have := ih j (by simpa using h)
      have e1 : (j + 1) * 4 = j * 4 + 1 + 1 + 1 + 1 := by omega
      rw [e1]
      exact this
theorem tkcs_one (l : List Tk) : ∀ u ∈ tkcs l, u.oneCell' = true := by
  intro u hu
  unfold tkcs at hu
  rw [List.mem_flatMap] at hu
  obtain ⟨s, _, hs⟩ := hu
  simp at hs
  rcases hs with rfl | rfl | rfl | rfl <;> rfl
/-- what a step of the scan does with a text that is not empty: how many bytes it takes, lines, and a token; or the error -/
inductive Sc where
  | skip (k : Nat) (d : Int)
  | tok (x : Tk)
  | bad
def stepI (ln : Int) (b : UInt8) (r : Bt) : Sc :=
  if b.toNat = 10 then .skip 1 1
  else if b.toNat = 32 ∨ b.toNat = 9 then .skip 1 0
  else if b.toNat = 35 then .skip (run nl8 (b :: r)).length 0
  else if (nxI (b :: r)).2.2.2 = true then .tok ⟨(nxI (b :: r)).1, ln, (nxI (b :: r)).2.1, (nxI (b :: r)).2.2.1⟩
  else .bad
/-- the tokens: some fuel, those so far, the text, the line -/
def scI : Nat → List Tk → Bt → Int → Option (List Tk) × Int
  | _, acc, [], ln => (some (acc ++ [⟨0, ln, 0, []⟩]), 0)
  | 0, _, _ :: _, ln => (none, ln)
  | f + 1, acc, b :: r, ln =>
    match stepI ln b r with
    | .skip k d => scI f acc ((b :: r).drop k) (ln + d)
    | .tok x => scI f (acc ++ [x]) ((b :: r).drop x.t.length) ln
    | .bad => (none, ln)
theorem scI_nil (f : Nat) (acc : List Tk) (ln : Int) : scI f acc [] ln = (some (acc ++ [⟨0, ln, 0, []⟩]), 0) := by cases f <;> rfl
theorem nl_pos (b : UInt8) (r : Bt) (h : b.toNat ≠ 10) : 1 ≤ (run nl8 (b :: r)).length := by
  unfold run
  rw [List.takeWhile_cons, show nl8 b = true by unfold nl8; simp [h], if_pos rfl]
  simp
theorem nx_pos {b : UInt8} {r : Bt} (h : (nxI (b :: r)).2.2.2 = true) : 1 ≤ (nxI (b :: r)).2.2.1.length := by
  have key : ∀ p : UInt8 → Bool, p b = true → 1 ≤ (run p (b :: r)).length := fun p hp => by
    unfold run
    rw [List.takeWhile_cons, hp, if_pos rfl]
    simp
  unfold nxI at h ⊢
  dsimp only at h ⊢
  by_cases h1 : lt8 b = true
  · rw [if_pos h1] at h ⊢
    exact key in8 (by unfold in8; rw [h1]; rfl)
  · rw [if_neg h1] at h ⊢
    by_cases h2 : dg8 b = true
    · rw [if_pos h2] at h ⊢
      have := key dg8 h2
      cases h3 : Lib.atoiAll (run dg8 (b :: r)) <;> first | exact this | (simp at h)
    · rw [if_neg h2] at h ⊢
      by_cases h3 : 1 < (b :: r).length ∧ isS ((b :: r).take 2) = true
      · rw [if_pos h3] at h ⊢
        simp [List.length_take]
      · rw [if_neg h3] at h ⊢
        simp
/-- all that Scan gives -/
def scan (l : Bt) : Option (List Tk) × Int := scI l.length [] l 1
/-- fuel enough is fuel enough -/
theorem scI_fuel : ∀ (f g : Nat) (acc : List Tk) (l : Bt) (ln : Int), l.length ≤ f → l.length ≤ g → scI f acc l ln = scI g acc l ln := by
  intro f
  induction f with
  | zero =>
    intro g acc l ln h1 h2
    cases l with
    | nil => rw [scI_nil, scI_nil]
    | cons b r => simp at h1
  | succ f ih =>
    intro g acc l ln h1 h2
    cases l with
    | nil => rw [scI_nil, scI_nil]
    | cons b r =>
      cases g with
      | zero => simp at h2
      | succ g =>
        simp only [List.length_cons] at h1 h2
        show (match stepI ln b r with | .skip k d => _ | .tok x => _ | .bad => _) = (match stepI ln b r with | .skip k d => _ | .tok x => _ | .bad => _)
        cases hst : stepI ln b r with
        | skip k d =>
          have hk : 1 ≤ k := by
            unfold stepI at hst
            split at hst
            · injection hst with e1 e2; omega
            · rename_i hb
              split at hst
              · injection hst with e1 e2; omega
              · split at hst
                · injection hst with e1 e2; subst e1; exact nl_pos b r hb
                · split at hst <;> cases hst
          exact ih g acc _ _ (by rw [List.length_drop, List.length_cons]; omega) (by rw [List.length_drop, List.length_cons]; omega)
        | tok x =>
          have hk : 1 ≤ x.t.length := by
            unfold stepI at hst
            split at hst
            · cases hst
            · split at hst
              · cases hst
              · split at hst
                · cases hst
                · split at hst
                  · rename_i hok; injection hst with e1; subst e1; exact nx_pos hok
                  · cases hst
          exact ih g _ _ _ (by rw [List.length_drop, List.length_cons]; omega) (by rw [List.length_drop, List.length_cons]; omega)
        | bad => rfl
theorem step_pos {ln : Int} {b : UInt8} {r : Bt} {k : Nat} {d : Int} (hst : stepI ln b r = .skip k d) : 1 ≤ k := by
  unfold stepI at hst
  split at hst
  · injection hst with e1 e2; omega
  · rename_i hb
    split at hst
    · injection hst with e1 e2; omega
    · split at hst
      · injection hst with e1 e2; subst e1; exact nl_pos b r hb
      · split at hst <;> cases hst
theorem nx_le (l : Bt) : (nxI l).2.2.1.length ≤ l.length := by
  cases l with
  | nil => simp [nxI]
  | cons b r =>
    unfold nxI
    dsimp only
    by_cases h1 : lt8 b = true
    · rw [if_pos h1]; exact run_len _ _
    · rw [if_neg h1]
      by_cases h2 : dg8 b = true
      · rw [if_pos h2]
        cases h3 : Lib.atoiAll (run dg8 (b :: r)) <;> exact run_len _ _
      · rw [if_neg h2]
        by_cases h3 : 1 < (b :: r).length ∧ isS ((b :: r).take 2) = true
        · rw [if_pos h3]; simp only [List.length_take]; omega
        · rw [if_neg h3]; simp only [List.length_take]; omega
theorem sc_skip {x y : ByteArray} {acc : List Tk} {ln d : Int} {b : UInt8} {r : Bt} {k : Nat} (hx : x.data.toList = b :: r) (hst : stepI ln b r = .skip k d) (hy : y.data.toList = (b :: r).drop k) :
    scI x.size acc x.data.toList ln = scI y.size acc y.data.toList (ln + d) := by
  have hk := step_pos hst
  have e1 : x.size = r.length + 1 := by rw [← st_len, hx]; rfl
  have e2 : y.size = r.length + 1 - k := by rw [← st_len, hy, List.length_drop]; rfl
  rw [e1, hx]
  show (match stepI ln b r with | .skip k d => _ | .tok x => _ | .bad => _) = _
  rw [hst]
  show scI r.length acc ((b :: r).drop k) (ln + d) = _
  rw [← hy]
  exact scI_fuel _ _ _ _ _ (by rw [st_len]; omega) (by rw [st_len]; omega)
theorem sc_tok {x y : ByteArray} {acc : List Tk} {ln : Int} {b : UInt8} {r : Bt} {z : Tk} (hx : x.data.toList = b :: r) (hst : stepI ln b r = .tok z) (hk : 1 ≤ z.t.length) (hy : y.data.toList = (b :: r).drop z.t.length) :
    scI x.size acc x.data.toList ln = scI y.size (acc ++ [z]) y.data.toList ln := by
  have e1 : x.size = r.length + 1 := by rw [← st_len, hx]; rfl
  have e2 : y.size = r.length + 1 - z.t.length := by rw [← st_len, hy, List.length_drop]; rfl
  rw [e1, hx]
  show (match stepI ln b r with | .skip k d => _ | .tok x => _ | .bad => _) = _
  rw [hst]
  show scI r.length (acc ++ [z]) ((b :: r).drop z.t.length) ln = _
  rw [← hy]
  exact scI_fuel _ _ _ _ _ (by rw [st_len]; omega) (by rw [st_len]; omega)
theorem sc_bad {x : ByteArray} {acc : List Tk} {ln : Int} {b : UInt8} {r : Bt} (hx : x.data.toList = b :: r) (hst : stepI ln b r = .bad) : scI x.size acc x.data.toList ln = (none, ln) := by
  have e1 : x.size = r.length + 1 := by rw [← st_len, hx]; rfl
  rw [e1, hx]
  show (match stepI ln b r with | .skip k d => _ | .tok x => _ | .bad => _) = _
  rw [hst]
theorem ext_end (x : ByteArray) (k : Nat) : (x.extract k x.size).data.toList = x.data.toList.drop k := by
  rw [st_ext]
  simp
  rw [List.take_of_length_le (by rw [st_len]; exact Nat.le_refl _)]
end Go.Proofs.YthcagbplolcbpaaDoor
