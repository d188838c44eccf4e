/-
  PLAIN: the reference's search for an operation is the plain one. (Filled in from a template of this repo.)
-/
import Derived.Test.YtlbjdglgnkajnaaDoorQsO
namespace Go.Proofs.YtlbjdglgnkajnaaDoor
set_option linter.unusedVariables false
set_option linter.unusedSimpArgs false

theorem isT_sign {rest : List Tk} (h : EndT rest) {t : Bt} (ht : isW t = false) : isT t rest = (kOf rest == 4 && tOf rest == t) := by
  match rest, h with
  | [x], h =>
    have h0 : x.k = 0 := h
    simp [isT, kOf, h0]
  | x :: y :: r, h =>
    have h3 := h.1.2.1
    by_cases hk : x.k = 3
    · have hw := h3 hk
      have : x.t ≠ t := fun e => by rw [e, ht] at hw; cases hw
      simp [isT, kOf, tOf, hk, this]
    · have hk2 : (x.k == 3) = false := by rw [beq_eq_false_iff_ne]; exact hk
      simp only [isT, kOf, tOf, hk2, Bool.false_or]
theorem opF_cmp {rest : List Tk} (h : EndT rest) : opF false rest [([60], 8), ([60, 61], 9), ([61, 61], 10), ([33, 61], 11)] = (if opIn 8 11 rest = 0 then none else some (opIn 8 11 rest)) := by
  have e1 := isT_sign h (t := [60]) (by decide)
  have e2 := isT_sign h (t := [60, 61]) (by decide)
  have e3 := isT_sign h (t := [61, 61]) (by decide)
  have e4 := isT_sign h (t := [33, 61]) (by decide)
  obtain ⟨x, r, rfl⟩ := h.cons
  simp only [opF, e1, e2, e3, e4, kOf, tOf, opIn]
  by_cases hk : x.k = 4
  · simp only [hk]
    unfold opOf
    by_cases a1 : x.t = [60]
    · simp [a1]
    by_cases a2 : x.t = [60, 61]
    · simp [a2]
    by_cases a3 : x.t = [61, 61]
    · simp [a3]
    by_cases a4 : x.t = [33, 61]
    · simp [a4]
    have hv : (if x.t = [43] then (3 : Int) else if x.t = [45] then 4 else if x.t = [42] then 5 else if x.t = [47] then 6 else if x.t = [37] then 7 else 0) ≤ 7 := by
      repeat' split
      all_goals omega
    rw [if_neg a1, if_neg a2, if_neg a3, if_neg a4]
    generalize (if x.t = [43] then (3 : Int) else if x.t = [45] then 4 else if x.t = [42] then 5 else if x.t = [47] then 6 else if x.t = [37] then 7 else 0) = v at hv ⊢
    have hn : ¬ (8 ≤ v) := by omega
    simp [a1, a2, a3, a4, hn]
  · simp [hk]
theorem opF_sum {rest : List Tk} (h : EndT rest) : opF false rest [([43], 3), ([45], 4)] = (if opIn 3 4 rest = 0 then none else some (opIn 3 4 rest)) := by
  have e0 := isT_sign h (t := [43]) (by decide)
  have e1 := isT_sign h (t := [45]) (by decide)
  obtain ⟨x, r, rfl⟩ := h.cons
  simp only [opF, e0, e1, kOf, tOf, opIn]
  by_cases hk : x.k = 4
  · simp only [hk]
    by_cases a0 : x.t = [43]
    · simp [a0, opOf]
    by_cases a1 : x.t = [45]
    · simp [a1, opOf]
    have hv : opOf x.t < 3 ∨ 4 < opOf x.t := by
      unfold opOf
      repeat' split
      all_goals first | omega | (rename_i hz; exact absurd hz a0) | (rename_i hz; exact absurd hz a1)
    generalize opOf x.t = v at hv ⊢
    have hn : ¬ (3 ≤ v ∧ v ≤ 4) := by omega
    simp [a0, a1, hn]
  · simp [hk]
theorem opF_term {rest : List Tk} (h : EndT rest) : opF false rest [([42], 5), ([47], 6), ([37], 7)] = (if opIn 5 7 rest = 0 then none else some (opIn 5 7 rest)) := by
  have e0 := isT_sign h (t := [42]) (by decide)
  have e1 := isT_sign h (t := [47]) (by decide)
  have e2 := isT_sign h (t := [37]) (by decide)
  obtain ⟨x, r, rfl⟩ := h.cons
  simp only [opF, e0, e1, e2, kOf, tOf, opIn]
  by_cases hk : x.k = 4
  · simp only [hk]
    by_cases a0 : x.t = [42]
    · simp [a0, opOf]
    by_cases a1 : x.t = [47]
    · simp [a1, opOf]
    by_cases a2 : x.t = [37]
    · simp [a2, opOf]
    have hv : opOf x.t < 5 ∨ 7 < opOf x.t := by
      unfold opOf
      repeat' split
      all_goals first | omega | (rename_i hz; exact absurd hz a0) | (rename_i hz; exact absurd hz a1) | (rename_i hz; exact absurd hz a2)
    generalize opOf x.t = v at hv ⊢
    have hn : ¬ (5 ≤ v ∧ v ≤ 7) := by omega
    simp [a0, a1, a2, hn]
  · simp [hk]
end Go.Proofs.YtlbjdglgnkajnaaDoor
