/-
  PLAIN MATHEMATICS of chapter 43: thresholds. No program in sight.
-/
import Derived.Test.YtjlalilhmadmcaaPlain
namespace Go.Proofs.Ytjlalilhmadmcaa

/-- t is the least number that is significant, n + 1 if none is -/
def IsThr (n num den t : Nat) : Prop := t ≤ n + 1 ∧ (∀ j, j < t → sig n j num den = false) ∧ (t ≤ n → sig n t num den = true)
theorem IsThr.unique {n num den t u : Nat} (h : IsThr n num den t) (k : IsThr n num den u) : t = u := by
  rcases Nat.lt_trichotomy t u with hlt | heq | hgt
  · have h1 := k.2.1 t hlt
    have h2 := h.2.2 (by have := k.1; omega)
    rw [h1] at h2; cases h2
  · exact heq
  · have h1 := h.2.1 u hgt
    have h2 := k.2.2 (by have := h.1; omega)
    rw [h1] at h2; cases h2
def thrOf (n num den : Nat) : Nat := ((List.range (n + 1)).find? fun k => sig n k num den).getD (n + 1)
theorem isThr_thrOf (n num den : Nat) : IsThr n num den (thrOf n num den) := by
  unfold thrOf
  cases h : (List.range (n + 1)).find? fun k => sig n k num den with
  | none =>
    rw [List.find?_eq_none] at h
    refine ⟨Nat.le_refl _, fun j hj => ?_, fun hk => absurd hk (by simp)⟩
    have := h j (List.mem_range.2 hj)
    simpa using this
  | some i =>
    rw [List.find?_range_eq_some] at h
    obtain ⟨h1, h2, h3⟩ := h
    refine ⟨by have := List.mem_range.1 h2; simp; omega, fun j hj => ?_, fun _ => h1⟩
    have := h3 j hj
    simpa using this
theorem IsThr.eq {n num den t : Nat} (h : IsThr n num den t) : t = thrOf n num den := h.unique (isThr_thrOf n num den)
theorem thrOf_le (n num den : Nat) : thrOf n num den ≤ n + 1 := (isThr_thrOf n num den).1

theorem sig_anti (n num den : Nat) : ∀ d k, sig n k num den = true → sig n (k + d) num den = true := by
  intro d
  induction d with
  | zero => intro k h; exact h
  | succ d ih => intro k h; exact sig_mono n (k + d) num den (ih k h)
theorem sig_thr (n num den j : Nat) (hj : j ≤ n) : sig n j num den = decide (thrOf n num den ≤ j) := by
  obtain ⟨h1, h2, h3⟩ := isThr_thrOf n num den
  by_cases h : thrOf n num den ≤ j
  · have := sig_anti n num den (j - thrOf n num den) _ (h3 (by omega))
    rw [show thrOf n num den + (j - thrOf n num den) = j by omega] at this
    simp [this, h]
  · simp [h2 j (by omega), h]
theorem sig_less (n k num den : Nat) (h : sig (n + 1) k num den = true) : sig n k num den = true := by
  simp only [sig, decide_eq_true_eq] at h ⊢
  have h1 : 2 * tl n k ≤ tl (n + 1) k := by
    cases k with
    | zero => show 2 * tl n 0 ≤ tl n 0 + tl n 0; omega
    | succ k => have := tl_mono n k; show 2 * tl n (k + 1) ≤ tl n k + tl n (k + 1); omega
  have h2 : 2 * tl n k * den ≤ tl (n + 1) k * den := Nat.mul_le_mul_right den h1
  rw [Nat.mul_assoc] at h2
  rw [Nat.pow_succ, Nat.mul_comm (2 ^ n) 2, Nat.mul_assoc] at h
  omega
theorem thr_up (n num den : Nat) : thrOf n num den ≤ thrOf (n + 1) num den ∧ thrOf (n + 1) num den ≤ thrOf n num den + 1 := by
  obtain ⟨h1, h2, h3⟩ := isThr_thrOf n num den
  obtain ⟨k1, k2, k3⟩ := isThr_thrOf (n + 1) num den
  constructor
  · by_cases h : thrOf n num den ≤ thrOf (n + 1) num den
    · exact h
    · have e1 := sig_less n _ num den (k3 (by omega))
      have e2 := h2 (thrOf (n + 1) num den) (by omega)
      rw [e1] at e2; cases e2
  · by_cases h : thrOf (n + 1) num den ≤ thrOf n num den + 1
    · exact h
    · have e1 := sig_more n _ num den (h3 (by omega))
      have e2 := k2 (thrOf n num den + 1) (by omega)
      rw [e1] at e2; cases e2
end Go.Proofs.Ytjlalilhmadmcaa
