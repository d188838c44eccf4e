/-
  PLAIN MATHEMATICS of chapter 43 (statistics): binomial numbers, their tails, and what they add up to. No program in sight.
-/
namespace Go.Proofs.Ytjlalilhmadmcaa

/-- binomial numbers -/
def bin : Nat → Nat → Nat
  | _, 0 => 1
  | 0, _ + 1 => 0
  | n + 1, k + 1 => bin n k + bin n (k + 1)

/-- tails: how many subsets of a set of n have at least k elements -/
def tl : Nat → Nat → Nat
  | 0, 0 => 1
  | 0, _ + 1 => 0
  | n + 1, 0 => tl n 0 + tl n 0
  | n + 1, k + 1 => tl n k + tl n (k + 1)

theorem bin_zero (n : Nat) : bin n 0 = 1 := by cases n <;> rfl
theorem bin_succ (n k : Nat) : bin (n + 1) (k + 1) = bin n k + bin n (k + 1) := rfl
theorem bin_gt : ∀ n k, n < k → bin n k = 0 := by
  intro n
  induction n with
  | zero => intro k h; cases k with | zero => omega | succ k => rfl
  | succ n ih => intro k h; cases k with | zero => omega | succ k => rw [bin_succ, ih k (by omega), ih (k + 1) (by omega)]
theorem bin_self : ∀ n, bin n n = 1 := by
  intro n
  induction n with
  | zero => rfl
  | succ n ih => rw [bin_succ, ih, bin_gt n (n + 1) (by omega)]
theorem tl_step : ∀ n k, tl n k = bin n k + tl n (k + 1) := by
  intro n
  induction n with
  | zero => intro k; cases k <;> rfl
  | succ n ih =>
    intro k
    cases k with
    | zero =>
      have h0 := ih 0
      rw [bin_zero, Nat.zero_add] at h0
      show tl n 0 + tl n 0 = bin (n + 1) 0 + (tl n 0 + tl n 1)
      rw [bin_zero]; omega
    | succ k =>
      show tl n k + tl n (k + 1) = (bin n k + bin n (k + 1)) + (tl n (k + 1) + tl n (k + 1 + 1))
      have h0 := ih k
      have h1 := ih (k + 1)
      omega
theorem tl_gt : ∀ n k, n < k → tl n k = 0 := by
  intro n
  induction n with
  | zero => intro k h; cases k with | zero => omega | succ k => rfl
  | succ n ih =>
    intro k h
    cases k with
    | zero => omega
    | succ k => show tl n k + tl n (k + 1) = 0; rw [ih k (by omega), ih (k + 1) (by omega)]
theorem tl_zero : ∀ n, tl n 0 = 2 ^ n := by
  intro n
  induction n with
  | zero => rfl
  | succ n ih => show tl n 0 + tl n 0 = 2 ^ (n + 1); rw [ih]; omega
theorem tl_self (n : Nat) : tl n n = 1 := by rw [tl_step, bin_self, tl_gt n (n + 1) (by omega)]
theorem tl_mono (n k : Nat) : tl n (k + 1) ≤ tl n k := by have := tl_step n k; omega
theorem tl_anti (n : Nat) : ∀ d k, tl n (k + d) ≤ tl n k := by
  intro d
  induction d with
  | zero => intro k; exact Nat.le_refl _
  | succ d ih => intro k; exact Nat.le_trans (tl_mono n (k + d)) (ih k)
theorem tl_le (n k : Nat) : tl n k ≤ 2 ^ n := by have := tl_anti n k 0; rw [Nat.zero_add, tl_zero] at this; exact this
theorem bin_le (n k : Nat) : bin n k ≤ 2 ^ n := by have := tl_step n k; have := tl_le n k; omega
theorem pow_le60 {n : Nat} (h : n ≤ 60) : 2 ^ n ≤ 1152921504606846976 := by
  have := Nat.pow_le_pow_right (n := 2) (by omega) h
  exact this
theorem bin_le60 {n : Nat} (h : n ≤ 60) (k : Nat) : bin n k ≤ 1152921504606846976 := Nat.le_trans (bin_le n k) (pow_le60 h)
theorem tl_le60 {n : Nat} (h : n ≤ 60) (k : Nat) : tl n k ≤ 1152921504606846976 := Nat.le_trans (tl_le n k) (pow_le60 h)
/-- the tails of a row add up to a power of 2 -/
theorem tl_sym : ∀ n k j, k + j = n + 1 → tl n k + tl n j = 2 ^ n := by
  intro n
  induction n with
  | zero =>
    intro k j h
    have : (k = 0 ∧ j = 1) ∨ (k = 1 ∧ j = 0) := by omega
    rcases this with ⟨rfl, rfl⟩ | ⟨rfl, rfl⟩ <;> rfl
  | succ n ih =>
    intro k j h
    cases k with
    | zero => rw [tl_zero, tl_gt (n + 1) j (by omega)]; rfl
    | succ k =>
      cases j with
      | zero => rw [tl_zero, tl_gt (n + 1) (k + 1) (by omega)]; omega
      | succ j =>
        show tl n k + tl n (k + 1) + (tl n j + tl n (j + 1)) = 2 ^ (n + 1)
        have h1 := ih k (j + 1) (by omega)
        have h2 := ih (k + 1) j (by omega)
        rw [Nat.pow_succ]; omega

/-- a tail is significant at a level num / den -/
def sig (n k num den : Nat) : Bool := decide (tl n k * den ≤ 2 ^ n * num)

theorem sig_mono (n k num den : Nat) (h : sig n k num den = true) : sig n (k + 1) num den = true := by
  simp only [sig, decide_eq_true_eq] at h ⊢
  exact Nat.le_trans (Nat.mul_le_mul_right den (tl_mono n k)) h
theorem sig_gt (n k num den : Nat) (h : n < k) : sig n k num den = true := by
  simp only [sig, decide_eq_true_eq]
  rw [tl_gt n k h]; omega
theorem sig_more (n k num den : Nat) (h : sig n k num den = true) : sig (n + 1) (k + 1) num den = true := by
  simp only [sig, decide_eq_true_eq] at h ⊢
  have h1 : tl (n + 1) (k + 1) ≤ 2 * tl n k := by have := tl_mono n k; show tl n k + tl n (k + 1) ≤ _; omega
  calc tl (n + 1) (k + 1) * den ≤ 2 * tl n k * den := Nat.mul_le_mul_right den h1
    _ = 2 * (tl n k * den) := by rw [Nat.mul_assoc]
    _ ≤ 2 * (2 ^ n * num) := Nat.mul_le_mul_left 2 h
    _ = 2 ^ (n + 1) * num := by rw [Nat.pow_succ, Nat.mul_comm (2 ^ n) 2, Nat.mul_assoc]
theorem sig_level (n k num num' den : Nat) (hn : num ≤ num') (h : sig n k num den = true) : sig n k num' den = true := by
  simp only [sig, decide_eq_true_eq] at h ⊢
  exact Nat.le_trans h (Nat.mul_le_mul_left _ hn)
/-- half of the pairs worse: never significant below one half -/
theorem sig_half (m num den : Nat) (h1 : num < 50) (h2 : 100 ≤ den) : sig (2 * m) m num den = false := by
  simp only [sig, decide_eq_false_iff_not, Nat.not_le]
  have hs := tl_sym (2 * m) m (m + 1) (by omega)
  have hm := tl_mono (2 * m) m
  have hp : 0 < 2 ^ (2 * m) := Nat.pow_pos (by omega)
  have h3 : 2 ^ (2 * m) ≤ 2 * tl (2 * m) m := by omega
  have h4 : tl (2 * m) m * 100 ≤ tl (2 * m) m * den := Nat.mul_le_mul_left _ h2
  have h5 : 2 ^ (2 * m) * num ≤ 2 ^ (2 * m) * 49 := Nat.mul_le_mul_left _ (by omega)
  omega
theorem sig_all (m num den : Nat) : sig m m num den = decide (den ≤ 2 ^ m * num) := by simp [sig, tl_self]

/-- the least number that is significant: looked for from k on, with fuel -/
def thr (n num den : Nat) : Nat → Nat → Nat
  | 0, k => k
  | f + 1, k => if k ≤ n ∧ sig n k num den = false then thr n num den f (k + 1) else k
end Go.Proofs.Ytjlalilhmadmcaa
