/-
  PLAIN: numbers of variable length, and the checksum. No program in sight.
-/
namespace Go.Proofs.YtkgdogccnkjcgaaDoor

/-- the encoding of a number -/
def uenc (n : Nat) : List Nat := if n < 128 then [n] else (n % 128 + 128) :: uenc (n / 128)
termination_by n
theorem uenc_small {n : Nat} (h : n < 128) : uenc n = [n] := by unfold uenc; rw [if_pos h]
theorem uenc_big {n : Nat} (h : ¬ n < 128) : uenc n = (n % 128 + 128) :: uenc (n / 128) := by rw [uenc]; rw [if_neg h]
theorem uenc_pos (n : Nat) : 1 ≤ (uenc n).length := by
  by_cases h : n < 128
  · rw [uenc_small h]; simp
  · rw [uenc_big h]; simp
theorem uenc_len : ∀ (k n : Nat), n < 128 ^ (k + 1) → (uenc n).length ≤ k + 1
  | 0, n, h => by rw [uenc_small (by simpa using h)]; simp
  | k + 1, n, h => by
    by_cases hs : n < 128
    · rw [uenc_small hs]; simp
    · rw [uenc_big hs]
      have := uenc_len k (n / 128) (by rw [Nat.pow_succ] at h; omega)
      simp; omega
theorem uenc_len10 {n : Nat} (h : n < 18446744073709551616) : (uenc n).length ≤ 10 := uenc_len 9 n (by have : (128 : Nat) ^ 10 = 1180591620717411303424 := by decide
                                                                                                       omega)
theorem uenc_byt (n : Nat) : ∀ x ∈ uenc n, x < 256 := by
  induction n using Nat.strongRecOn with
  | ind n ih =>
    by_cases hs : n < 128
    · rw [uenc_small hs]; intro x hx; simp at hx; omega
    · rw [uenc_big hs]; intro x hx
      simp only [List.mem_cons] at hx
      rcases hx with rfl | hx
      · omega
      · exact ih (n / 128) (by omega) x hx
/-- a longer encoding is a greater number -/
theorem uenc_mono : ∀ (n m : Nat), (uenc n).length < (uenc m).length → n < m := by
  intro n
  induction n using Nat.strongRecOn with
  | ind n ih =>
    intro m h
    by_cases hm : m < 128
    · rw [uenc_small hm] at h; have := uenc_pos n; simp only [List.length_singleton] at h; omega
    · by_cases hn : n < 128
      · omega
      · rw [uenc_big hn, uenc_big hm] at h
        have := ih (n / 128) (by omega) (m / 128) (by simpa using h)
        omega

/-- what bytes mean as a number: the number, its length, the error -/
def udF : Nat → List Nat → Nat → Nat → Nat × Nat × Nat
  | 0, _, _, _ => (0, 0, 3)
  | f + 1, l, i, acc =>
    if i = l.length then (0, 0, 2)
    else if (i = 9 ∧ 1 < l.getD i 0) ∨ (l.getD i 0 = 0 ∧ 0 < i) then (0, 0, 3)
    else if l.getD i 0 < 128 then (acc + l.getD i 0 % 128 * 128 ^ i, i + 1, 0)
    else udF f l (i + 1) (acc + l.getD i 0 % 128 * 128 ^ i)
def ud (l : List Nat) : Nat × Nat × Nat := udF 10 l 0 0
theorem udF_bd : ∀ (f : Nat) (l : List Nat) (i acc : Nat), f + i = 10 → acc < 128 ^ i → i ≤ l.length → (udF f l i acc).1 < 18446744073709551616 ∧ (udF f l i acc).2.1 ≤ 10 ∧ (udF f l i acc).2.1 ≤ l.length ∧ (udF f l i acc).2.2 ≤ 3 ∧ ((udF f l i acc).2.2 ≠ 0 → (udF f l i acc).1 = 0 ∧ (udF f l i acc).2.1 = 0)
  | 0, l, i, acc, _, _, _ => by simp [udF]
  | f + 1, l, i, acc, hf, ha, hi => by
    unfold udF
    split
    · simp
    · split
      · simp
      · rename_i h1 h2
        have hmod : l.getD i 0 % 128 < 128 := Nat.mod_lt _ (by omega)
        have hacc : acc + l.getD i 0 % 128 * 128 ^ i < 128 ^ (i + 1) := by
          have : l.getD i 0 % 128 * 128 ^ i ≤ 127 * 128 ^ i := Nat.mul_le_mul_right _ (by omega)
          rw [Nat.pow_succ]; omega
        split
        · rename_i h3
          simp only
          refine ⟨?_, by omega, by omega, by omega, fun h => absurd rfl h⟩
          by_cases h9 : i = 9
          · subst h9
            have hx : l.getD 9 0 ≤ 1 := by omega
            have : l.getD 9 0 % 128 * 128 ^ 9 ≤ 1 * 128 ^ 9 := Nat.mul_le_mul_right _ (by omega)
            have e : (128 : Nat) ^ 9 = 9223372036854775808 := by decide
            omega
          · have : (128 : Nat) ^ (i + 1) ≤ 128 ^ 9 := Nat.pow_le_pow_right (by omega) (by omega)
            have e : (128 : Nat) ^ 9 = 9223372036854775808 := by decide
            omega
        · exact udF_bd f l (i + 1) _ (by omega) hacc (by omega)
theorem ud_bd (l : List Nat) : (ud l).1 < 18446744073709551616 ∧ (ud l).2.1 ≤ 10 ∧ (ud l).2.1 ≤ l.length ∧ (ud l).2.2 ≤ 3 ∧ ((ud l).2.2 ≠ 0 → (ud l).1 = 0 ∧ (ud l).2.1 = 0) := udF_bd 10 l 0 0 rfl (by decide) (by omega)
theorem getD_append_right {α : Type} (xs ys : List α) (j : Nat) (d : α) : (xs ++ ys).getD (xs.length + j) d = ys.getD j d := by
  simp only [List.getD]
  rw [List.getElem?_append_right (by omega), Nat.add_sub_cancel_left]
/-- what was encoded is read back -/
theorem udF_enc : ∀ (f n : Nat) (pre more : List Nat) (acc : Nat), f + pre.length = 10 → n * 128 ^ pre.length < 18446744073709551616 → (0 < pre.length → 0 < n) →
    udF f (pre ++ uenc n ++ more) pre.length acc = (acc + n * 128 ^ pre.length, pre.length + (uenc n).length, 0)
  | 0, n, pre, more, acc, hf, hn, h0 => by
    have h10 : pre.length = 10 := by omega
    rw [h10] at hn
    have e : (128 : Nat) ^ 10 = 1180591620717411303424 := by decide
    have := h0 (by omega)
    omega
  | f + 1, n, pre, more, acc, hf, hn, h0 => by
    have hp := uenc_pos n
    have hne : pre.length ≠ (pre ++ uenc n ++ more).length := by simp only [List.length_append]; omega
    have hg : (pre ++ uenc n ++ more).getD pre.length 0 = (uenc n).getD 0 0 := by
      rw [List.append_assoc]
      have := getD_append_right pre (uenc n ++ more) 0 0
      rw [Nat.add_zero] at this
      rw [this]
      cases h : uenc n with
      | nil => rw [h] at hp; simp at hp
      | cons a b => simp [List.getD]
    unfold udF
    rw [if_neg hne, hg]
    have e9 : (128 : Nat) ^ 9 = 9223372036854775808 := by decide
    by_cases hs : n < 128
    · rw [uenc_small hs]
      show (if (pre.length = 9 ∧ 1 < n) ∨ (n = 0 ∧ 0 < pre.length) then _ else if n < 128 then _ else _) = _
      rw [if_neg, if_pos hs]
      · simp [Nat.mod_eq_of_lt hs]
      · rintro (⟨h9, h1⟩ | ⟨h1, h2⟩)
        · rw [h9, e9] at hn; omega
        · have := h0 h2; omega
    · rw [uenc_big hs]
      show (if (pre.length = 9 ∧ 1 < n % 128 + 128) ∨ (n % 128 + 128 = 0 ∧ 0 < pre.length) then _ else if n % 128 + 128 < 128 then _ else _) = _
      rw [if_neg, if_neg (by omega)]
      · have ih := udF_enc f (n / 128) (pre ++ [n % 128 + 128]) more (acc + (n % 128 + 128) % 128 * 128 ^ pre.length) (by simp; omega)
          (by rw [List.length_append, List.length_singleton, Nat.pow_succ, ← Nat.mul_assoc]
              have h1 : n / 128 * 128 ≤ n := Nat.div_mul_le_self n 128
              have h2 : n / 128 * 128 ^ pre.length * 128 = n / 128 * 128 * 128 ^ pre.length := by rw [Nat.mul_assoc, Nat.mul_comm (128 ^ pre.length), ← Nat.mul_assoc]
              have h3 := Nat.mul_le_mul_right (128 ^ pre.length) h1
              omega)
          (by intro _; omega)
        have hl : pre ++ (n % 128 + 128) :: uenc (n / 128) ++ more = pre ++ [n % 128 + 128] ++ uenc (n / 128) ++ more := by simp
        rw [hl]
        rw [List.length_append, List.length_singleton] at ih
        simp only [List.getD_cons_zero]
        rw [ih, List.length_cons]
        have h4 : acc + (n % 128 + 128) % 128 * 128 ^ pre.length + n / 128 * 128 ^ (pre.length + 1) = acc + n * 128 ^ pre.length := by
          have h5 : (n % 128 + 128) % 128 = n % 128 := by omega
          have h6 : n / 128 * 128 ^ (pre.length + 1) = n / 128 * 128 * 128 ^ pre.length := by rw [Nat.pow_succ, Nat.mul_comm (128 ^ pre.length) 128, Nat.mul_assoc]
          rw [h5, h6, Nat.add_assoc, ← Nat.add_mul]
          congr 2
          omega
        rw [h4]
        congr 2
        omega
      · rintro (⟨h9, h1⟩ | ⟨h1, h2⟩)
        · rw [h9, e9] at hn; omega
        · omega
theorem ud_enc {n : Nat} (h : n < 18446744073709551616) (more : List Nat) : ud (uenc n ++ more) = (n, (uenc n).length, 0) := by
  have := udF_enc 10 n [] more 0 rfl (by simpa using h) (by intro h; simp at h)
  simpa [ud] using this

/-- the number that stands for an integer -/
def zig (i : Int) : Nat := if 0 ≤ i then 2 * i.toNat else 2 * (-(i + 1)).toNat + 1
def zag (n : Nat) : Int := if n % 2 = 0 then ((n / 2 : Nat) : Int) else -((n / 2 : Nat) : Int) - 1
theorem zag_zig (i : Int) : zag (zig i) = i := by
  unfold zag zig; split <;> split <;> omega
theorem zig_lt {i : Int} (h1 : -9223372036854775808 ≤ i) (h2 : i ≤ 9223372036854775807) : zig i < 18446744073709551616 := by
  unfold zig; split <;> omega

/-! ### the checksum -/
theorem xor_parity (a b : Nat) : (a ^^^ b) % 2 = (a + b) % 2 := by
  have h := @Nat.xor_mod_two_eq_one a b
  have h1 : a % 2 = 0 ∨ a % 2 = 1 := by omega
  have h2 : b % 2 = 0 ∨ b % 2 = 1 := by omega
  have h3 : (a ^^^ b) % 2 = 0 ∨ (a ^^^ b) % 2 = 1 := by omega
  rcases h1 with h1 | h1 <;> rcases h2 with h2 | h2 <;> rcases h3 with h3 | h3 <;> simp [h1, h2, h3] at h ⊢ <;> omega
theorem xor_left {a b c : Nat} (h : a ^^^ b = a ^^^ c) : b = c := by
  have := congrArg (fun x => a ^^^ x) h
  simpa [← Nat.xor_assoc] using this
theorem xor_right {a b c : Nat} (h : b ^^^ a = c ^^^ a) : b = c := by
  rw [Nat.xor_comm b, Nat.xor_comm c] at h; exact xor_left h
def poly : Nat := 3988292384
def s1 (c : Nat) : Nat := (c / 2) ^^^ (if c % 2 = 1 then poly else 0)
def s4 (c : Nat) : Nat := s1 (s1 (s1 (s1 c)))
def tab : List Nat := [0, 498536548, 997073096, 651767980, 1994146192, 1802195444, 1303535960, 1342533948, 3988292384, 4027552580, 3604390888, 3412177804, 2607071920, 2262029012, 2685067896, 3183342108]
/-- one byte -/
def sB (c x : Nat) : Nat := s4 (s4 (c ^^^ x))
def crcF (c : Nat) (l : List Nat) : Nat := l.foldl sB c
def crc (l : List Nat) : Nat := 4294967295 ^^^ crcF 4294967295 l
theorem s1_xor (a b : Nat) : s1 (a ^^^ b) = s1 a ^^^ s1 b := by
  unfold s1
  rw [Nat.xor_div_two, xor_parity]
  have h1 : a % 2 = 0 ∨ a % 2 = 1 := by omega
  have h2 : b % 2 = 0 ∨ b % 2 = 1 := by omega
  rcases h1 with h1 | h1 <;> rcases h2 with h2 | h2
  · rw [if_neg (by omega), if_neg (by omega), if_neg (by omega)]; simp
  · rw [if_pos (by omega), if_neg (by omega), if_pos (by omega)]; simp [Nat.xor_assoc]
  · rw [if_pos (by omega), if_pos (by omega), if_neg (by omega)]; simp only [Nat.xor_zero]; rw [Nat.xor_assoc, Nat.xor_assoc, Nat.xor_comm (b / 2) poly]
  · rw [if_neg (by omega), if_pos (by omega), if_pos (by omega)]
    rw [Nat.xor_zero, Nat.xor_assoc, ← Nat.xor_assoc poly, Nat.xor_comm poly, Nat.xor_assoc (b / 2), Nat.xor_self, Nat.xor_zero]
theorem s4_xor (a b : Nat) : s4 (a ^^^ b) = s4 a ^^^ s4 b := by simp only [s4, s1_xor]
theorem s1_even (a : Nat) : s1 (2 * a) = a := by unfold s1; rw [if_neg (by omega)]; simp
theorem s4_high (h : Nat) : s4 (16 * h) = h := by
  unfold s4
  rw [show 16 * h = 2 * (2 * (2 * (2 * h))) by omega, s1_even, s1_even, s1_even, s1_even]
theorem s4_low : ∀ l, l < 16 → s4 l = tab.getD l 0 := by decide
theorem xor_split (c : Nat) : c = (16 * (c / 16)) ^^^ (c % 16) := by
  have h1 : 16 * (c / 16) + c % 16 = c := Nat.div_add_mod c 16
  have h2 := Nat.two_pow_add_eq_or_of_lt (i := 4) (b := c % 16) (by omega) (c / 16)
  have h3 : (16 * (c / 16)) &&& (c % 16) = 0 := by
    apply Nat.eq_of_testBit_eq
    intro i
    rw [Nat.testBit_and, Nat.zero_testBit]
    by_cases hi : i < 4
    · rw [show (16 : Nat) * (c / 16) = 2 ^ 4 * (c / 16) from rfl, Nat.testBit_two_pow_mul]; simp [show ¬ i ≥ 4 by omega]
    · rw [Nat.testBit_lt_two_pow (x := c % 16) (i := i) (by have : (2 : Nat) ^ 4 ≤ 2 ^ i := Nat.pow_le_pow_right (by omega) (by omega)
                                                            omega)]; simp
  apply Nat.eq_of_testBit_eq
  intro i
  have e : c = (16 * (c / 16)) ||| (c % 16) := by rw [show (16 : Nat) * (c / 16) = 2 ^ 4 * (c / 16) from rfl, ← h2]; exact h1.symm
  have hb := congrArg (fun x => x.testBit i) h3
  simp only [Nat.testBit_and, Nat.zero_testBit] at hb
  rw [congrArg (fun x => x.testBit i) e |> (fun h => h), Nat.testBit_or, Nat.testBit_xor]
  revert hb
  cases (16 * (c / 16)).testBit i <;> cases (c % 16).testBit i <;> simp
theorem s4_table (c : Nat) : s4 c = (c / 16) ^^^ tab.getD (c % 16) 0 := by
  conv => lhs; rw [xor_split c]
  rw [s4_xor, s4_high, s4_low _ (Nat.mod_lt _ (by omega))]
theorem s1_lt {c : Nat} (h : c < 4294967296) : s1 c < 4294967296 := by
  unfold s1
  exact Nat.xor_lt_two_pow (n := 32) (by omega) (by split <;> simp [poly])
theorem s4_lt {c : Nat} (h : c < 4294967296) : s4 c < 4294967296 := s1_lt (s1_lt (s1_lt (s1_lt h)))
theorem sB_lt {c x : Nat} (h : c < 4294967296) (hx : x < 256) : sB c x < 4294967296 := s4_lt (s4_lt (Nat.xor_lt_two_pow (n := 32) (by omega) (by omega)))
theorem crcF_lt : ∀ (l : List Nat) (c : Nat), c < 4294967296 → (∀ x ∈ l, x < 256) → crcF c l < 4294967296
  | [], c, h, _ => h
  | x :: l, c, h, hl => crcF_lt l (sB c x) (sB_lt h (hl x (by simp))) (fun y hy => hl y (by simp [hy]))
theorem crc_lt {l : List Nat} (hl : ∀ x ∈ l, x < 256) : crc l < 4294967296 := Nat.xor_lt_two_pow (n := 32) (by omega) (crcF_lt l _ (by omega) hl)
theorem crcF_snoc (c : Nat) (l : List Nat) (x : Nat) : crcF c (l ++ [x]) = sB (crcF c l) x := by simp [crcF]
/-- the steps lose nothing -/
theorem s1_inj {a b : Nat} (ha : a < 4294967296) (hb : b < 4294967296) (h : s1 a = s1 b) : a = b := by
  have key : ∀ c, c < 4294967296 → (s1 c).testBit 31 = decide (c % 2 = 1) := by
    intro c hc
    unfold s1
    rw [Nat.testBit_xor, Nat.testBit_lt_two_pow (x := c / 2) (i := 31) (by omega)]
    split
    · rename_i h; simp [h]; decide
    · rename_i h; simp [h]
  have hm : a % 2 = b % 2 := by
    have h1 := key a ha
    rw [h, key b hb] at h1
    by_cases h2 : a % 2 = 1 <;> by_cases h3 : b % 2 = 1 <;> simp [h2, h3] at h1 <;> omega
  have hd : a / 2 = b / 2 := by
    unfold s1 at h
    rw [hm] at h
    exact xor_right h
  omega
theorem s4_inj {a b : Nat} (ha : a < 4294967296) (hb : b < 4294967296) (h : s4 a = s4 b) : a = b :=
  s1_inj ha hb (s1_inj (s1_lt ha) (s1_lt hb) (s1_inj (s1_lt (s1_lt ha)) (s1_lt (s1_lt hb)) (s1_inj (s1_lt (s1_lt (s1_lt ha))) (s1_lt (s1_lt (s1_lt hb))) h)))
theorem sB_inj {a b x y : Nat} (ha : a < 4294967296) (hb : b < 4294967296) (hx : x < 256) (hy : y < 256) (h : sB a x = sB b y) : a ^^^ x = b ^^^ y := by
  have h1 : a ^^^ x < 4294967296 := Nat.xor_lt_two_pow (n := 32) (by omega) (by omega)
  have h2 : b ^^^ y < 4294967296 := Nat.xor_lt_two_pow (n := 32) (by omega) (by omega)
  exact s4_inj h1 h2 (s4_inj (s4_lt h1) (s4_lt h2) h)
theorem crcF_inj : ∀ (l : List Nat) (a b : Nat), (∀ x ∈ l, x < 256) → a < 4294967296 → b < 4294967296 → crcF a l = crcF b l → a = b
  | [], _, _, _, _, _, h => h
  | x :: l, a, b, hl, ha, hb, h => by
    have hx := hl x (by simp)
    have := crcF_inj l (sB a x) (sB b x) (fun y hy => hl y (by simp [hy])) (sB_lt ha hx) (sB_lt hb hx) h
    exact xor_right (sB_inj ha hb hx hx this)
/-- one byte that is changed changes the checksum -/
theorem crc_change {xs ys : List Nat} {x y : Nat} (h1 : ∀ z ∈ xs, z < 256) (h2 : ∀ z ∈ ys, z < 256) (hx : x < 256) (hy : y < 256) (hne : x ≠ y) : crc (xs ++ x :: ys) ≠ crc (xs ++ y :: ys) := by
  intro h
  have h3 := xor_left h
  unfold crcF at h3
  rw [List.foldl_append, List.foldl_append] at h3
  have hc := crcF_lt xs 4294967295 (by omega) h1
  have h4 := crcF_inj ys _ _ h2 (sB_lt hc hx) (sB_lt hc hy) h3
  have h5 := sB_inj hc hc hx hy h4
  exact hne (xor_left h5)
end Go.Proofs.YtkgdogccnkjcgaaDoor
