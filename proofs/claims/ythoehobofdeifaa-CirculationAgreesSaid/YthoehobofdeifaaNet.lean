/-
  PLAIN LAW of circulations: sums, cuts, prices. No program in sight.
-/
namespace Go.Proofs.Ythoehobofdeifaa
/-- the sum of f 0 .. f (n - 1) -/
def sm : Nat → (Nat → Int) → Int
  | 0, _ => 0
  | n + 1, f => sm n f + f n
theorem sm_succ (n : Nat) (f : Nat → Int) : sm (n + 1) f = sm n f + f n := rfl
theorem sm_congr {n : Nat} {f g : Nat → Int} (h : ∀ i, i < n → f i = g i) : sm n f = sm n g := by
  induction n with
  | zero => rfl
  | succ n ih => unfold sm; rw [ih (fun i hi => h i (by omega)), h n (by omega)]
theorem sm_add (n : Nat) (f g : Nat → Int) : sm n (fun i => f i + g i) = sm n f + sm n g := by
  induction n with
  | zero => rfl
  | succ n ih => simp only [sm_succ]; rw [ih]; omega
theorem sm_sub (n : Nat) (f g : Nat → Int) : sm n (fun i => f i - g i) = sm n f - sm n g := by
  induction n with
  | zero => rfl
  | succ n ih => simp only [sm_succ]; rw [ih]; omega
theorem sm_zero (n : Nat) : sm n (fun _ => 0) = 0 := by
  induction n with
  | zero => rfl
  | succ n ih => unfold sm; rw [ih]; rfl
theorem sm_mul (n : Nat) (k : Int) (f : Nat → Int) : sm n (fun i => k * f i) = k * sm n f := by
  induction n with
  | zero => simp [sm]
  | succ n ih => unfold sm; rw [ih, Int.mul_add]
theorem sm_nonneg {n : Nat} {f : Nat → Int} (h : ∀ i, i < n → 0 ≤ f i) : 0 ≤ sm n f := by
  induction n with
  | zero => simp [sm]
  | succ n ih => unfold sm; have := ih (fun i hi => h i (by omega)); have := h n (by omega); omega
theorem sm_nonpos {n : Nat} {f : Nat → Int} (h : ∀ i, i < n → f i ≤ 0) : sm n f ≤ 0 := by
  induction n with
  | zero => simp [sm]
  | succ n ih => unfold sm; have := ih (fun i hi => h i (by omega)); have := h n (by omega); omega
/-- terms that are not negative and add up to nothing are nothing -/
theorem sm_all_zero {n : Nat} {f : Nat → Int} (h : ∀ i, i < n → 0 ≤ f i) (hs : sm n f ≤ 0) : ∀ i, i < n → f i = 0 := by
  induction n with
  | zero => intro i hi; omega
  | succ n ih =>
    have h1 := sm_nonneg (n := n) (f := f) (fun i hi => h i (by omega))
    have h2 := h n (by omega)
    unfold sm at hs
    intro i hi
    by_cases e : i = n
    · subst e; omega
    · exact ih (fun i hi => h i (by omega)) (by omega) i (by omega)
theorem sm_single {n k : Nat} (hk : k < n) (x : Int) : sm n (fun i => if k = i then x else 0) = x := by
  induction n with
  | zero => omega
  | succ n ih =>
    simp only [sm_succ]
    by_cases e : k = n
    · subst e
      rw [if_pos rfl, sm_congr (g := fun _ => 0) (fun i hi => if_neg (by omega)), sm_zero]; omega
    · rw [if_neg e, ih (by omega)]; omega
theorem sm_swap (n m : Nat) (f : Nat → Nat → Int) : sm n (fun i => sm m (fun j => f i j)) = sm m (fun j => sm n (fun i => f i j)) := by
  induction n with
  | zero => simp [sm, sm_zero]
  | succ n ih =>
    simp only [sm_succ]
    rw [ih, ← sm_add]
/-- a network -/
structure Nw where
  V : Nat
  m : Nat
  fr : Nat → Nat
  to : Nat → Nat
  lo : Nat → Int
  up : Nat → Int
  c : Nat → Int
def Nw.ok (N : Nw) : Prop := ∀ i, i < N.m → N.fr i < N.V ∧ N.to i < N.V
/-- what is too much at a vertex -/
def Nw.exc (N : Nw) (f : Nat → Int) (v : Nat) : Int := sm N.m fun i => (if N.to i = v then f i else 0) - (if N.fr i = v then f i else 0)
def Nw.bd (N : Nw) (f : Nat → Int) : Prop := ∀ i, i < N.m → N.lo i ≤ f i ∧ f i ≤ N.up i
def Nw.circ (N : Nw) (f : Nat → Int) : Prop := N.bd f ∧ ∀ v, v < N.V → N.exc f v = 0
def Nw.cost (N : Nw) (f : Nat → Int) : Int := sm N.m fun i => N.c i * f i
def Nw.price (N : Nw) (p : Nat → Int) (i : Nat) : Int := N.c i + p (N.fr i) - p (N.to i)
/-- potentials weigh what is too much -/
theorem weigh {N : Nw} (h : N.ok) (p f : Nat → Int) : sm N.m (fun i => (p (N.to i) - p (N.fr i)) * f i) = sm N.V (fun v => p v * N.exc f v) := by
  have e1 : sm N.V (fun v => p v * N.exc f v) = sm N.V (fun v => sm N.m fun i => p v * ((if N.to i = v then f i else 0) - (if N.fr i = v then f i else 0))) :=
    sm_congr fun v _ => (sm_mul _ _ _).symm
  rw [e1, sm_swap]
  refine sm_congr fun i hi => ?_
  obtain ⟨h1, h2⟩ := h i hi
  have e2 : ∀ (k : Nat), k < N.V → sm N.V (fun v => p v * (if k = v then f i else 0)) = p k * f i := fun k hk => by
    rw [sm_congr (g := fun v => if k = v then p k * f i else 0) (fun v _ => by by_cases e : k = v <;> simp [e]), sm_single hk]
  have e3 : sm N.V (fun v => p v * ((if N.to i = v then f i else 0) - (if N.fr i = v then f i else 0))) = sm N.V (fun v => p v * (if N.to i = v then f i else 0)) - sm N.V (fun v => p v * (if N.fr i = v then f i else 0)) := by
    rw [← sm_sub]; exact sm_congr fun v _ => Int.mul_sub ..
  rw [e3, e2 _ h2, e2 _ h1, Int.sub_mul]
theorem weigh_circ {N : Nw} (h : N.ok) (p : Nat → Int) {f : Nat → Int} (hf : N.circ f) : sm N.m (fun i => (p (N.to i) - p (N.fr i)) * f i) = 0 := by
  rw [weigh h, sm_congr (g := fun _ => 0) (fun v hv => by rw [hf.2 v hv, Int.mul_zero]), sm_zero]
theorem cost_price {N : Nw} (h : N.ok) (p : Nat → Int) {f : Nat → Int} (hf : N.circ f) : sm N.m (fun i => N.price p i * f i) = N.cost f := by
  have h1 := weigh_circ h p hf
  have e : sm N.m (fun i => N.price p i * f i) = N.cost f - sm N.m (fun i => (p (N.to i) - p (N.fr i)) * f i) := by
    unfold Nw.cost
    rw [← sm_sub]
    refine sm_congr fun i _ => ?_
    unfold Nw.price
    rw [show N.c i + p (N.fr i) - p (N.to i) = N.c i - (p (N.to i) - p (N.fr i)) by omega, Int.sub_mul]
  rw [e, h1, Int.sub_zero]
/-- prices that fit a flow: no step with room costs less than nothing -/
def Nw.fits (N : Nw) (p f : Nat → Int) : Prop := ∀ i, i < N.m → (f i < N.up i → 0 ≤ N.price p i) ∧ (N.lo i < f i → N.price p i ≤ 0)
theorem fit_term {N : Nw} {p f g : Nat → Int} (hp : N.fits p f) (hg : N.bd g) {i : Nat} (hi : i < N.m) : 0 ≤ N.price p i * (g i - f i) := by
  obtain ⟨h1, h2⟩ := hp i hi
  obtain ⟨b3, b4⟩ := hg i hi
  by_cases e : f i = g i
  · rw [e, Int.sub_self, Int.mul_zero]; omega
  · by_cases hlt : f i < g i
    · exact Int.mul_nonneg (h1 (by omega)) (by omega)
    · have := Int.mul_nonneg (a := - N.price p i) (b := f i - g i) (by have := h2 (by omega); omega) (by omega)
      rw [Int.neg_mul, ← Int.mul_neg] at this
      rwa [show -(f i - g i) = g i - f i by omega] at this
/-- a circulation with fitting prices is a cheapest one -/
theorem fit_least {N : Nw} (h : N.ok) {p f g : Nat → Int} (hp : N.fits p f) (hf : N.circ f) (hg : N.circ g) : N.cost f ≤ N.cost g := by
  have h1 := sm_nonneg (n := N.m) (f := fun i => N.price p i * (g i - f i)) (fun i hi => fit_term hp hg.1 hi)
  rw [sm_congr (g := fun i => N.price p i * g i - N.price p i * f i) (fun i _ => Int.mul_sub ..), sm_sub, cost_price h p hg, cost_price h p hf] at h1
  omega
/-- equally cheap circulations agree where the price is not nothing -/
theorem fit_agree {N : Nw} (h : N.ok) {p f g : Nat → Int} (hp : N.fits p f) (hf : N.circ f) (hg : N.circ g) (hc : N.cost g ≤ N.cost f) : ∀ i, i < N.m → N.price p i ≠ 0 → g i = f i := by
  have hz := sm_all_zero (n := N.m) (f := fun i => N.price p i * (g i - f i)) (fun i hi => fit_term hp hg.1 hi) (by
    rw [sm_congr (g := fun i => N.price p i * g i - N.price p i * f i) (fun i _ => Int.mul_sub ..), sm_sub, cost_price h p hg, cost_price h p hf]; omega)
  intro i hi hne
  rcases Int.mul_eq_zero.1 (hz i hi) with e | e
  · exact absurd e hne
  · omega
/-- and circulations that agree there are equally cheap -/
theorem agree_cost {N : Nw} (h : N.ok) {p f g : Nat → Int} (hf : N.circ f) (hg : N.circ g) (ha : ∀ i, i < N.m → N.price p i ≠ 0 → g i = f i) : N.cost g = N.cost f := by
  rw [← cost_price h p hf, ← cost_price h p hg]
  refine sm_congr fun i hi => ?_
  by_cases e : N.price p i = 0
  · rw [e, Int.zero_mul, Int.zero_mul]
  · rw [ha i hi e]
/-- a set of vertices as potentials -/
def ind (R : Nat → Bool) (v : Nat) : Int := if R v then 1 else 0
/-- THE CUT: nothing with room leaves a set with too much: no circulation -/
theorem cut_none {N : Nw} (h : N.ok) {f : Nat → Int} (R : Nat → Bool) (ho : ∀ i, i < N.m → R (N.fr i) = true → R (N.to i) = false → N.up i ≤ f i) (hi : ∀ i, i < N.m → R (N.fr i) = false → R (N.to i) = true → f i ≤ N.lo i)
    (hx : 0 < sm N.V (fun v => ind R v * N.exc f v)) (g : Nat → Int) : ¬ N.circ g := by
  intro hg
  have h1 := weigh_circ h (ind R) hg
  have h2 := weigh h (ind R) f
  have h3 : sm N.m (fun i => (ind R (N.to i) - ind R (N.fr i)) * f i - (ind R (N.to i) - ind R (N.fr i)) * g i) ≤ 0 := by
    refine sm_nonpos fun i him => ?_
    obtain ⟨b1, b2⟩ := hg.1 i him
    unfold ind
    cases hfr : R (N.fr i) <;> cases hto : R (N.to i) <;> simp
    · have := hi i him hfr hto; omega
    · have := ho i him hfr hto; omega
  rw [sm_sub, h1, h2] at h3
  omega
/-- THE CUT AT AN ARC: nothing with room leaves the set but this arc: no circulation that agrees elsewhere has less on it -/
theorem cut_least {N : Nw} (h : N.ok) {f g : Nat → Int} (hf : N.circ f) (hg : N.circ g) (R : Nat → Bool) (k : Nat) (hk : k < N.m) (hkf : R (N.fr k) = true) (hkt : R (N.to k) = false)
    (ho : ∀ i, i < N.m → i ≠ k → R (N.fr i) = true → R (N.to i) = false → g i ≤ f i) (hi : ∀ i, i < N.m → i ≠ k → R (N.fr i) = false → R (N.to i) = true → f i ≤ g i) : f k ≤ g k := by
  have h1 := weigh_circ h (ind R) hg
  have h2 := weigh_circ h (ind R) hf
  by_cases hlt : f k ≤ g k
  · exact hlt
  · exfalso
    have h3 : sm N.m (fun i => (ind R (N.to i) - ind R (N.fr i)) * f i - (ind R (N.to i) - ind R (N.fr i)) * g i) ≤ 0 := by
      refine sm_nonpos fun i him => ?_
      unfold ind
      by_cases e : i = k
      · subst e; rw [hkf, hkt]; simp; omega
      · cases hfr : R (N.fr i) <;> cases hto : R (N.to i) <;> simp
        · have := hi i him e hfr hto; omega
        · have := ho i him e hfr hto; omega
    have h4 := sm_all_zero (n := N.m) (f := fun i => -((ind R (N.to i) - ind R (N.fr i)) * f i - (ind R (N.to i) - ind R (N.fr i)) * g i)) (fun i him => by
      unfold ind
      by_cases e : i = k
      · subst e; rw [hkf, hkt]; simp; omega
      · cases hfr : R (N.fr i) <;> cases hto : R (N.to i) <;> simp
        · have := hi i him e hfr hto; omega
        · have := ho i him e hfr hto; omega) (by
      have : sm N.m (fun i => -((ind R (N.to i) - ind R (N.fr i)) * f i - (ind R (N.to i) - ind R (N.fr i)) * g i)) = 0 := by
        rw [sm_congr (g := fun i => (ind R (N.to i) - ind R (N.fr i)) * g i - (ind R (N.to i) - ind R (N.fr i)) * f i) (fun i _ => by omega), sm_sub, h1, h2]; rfl
      omega)
    have h5 := h4 k hk
    unfold ind at h5
    rw [hkf, hkt] at h5
    simp at h5
    omega
/-- the list f is not more than g, read from arc 0 on -/
def lexLe (m : Nat) (f g : Nat → Int) : Prop := ∀ i, i < m → (∀ j, j < i → f j = g j) → f i ≤ g i
theorem lex_same {m : Nat} {f g : Nat → Int} (h1 : lexLe m f g) (h2 : lexLe m g f) : ∀ i, i < m → f i = g i := by
  intro i
  induction i using Nat.strongRecOn with
  | _ i ih =>
    intro hi
    have a := h1 i hi (fun j hj => ih j hj (by omega))
    have b := h2 i hi (fun j hj => (ih j hj (by omega)).symm)
    omega
/-- THE LEAST LIST: each arc that is not closed is at its lower bound, or was cut when it was closed -/
theorem lex_end {N : Nw} (h : N.ok) (z : Nat → Bool) (f : Nat → Int)
    (hs : ∀ i, i < N.m → z i = false → f i = N.lo i ∨ ∃ (e : Nat → Int) (R : Nat → Bool), N.circ e ∧ (∀ j, j < N.m → z j = true ∨ j ≤ i → e j = f j) ∧
      R (N.fr i) = true ∧ R (N.to i) = false ∧
      (∀ j, j < N.m → z j = false → i < j → R (N.fr j) = true → R (N.to j) = false → N.up j ≤ e j) ∧
      (∀ j, j < N.m → z j = false → i < j → R (N.fr j) = false → R (N.to j) = true → e j ≤ N.lo j))
    {g : Nat → Int} (hg : N.circ g) (hz : ∀ j, j < N.m → z j = true → g j = f j) : lexLe N.m f g := by
  intro i hi hpre
  cases hc : z i with
  | true => rw [hz i hi hc]; omega
  | false =>
    rcases hs i hi hc with e | ⟨e, R, he, hag, hf, ht, ho, hin⟩
    · rw [e]; exact (hg.1 i hi).1
    · have hsame : ∀ j, j < N.m → j ≠ i → (z j = true ∨ j < i) → e j = g j := fun j hj _ hd => by
        rcases hd with hd | hd
        · rw [hag j hj (.inl hd), hz j hj hd]
        · rw [hag j hj (.inr (by omega)), hpre j hd]
      have key := cut_least h he hg R i hi hf ht
        (fun j hj hne a b => by
          by_cases hd : z j = true ∨ j < i
          · rw [hsame j hj hne hd]; omega
          · have hzf : z j = false := by cases hq : z j <;> simp [hq] at hd ⊢
            have hlt : i < j := by
              have : ¬ j < i := fun hq => hd (.inr hq)
              omega
            have := ho j hj hzf hlt a b
            have := (hg.1 j hj).2
            omega)
        (fun j hj hne a b => by
          by_cases hd : z j = true ∨ j < i
          · rw [hsame j hj hne hd]; omega
          · have hzf : z j = false := by cases hq : z j <;> simp [hq] at hd ⊢
            have hlt : i < j := by
              have : ¬ j < i := fun hq => hd (.inr hq)
              omega
            have := hin j hj hzf hlt a b
            have := (hg.1 j hj).1
            omega)
      rw [hag i hi (.inr (by omega))] at key
      exact key
/-- the answer that is asked: cheapest, and of these the least -/
def Nw.best (N : Nw) (f : Nat → Int) : Prop := N.circ f ∧ ∀ g, N.circ g → N.cost f ≤ N.cost g ∧ (N.cost g ≤ N.cost f → lexLe N.m f g)
/-- there is but one -/
theorem best_one {N : Nw} {f g : Nat → Int} (hf : N.best f) (hg : N.best g) : ∀ i, i < N.m → f i = g i :=
  lex_same ((hf.2 g hg.1).2 (hg.2 f hf.1).1) ((hg.2 f hf.1).2 (hf.2 g hg.1).1)
/-- the end of a solve: fitting prices of the first flow, the least list among those that agree where the price is not nothing -/
theorem best_end {N : Nw} (h : N.ok) {p f0 f : Nat → Int} (hp : N.fits p f0) (h0 : N.circ f0) (hf : N.circ f) (ha : ∀ i, i < N.m → N.price p i ≠ 0 → f i = f0 i)
    (hl : ∀ g, N.circ g → (∀ i, i < N.m → N.price p i ≠ 0 → g i = f i) → lexLe N.m f g) : N.best f := by
  have hcost := agree_cost h h0 hf ha
  refine ⟨hf, fun g hg => ⟨by rw [hcost]; exact fit_least h hp h0 hg, fun hle => hl g hg fun i hi hne => ?_⟩⟩
  rw [ha i hi hne]
  exact fit_agree h hp h0 hg (by omega) i hi hne
/-- arc i bears d more -/
def bump (f : Nat → Int) (i : Nat) (d : Int) : Nat → Int := fun j => if i = j then f j + d else f j
theorem exc_bump {N : Nw} {i : Nat} (hi : i < N.m) (f : Nat → Int) (d : Int) (v : Nat) :
    N.exc (bump f i d) v = N.exc f v + ((if N.to i = v then d else 0) - (if N.fr i = v then d else 0)) := by
  have e : N.exc (bump f i d) v = sm N.m (fun j => ((if N.to j = v then f j else 0) - (if N.fr j = v then f j else 0)) + (if i = j then ((if N.to i = v then d else 0) - (if N.fr i = v then d else 0)) else 0)) := by
    refine sm_congr fun j _ => ?_
    unfold bump
    by_cases e : i = j
    · subst e
      rw [if_pos rfl, if_pos rfl]
      by_cases h1 : N.to i = v <;> by_cases h2 : N.fr i = v <;> simp [h1, h2] <;> omega
    · rw [if_neg e, if_neg e]; omega
  rw [e, sm_add, sm_single hi]; rfl
theorem cost_bump {N : Nw} {i : Nat} (hi : i < N.m) (f : Nat → Int) (d : Int) : N.cost (bump f i d) = N.cost f + N.c i * d := by
  have e : N.cost (bump f i d) = sm N.m (fun j => N.c j * f j + (if i = j then N.c i * d else 0)) := by
    refine sm_congr fun j _ => ?_
    unfold bump
    by_cases e : i = j
    · subst e; rw [if_pos rfl, if_pos rfl, Int.mul_add]
    · rw [if_neg e, if_neg e]; omega
  rw [e, sm_add, sm_single hi]; rfl
/-- a step: an arc, forward or backward -/
structure Sp where
  i : Nat
  fw : Bool
def Nw.beg (N : Nw) (s : Sp) : Nat := if s.fw then N.fr s.i else N.to s.i
def Nw.fin (N : Nw) (s : Sp) : Nat := if s.fw then N.to s.i else N.fr s.i
def Nw.rm (N : Nw) (f : Nat → Int) (s : Sp) : Int := if s.fw then N.up s.i - f s.i else f s.i - N.lo s.i
def Nw.sc (N : Nw) (s : Sp) : Int := if s.fw then N.c s.i else - N.c s.i
def push (f : Nat → Int) (s : Sp) (d : Int) : Nat → Int := bump f s.i (if s.fw then d else -d)
theorem exc_push {N : Nw} {s : Sp} (hi : s.i < N.m) (f : Nat → Int) (d : Int) (v : Nat) :
    N.exc (push f s d) v = N.exc f v + ((if N.fin s = v then d else 0) - (if N.beg s = v then d else 0)) := by
  unfold push
  rw [exc_bump hi]
  unfold Nw.fin Nw.beg
  cases s.fw
  · by_cases h1 : N.to s.i = v <;> by_cases h2 : N.fr s.i = v <;> simp [h1, h2] <;> omega
  · rfl
theorem push_other (f : Nat → Int) (s : Sp) (d : Int) {j : Nat} (h : s.i ≠ j) : push f s d j = f j := by
  unfold push bump; rw [if_neg h]
theorem rm_push {N : Nw} (f : Nat → Int) (s : Sp) (d : Int) : N.rm (push f s d) s = N.rm f s - d := by
  unfold Nw.rm push bump
  cases s.fw
  · simp; omega
  · simp; omega
/-- a walk: steps from a to b -/
inductive Wk (N : Nw) : Nat → List Sp → Nat → Prop
  | nil (a : Nat) : Wk N a [] a
  | cons {s : Sp} {l : List Sp} {b : Nat} (hi : s.i < N.m) (w : Wk N (N.fin s) l b) : Wk N (N.beg s) (s :: l) b
def pushes (f : Nat → Int) (l : List Sp) (d : Int) : Nat → Int := l.foldl (fun f s => push f s d) f
theorem exc_pushes {N : Nw} {a b : Nat} {l : List Sp} (w : Wk N a l b) : ∀ (f : Nat → Int) (d : Int) (v : Nat),
    N.exc (pushes f l d) v = N.exc f v + ((if b = v then d else 0) - (if a = v then d else 0)) := by
  induction w with
  | nil a => intro f d v; unfold pushes; simp only [List.foldl]; omega
  | @cons s l b hi w ih =>
    intro f d v
    have h1 := ih (push f s d) d v
    have h2 := exc_push hi f d v
    unfold pushes at h1 ⊢
    simp only [List.foldl]
    rw [h1, h2]; omega
theorem pushes_other {l : List Sp} : ∀ (f : Nat → Int) (d : Int) {j : Nat}, (∀ s ∈ l, s.i ≠ j) → pushes f l d j = f j := by
  induction l with
  | nil => intro f d j _; rfl
  | cons s l ih =>
    intro f d j h
    have h1 := ih (push f s d) d (j := j) (fun t ht => h t (List.mem_cons_of_mem _ ht))
    unfold pushes at h1 ⊢
    simp only [List.foldl]
    rw [h1, push_other _ _ _ (h s (List.mem_cons_self ..))]
/-- a push that fits the room of each step, over arcs that differ, keeps the bounds -/
theorem bd_pushes {N : Nw} {l : List Sp} : ∀ {f : Nat → Int} {d : Int}, N.bd f → 0 ≤ d → (∀ s ∈ l, d ≤ N.rm f s) → l.Pairwise (fun s t => s.i ≠ t.i) → N.bd (pushes f l d) := by
  induction l with
  | nil => intro f d hb _ _ _; exact hb
  | cons s l ih =>
    intro f d hb hd hr hp
    rw [List.pairwise_cons] at hp
    show N.bd (pushes (push f s d) l d)
    refine ih ?_ hd ?_ hp.2
    · intro j hj
      by_cases e : s.i = j
      · have h1 := hr s (List.mem_cons_self ..)
        obtain ⟨b1, b2⟩ := hb j hj
        subst e
        unfold push bump
        unfold Nw.rm at h1
        cases hq : s.fw <;> simp [hq] at h1 ⊢ <;> omega
      · rw [push_other _ _ _ e]; exact hb j hj
    · intro t ht
      have h1 := hr t (List.mem_cons_of_mem _ ht)
      have h2 := hp.1 t ht
      unfold Nw.rm at h1 ⊢
      rw [push_other _ _ _ h2]; exact h1
/-- the price of a step -/
def Nw.sp (N : Nw) (p : Nat → Int) (s : Sp) : Int := N.sc s + p (N.beg s) - p (N.fin s)
theorem sp_price (N : Nw) (p : Nat → Int) (s : Sp) : N.sp p s = if s.fw then N.price p s.i else - N.price p s.i := by
  unfold Nw.sp Nw.sc Nw.beg Nw.fin Nw.price
  cases s.fw <;> simp <;> omega
/-- fitting: no step with room has a price below nothing -/
theorem fits_steps {N : Nw} {p f : Nat → Int} : N.fits p f ↔ ∀ s : Sp, s.i < N.m → 0 < N.rm f s → 0 ≤ N.sp p s := by
  constructor
  · intro h s hi hr
    rw [sp_price]
    obtain ⟨a, b⟩ := h s.i hi
    unfold Nw.rm at hr
    cases hq : s.fw <;> simp [hq] at hr ⊢
    · have := b (by omega); omega
    · exact a (by omega)
  · intro h i hi
    refine ⟨fun hu => ?_, fun hl => ?_⟩
    · have := h ⟨i, true⟩ hi (by unfold Nw.rm; simp; omega)
      rw [sp_price] at this; simpa using this
    · have := h ⟨i, false⟩ hi (by unfold Nw.rm; simp; omega)
      rw [sp_price] at this; simp at this; omega
/-- a push over steps whose price is nothing keeps the prices fitting -/
theorem fits_pushes {N : Nw} {p f : Nat → Int} {l : List Sp} {d : Int} (h : N.fits p f) (hz : ∀ s ∈ l, N.sp p s = 0) : N.fits p (pushes f l d) := by
  intro i hi
  by_cases e : ∃ s ∈ l, s.i = i
  · obtain ⟨s, hs, rfl⟩ := e
    have := hz s hs
    rw [sp_price] at this
    have h0 : N.price p s.i = 0 := by
      cases hq : s.fw <;> simp [hq] at this <;> omega
    rw [h0]
    exact ⟨fun _ => Int.le_refl 0, fun _ => Int.le_refl 0⟩
  · rw [pushes_other f d (fun s hs hq => e ⟨s, hs, hq⟩)]
    exact h i hi
/-- new potentials: distances, where they are reached, and the farthest elsewhere -/
theorem fits_shift {N : Nw} {p f : Nat → Int} (q : Nat → Int) (hq : ∀ s : Sp, s.i < N.m → 0 < N.rm f s → q (N.fin s) ≤ q (N.beg s) + N.sp p s) :
    N.fits (fun v => p v + q v) f := by
  rw [fits_steps]
  intro s hi hr
  have := hq s hi hr
  have e : N.sp (fun v => p v + q v) s = N.sp p s + q (N.beg s) - q (N.fin s) := by
    show N.sc s + (p (N.beg s) + q (N.beg s)) - (p (N.fin s) + q (N.fin s)) = _
    unfold Nw.sp; omega
  rw [e]; omega
theorem least_shift {N : Nw} {p f d : Nat → Int} (D : Int) (h : N.fits p f) (hd : ∀ s : Sp, s.i < N.m → 0 < N.rm f s → d (N.beg s) < D → d (N.fin s) ≤ d (N.beg s) + N.sp p s) :
    N.fits (fun v => p v + min (d v) D) f := by
  refine fits_shift (fun v => min (d v) D) fun s hi hr => ?_
  have h0 := fits_steps.1 h s hi hr
  show min (d (N.fin s)) D ≤ min (d (N.beg s)) D + N.sp p s
  by_cases e : d (N.beg s) < D
  · have := hd s hi hr e; omega
  · omega
theorem cost_pushes {N : Nw} {a b : Nat} {l : List Sp} (w : Wk N a l b) : ∀ (f : Nat → Int) (d : Int) (p : Nat → Int), (∀ s ∈ l, N.sp p s = 0) → N.cost (pushes f l d) = N.cost f + (p b - p a) * d := by
  induction w with
  | nil a => intro f d p _; unfold pushes; simp only [List.foldl]; rw [Int.sub_self, Int.zero_mul, Int.add_zero]
  | @cons s l b hi w ih =>
    intro f d p hz
    have h1 := ih (push f s d) d p (fun t ht => hz t (List.mem_cons_of_mem _ ht))
    have h2 := hz s (List.mem_cons_self ..)
    show N.cost (pushes (push f s d) l d) = _
    rw [h1]
    have h3 : N.cost (push f s d) = N.cost f + N.sc s * d := by
      unfold push; rw [cost_bump hi]; unfold Nw.sc
      cases s.fw <;> simp [Int.mul_neg, Int.neg_mul]
    have h4 : N.sc s = p (N.fin s) - p (N.beg s) := by unfold Nw.sp at h2; omega
    rw [h3, h4, Int.sub_mul, Int.sub_mul, Int.sub_mul]; omega
/-- the sum of the steps' costs -/
def Nw.wc (N : Nw) : List Sp → Int
  | [] => 0
  | s :: l => N.sc s + N.wc l
/-- under fitting potentials a walk with room costs at least what they differ by -/
theorem walk_cost {N : Nw} {p f : Nat → Int} (h : N.fits p f) {a b : Nat} {l : List Sp} (w : Wk N a l b) : (∀ s ∈ l, 0 < N.rm f s) → p b - p a ≤ N.wc l := by
  induction w with
  | nil a => intro _; show p a - p a ≤ 0; omega
  | @cons s l b hi w ih =>
    intro hr
    have h1 := ih fun t ht => hr t (List.mem_cons_of_mem _ ht)
    have h2 := fits_steps.1 h s hi (hr s (List.mem_cons_self ..))
    unfold Nw.sp at h2
    show p b - p (N.beg s) ≤ N.sc s + N.wc l
    omega
theorem walk_append {N : Nw} {a b c : Nat} {l k : List Sp} (w : Wk N a l b) (u : Wk N b k c) : Wk N a (l ++ k) c := by
  induction w with
  | nil a => exact u
  | @cons s l b hi w ih => exact .cons hi (ih u)
theorem wc_append (N : Nw) (l k : List Sp) : N.wc (l ++ k) = N.wc l + N.wc k := by
  induction l with
  | nil => show N.wc k = 0 + N.wc k; omega
  | cons s l ih => show N.sc s + N.wc (l ++ k) = N.sc s + N.wc l + N.wc k; omega
/-- steps and the steps back differ -/
theorem wc_bound {N : Nw} {C : Int} (l : List Sp) (h : ∀ s ∈ l, -C ≤ N.sc s ∧ N.sc s ≤ C) : -(C * l.length) ≤ N.wc l ∧ N.wc l ≤ C * l.length := by
  induction l with
  | nil => constructor <;> simp [Nw.wc]
  | cons s l ih =>
    obtain ⟨a, b⟩ := ih fun t ht => h t (List.mem_cons_of_mem _ ht)
    obtain ⟨c, d⟩ := h s (List.mem_cons_self ..)
    have e : C * ((s :: l).length : Nat) = C * (l.length : Nat) + C := by
      rw [List.length_cons, Int.natCast_add, Int.mul_add]; simp
    rw [e]
    show -(C * (l.length : Nat) + C) ≤ N.sc s + N.wc l ∧ N.sc s + N.wc l ≤ C * (l.length : Nat) + C
    omega
/-- distances that no step improves are potentials -/
theorem fix_fits {N : Nw} {f d : Nat → Int} (h : ∀ s : Sp, s.i < N.m → 0 < N.rm f s → d (N.fin s) ≤ d (N.beg s) + N.sc s) : N.fits d f := by
  rw [fits_steps]
  intro s hi hr
  have := h s hi hr
  unfold Nw.sp; omega
/-- what agrees where the price is not nothing fits, too -/
theorem fits_agree {N : Nw} {p f g : Nat → Int} (h : N.fits p f) (ha : ∀ i, i < N.m → N.price p i ≠ 0 → g i = f i) : N.fits p g := by
  intro i hi
  by_cases e : N.price p i = 0
  · rw [e]; exact ⟨fun _ => Int.le_refl 0, fun _ => Int.le_refl 0⟩
  · rw [ha i hi e]; exact h i hi
/-- a circulation that is a cheapest one fits the potentials of any other cheapest one -/
theorem least_fits {N : Nw} (h : N.ok) {p f g : Nat → Int} (hp : N.fits p f) (hf : N.circ f) (hg : N.circ g) (hc : N.cost g ≤ N.cost f) : N.fits p g :=
  fits_agree hp (fit_agree h hp hf hg hc)
/-- numbers below n that differ are at most n -/
theorem pigeon : ∀ (n : Nat) (l : List Nat), l.Nodup → (∀ x ∈ l, x < n) → l.length ≤ n := by
  intro n
  induction n with
  | zero => intro l _ h; cases l with
    | nil => simp
    | cons x l => exact absurd (h x (List.mem_cons_self ..)) (by omega)
  | succ n ih =>
    intro l hn h
    have h1 := ih (l.erase n) (hn.erase n) (fun x hx => by
      obtain ⟨a, b⟩ := (hn.mem_erase_iff).1 hx
      have := h x b; omega)
    have h2 := List.length_erase (a := n) (l := l)
    by_cases e : n ∈ l
    · rw [if_pos (by simpa using e)] at h2; omega
    · rw [if_neg (by simpa using e)] at h2; omega
/-- a walk is cut at one of its steps' beginnings -/
theorem walk_split {N : Nw} {a b : Nat} {l : List Sp} (w : Wk N a l b) : ∀ x, x ∈ l.map N.beg → ∃ l1 l2, l = l1 ++ l2 ∧ Wk N a l1 x ∧ Wk N x l2 b := by
  induction w with
  | nil a => intro x hx; simp at hx
  | @cons s l b hi w ih =>
    intro x hx
    by_cases e : N.beg s = x
    · subst e; exact ⟨[], s :: l, rfl, .nil _, .cons hi w⟩
    · obtain ⟨l1, l2, e1, w1, w2⟩ := ih x (by
        rw [List.map_cons, List.mem_cons] at hx
        rcases hx with hx | hx
        · exact absurd hx.symm e
        · exact hx)
      exact ⟨s :: l1, l2, by rw [e1]; rfl, .cons hi w1, w2⟩
/-- a walk whose beginnings do not differ has a closed part -/
theorem walk_loop {N : Nw} {a b : Nat} {l : List Sp} (w : Wk N a l b) : ¬ (l.map N.beg).Nodup → ∃ l1 c l2 x, l = l1 ++ (c ++ l2) ∧ c ≠ [] ∧ Wk N a l1 x ∧ Wk N x c x ∧ Wk N x l2 b := by
  induction w with
  | nil a => intro h; exact absurd List.nodup_nil h
  | @cons s l b hi w ih =>
    intro h
    by_cases e : N.beg s ∈ l.map N.beg
    · obtain ⟨l1, l2, e1, w1, w2⟩ := walk_split w _ e
      exact ⟨[], s :: l1, l2, N.beg s, by rw [e1]; rfl, by simp, .nil _, .cons hi w1, w2⟩
    · have h1 : ¬ (l.map N.beg).Nodup := fun hq => h (by
        rw [List.map_cons, List.nodup_cons]; exact ⟨e, hq⟩)
      obtain ⟨l1, c, l2, x, e1, hc, w1, w2, w3⟩ := ih h1
      exact ⟨s :: l1, c, l2, x, by rw [e1]; rfl, hc, .cons hi w1, w2, w3⟩
theorem walk_mem {N : Nw} (h : N.ok) {a b : Nat} {l : List Sp} (w : Wk N a l b) : ∀ x ∈ l.map N.beg, x < N.V := by
  induction w with
  | nil a => intro x hx; simp at hx
  | @cons s l b hi w ih =>
    intro x hx
    rw [List.map_cons, List.mem_cons] at hx
    rcases hx with rfl | hx
    · obtain ⟨c, d⟩ := h s.i hi
      unfold Nw.beg
      cases s.fw
      · exact d
      · exact c
    · exact ih x hx
/-- A WALK MAY BE SHORT: under potentials that fit, closed parts cost nothing less and are left out -/
theorem walk_short {N : Nw} (h : N.ok) {p f : Nat → Int} (hp : N.fits p f) : ∀ (n : Nat) {a b : Nat} {l : List Sp}, l.length ≤ n → Wk N a l b → (∀ s ∈ l, 0 < N.rm f s) →
    ∃ k, Wk N a k b ∧ (∀ s ∈ k, 0 < N.rm f s) ∧ (k.map N.beg).Nodup ∧ k.length ≤ N.V ∧ N.wc k ≤ N.wc l := by
  intro n
  induction n with
  | zero =>
    intro a b l hl w hr
    have : l = [] := List.length_eq_zero_iff.1 (by omega)
    subst this
    exact ⟨[], w, hr, List.nodup_nil, Nat.zero_le _, Int.le_refl _⟩
  | succ n ih =>
    intro a b l hl w hr
    by_cases e : (l.map N.beg).Nodup
    · have := pigeon N.V _ e (walk_mem h w)
      rw [List.length_map] at this
      exact ⟨l, w, hr, e, this, Int.le_refl _⟩
    · obtain ⟨l1, c, l2, x, e1, hc, w1, w2, w3⟩ := walk_loop w e
      subst e1
      have hr1 : ∀ s ∈ c, 0 < N.rm f s := fun s hs => hr s (by simp [hs])
      have h1 := walk_cost hp w2 hr1
      have hcl : 0 < c.length := List.length_pos_iff.2 hc
      obtain ⟨k, wk, hk, hn, hkl, hkc⟩ := ih (l := l1 ++ l2) (by simp at hl ⊢; omega) (walk_append w1 w3) (fun s hs => hr s (by
        rw [List.mem_append] at hs
        rcases hs with hs | hs <;> simp [hs]))
      refine ⟨k, wk, hk, hn, hkl, ?_⟩
      rw [wc_append, wc_append]
      rw [wc_append] at hkc
      omega
theorem wk_nil {N : Nw} {a b : Nat} (w : Wk N a [] b) : a = b := by
  cases w; rfl
/-- the last step of a walk -/
theorem walk_last {N : Nw} {a b : Nat} {l : List Sp} (w : Wk N a l b) : l ≠ [] → ∃ k s, l = k ++ [s] ∧ s.i < N.m ∧ Wk N a k (N.beg s) ∧ N.fin s = b := by
  induction w with
  | nil a => intro h; exact absurd rfl h
  | @cons s l b hi w ih =>
    intro _
    by_cases e : l = []
    · subst e
      exact ⟨[], s, rfl, hi, .nil _, wk_nil w⟩
    · obtain ⟨k, t, e1, ht, wk, hf⟩ := ih e
      exact ⟨s :: k, t, by rw [e1]; rfl, ht, .cons hi wk, hf⟩
/-- a round of improvements over all steps: nothing grows, and each step with room is obeyed from the distances before it -/
def Rnd (N : Nw) (f d d1 : Nat → Int) : Prop := (∀ v, d1 v ≤ d v) ∧ ∀ s : Sp, s.i < N.m → 0 < N.rm f s → d1 (N.fin s) ≤ d (N.beg s) + N.sc s
/-- distances after r rounds: at most every walk of r steps -/
def Upto (N : Nw) (f d0 d : Nat → Int) (r : Nat) : Prop := ∀ a l b, Wk N a l b → (∀ s ∈ l, 0 < N.rm f s) → l.length ≤ r → d b ≤ d0 a + N.wc l
/-- each distance is that of a walk -/
def Real (N : Nw) (f d0 d : Nat → Int) : Prop := ∀ v, v < N.V → ∃ a l, Wk N a l v ∧ (∀ s ∈ l, 0 < N.rm f s) ∧ d v = d0 a + N.wc l
theorem upto_zero (N : Nw) (f d0 : Nat → Int) : Upto N f d0 d0 0 := by
  intro a l b w _ hl
  have : l = [] := List.length_eq_zero_iff.1 (by omega)
  subst this
  cases w
  show d0 a ≤ d0 a + 0
  omega
theorem upto_round {N : Nw} {f d0 d d1 : Nat → Int} {r : Nat} (hu : Upto N f d0 d r) (hr : Rnd N f d d1) : Upto N f d0 d1 (r + 1) := by
  intro a l b w hm hl
  by_cases e : l = []
  · subst e
    have h1 := hu a [] b w hm (Nat.zero_le _)
    have h2 := hr.1 b
    omega
  · obtain ⟨k, s, e1, hi, wk, hf⟩ := walk_last w e
    subst e1
    have h1 := hu a k _ wk (fun t ht => hm t (by simp [ht])) (by simp at hl; omega)
    have h2 := hr.2 s hi (hm s (by simp))
    rw [hf] at h2
    rw [wc_append]
    show d1 b ≤ d0 a + (N.wc k + (N.sc s + 0))
    omega
theorem real_start (N : Nw) (f d0 : Nat → Int) : Real N f d0 d0 := fun v _ => ⟨v, [], .nil v, by simp, by show d0 v = d0 v + 0; omega⟩
/-- one improvement keeps distances real -/
theorem real_step {N : Nw} (h : N.ok) {f d0 d : Nat → Int} (hd : Real N f d0 d) {s : Sp} (hi : s.i < N.m) (hr : 0 < N.rm f s) :
    Real N f d0 (fun v => if N.fin s = v then d (N.beg s) + N.sc s else d v) := by
  intro v hv
  by_cases e : N.fin s = v
  · have hb : N.beg s < N.V := walk_mem h (.cons hi (.nil _)) _ (by simp)
    obtain ⟨a, l, w, hm, hq⟩ := hd _ hb
    refine ⟨a, l ++ [s], e ▸ walk_append w (.cons hi (.nil _)), fun t ht => ?_, ?_⟩
    · rw [List.mem_append] at ht
      rcases ht with ht | ht
      · exact hm t ht
      · rw [List.mem_singleton.1 ht]; exact hr
    · show (if N.fin s = v then d (N.beg s) + N.sc s else d v) = _
      rw [if_pos e, wc_append, hq]
      show d0 a + N.wc l + N.sc s = d0 a + (N.wc l + (N.sc s + 0))
      omega
  · obtain ⟨a, l, w, hm, hq⟩ := hd v hv
    exact ⟨a, l, w, hm, by show (if N.fin s = v then d (N.beg s) + N.sc s else d v) = _; rw [if_neg e, hq]⟩
/-- THE ROUNDS END: where potentials fit, after V rounds nothing is improved -/
theorem rounds_end {N : Nw} (h : N.ok) {p f d0 d : Nat → Int} (hp : N.fits p f) (hd : Real N f d0 d) (hu : Upto N f d0 d N.V) {s : Sp} (hi : s.i < N.m) (hr : 0 < N.rm f s) :
    d (N.fin s) ≤ d (N.beg s) + N.sc s := by
  have hb : N.beg s < N.V := walk_mem h (.cons hi (.nil _)) _ (by simp)
  obtain ⟨a, l, w, hm, hq⟩ := hd _ hb
  have w1 : Wk N a (l ++ [s]) (N.fin s) := walk_append w (.cons hi (.nil _))
  obtain ⟨k, wk, hk, _, hkl, hkc⟩ := walk_short h hp _ (Nat.le_refl _) w1 (fun t ht => by
    rw [List.mem_append] at ht
    rcases ht with ht | ht
    · exact hm t ht
    · rw [List.mem_singleton.1 ht]; exact hr)
  have h1 := hu a k _ wk hk hkl
  rw [wc_append] at hkc
  have h2 : N.wc [s] = N.sc s := by show N.sc s + 0 = N.sc s; omega
  omega
/-- distances that are the least of all walks do not depend on the order of the steps -/
theorem rounds_one {N : Nw} {f d0 d e : Nat → Int} (hd : Real N f d0 d) (he : Real N f d0 e) (fd : ∀ s : Sp, s.i < N.m → 0 < N.rm f s → d (N.fin s) ≤ d (N.beg s) + N.sc s) (fe : ∀ s : Sp, s.i < N.m → 0 < N.rm f s → e (N.fin s) ≤ e (N.beg s) + N.sc s)
    (sd : ∀ v, d v ≤ d0 v) (se : ∀ v, e v ≤ d0 v) : ∀ v, v < N.V → d v = e v := by
  intro v hv
  have go : ∀ (x y : Nat → Int), Real N f d0 x → (∀ s : Sp, s.i < N.m → 0 < N.rm f s → y (N.fin s) ≤ y (N.beg s) + N.sc s) → (∀ v, y v ≤ d0 v) → y v ≤ x v := fun x y hx fy sy => by
    obtain ⟨a, l, w, hm, hq⟩ := hx v hv
    have h1 := walk_cost (fix_fits fy) w hm
    have h2 := sy a
    omega
  have a := go d e hd fe se
  have b := go e d he fd sd
  omega
/-- how much there is too much, in all -/
def tot (V : Nat) (x : Nat → Int) : Int := sm V fun v => max 0 (x v)
theorem tot_nonneg (V : Nat) (x : Nat → Int) : 0 ≤ tot V x := sm_nonneg fun v _ => by show 0 ≤ max 0 (x v); omega
/-- THE MEASURE: a push from too much to too little takes its amount away -/
theorem tot_push {V a b : Nat} (ha : a < V) {x y : Nat → Int} {d : Int} (hd : 0 < d) (h1 : d ≤ x a) (h2 : x b ≤ -d)
    (hy : ∀ v, v < V → y v = x v + ((if b = v then d else 0) - (if a = v then d else 0))) : tot V y = tot V x - d := by
  have e : tot V y = sm V (fun v => max 0 (x v) - (if a = v then d else 0)) := by
    refine sm_congr fun v hv => ?_
    show max 0 (y v) = max 0 (x v) - (if a = v then d else 0)
    rw [hy v hv]
    by_cases ea : a = v
    · subst ea
      by_cases eb : b = a
      · subst eb; omega
      · rw [if_neg eb, if_pos rfl]; omega
    · rw [if_neg ea]
      by_cases eb : b = v
      · subst eb; rw [if_pos rfl]; omega
      · rw [if_neg eb]; omega
  rw [e, sm_sub, sm_single ha]; rfl
/-- excesses add up to nothing -/
theorem exc_sum {N : Nw} (h : N.ok) (f : Nat → Int) : sm N.V (fun v => N.exc f v) = 0 := by
  have h1 := weigh h (fun _ => 1) f
  rw [sm_congr (g := fun _ => 0) (fun i _ => by show (1 - 1 : Int) * f i = 0; simp), sm_zero] at h1
  rw [sm_congr (g := fun v => 1 * N.exc f v) (fun v _ => by simp)]
  exact h1.symm
/-- where nothing is too much nothing is too little -/
theorem exc_zero {N : Nw} (h : N.ok) {f : Nat → Int} (hs : ∀ v, v < N.V → N.exc f v ≤ 0) : ∀ v, v < N.V → N.exc f v = 0 := by
  have h1 := exc_sum h f
  have h2 := sm_all_zero (n := N.V) (f := fun v => 0 - N.exc f v) (fun v hv => by have := hs v hv; show 0 ≤ 0 - N.exc f v; omega) (by
    rw [sm_sub, h1, sm_zero]; omega)
  intro v hv
  have := h2 v hv
  have : 0 - N.exc f v = 0 := this
  omega
/-- so the flow at the end, with fitting prices, is a cheapest circulation -/
theorem done_circ {N : Nw} (h : N.ok) {f : Nat → Int} (hb : N.bd f) (hs : ∀ v, v < N.V → N.exc f v ≤ 0) : N.circ f := ⟨hb, exc_zero h hs⟩
/-- THE SEARCH FAILS: all vertices with too much are in the set, those with too little are not -/
theorem search_none {N : Nw} (h : N.ok) {f : Nat → Int} (R : Nat → Bool) (hr : ∀ s : Sp, s.i < N.m → 0 < N.rm f s → R (N.beg s) = true → R (N.fin s) = true)
    (hneg : ∀ v, v < N.V → R v = true → 0 ≤ N.exc f v) {u : Nat} (hu : u < N.V) (hR : R u = true) (hx : 0 < N.exc f u) (g : Nat → Int) : ¬ N.circ g := by
  refine cut_none (f := f) h R ?_ ?_ ?_ g
  · intro i hi a b
    by_cases e : N.up i ≤ f i
    · exact e
    · exfalso
      have := hr ⟨i, true⟩ hi (by unfold Nw.rm; simp; omega) a
      rw [show N.fin ⟨i, true⟩ = N.to i from rfl, b] at this
      exact absurd this (by simp)
  · intro i hi a b
    by_cases e : f i ≤ N.lo i
    · exact e
    · exfalso
      have := hr ⟨i, false⟩ hi (by unfold Nw.rm; simp; omega) b
      rw [show N.fin ⟨i, false⟩ = N.fr i from rfl, a] at this
      exact absurd this (by simp)
  · by_cases e : 0 < sm N.V (fun v => ind R v * N.exc f v)
    · exact e
    · exfalso
      have hz := sm_all_zero (n := N.V) (f := fun v => ind R v * N.exc f v) (fun v hv => by
        show 0 ≤ ind R v * N.exc f v
        unfold ind
        cases hq : R v
        · simp
        · have := hneg v hv hq; simp; omega) (by omega) u hu
      have : ind R u * N.exc f u = 0 := hz
      unfold ind at this
      rw [hR] at this
      simp at this
      omega
/-- DIJKSTRA, between two choices: done vertices lie nearer than the others, and their steps are obeyed -/
structure Dij (N : Nw) (p f d : Nat → Int) (D : Nat → Bool) : Prop where
  near : ∀ u v, D u = true → D v = false → d u ≤ d v
  obey : ∀ s : Sp, s.i < N.m → 0 < N.rm f s → D (N.beg s) = true → d (N.fin s) ≤ d (N.beg s) + N.sp p s
theorem dij_step {N : Nw} {p f d d1 : Nat → Int} {D : Nat → Bool} (hp : N.fits p f) (hd : Dij N p f d D) {u : Nat} (hu : D u = false) (hmin : ∀ v, D v = false → d u ≤ d v)
    (hle : ∀ v, d1 v ≤ d v) (hob : ∀ s : Sp, s.i < N.m → 0 < N.rm f s → N.beg s = u → d1 (N.fin s) ≤ d u + N.sp p s)
    (hre : ∀ v, d1 v = d v ∨ (d1 v < d v ∧ ∃ s : Sp, s.i < N.m ∧ 0 < N.rm f s ∧ N.beg s = u ∧ N.fin s = v ∧ d1 v = d u + N.sp p s)) :
    Dij N p f d1 (fun v => if v = u then true else D v) := by
  have hlow : ∀ v, d1 v = d v ∨ d u ≤ d1 v := fun v => by
    rcases hre v with e | ⟨_, s, hi, hr, _, _, e⟩
    · exact .inl e
    · have := fits_steps.1 hp s hi hr
      exact .inr (by omega)
  have hkeep : ∀ v, D v = true → d1 v = d v := fun v hv => by
    rcases hre v with e | ⟨hlt, s, hi, hr, _, _, e⟩
    · exact e
    · have := fits_steps.1 hp s hi hr
      have := hd.near v u hv hu
      omega
  have hself : d1 u = d u := by
    rcases hre u with e | ⟨hlt, s, hi, hr, _, _, e⟩
    · exact e
    · have := fits_steps.1 hp s hi hr
      omega
  refine ⟨fun a b ha hb => ?_, fun s hi hr ha => ?_⟩
  · have hb0 : D b = false := by
      by_cases e : b = u
      · simp [e] at hb
      · simpa [e] using hb
    have h1 : d u ≤ d1 b := by
      rcases hlow b with e | e
      · have := hmin b hb0; omega
      · exact e
    by_cases e : a = u
    · subst e; omega
    · have ha0 : D a = true := by simpa [e] using ha
      have := hkeep a ha0
      have := hd.near a u ha0 hu
      omega
  · by_cases e : N.beg s = u
    · have := hob s hi hr e
      rw [e, hself]; exact this
    · have ha0 : D (N.beg s) = true := by simpa [e] using ha
      have h1 := hd.obey s hi hr ha0
      have h2 := hle (N.fin s)
      have h3 := hkeep _ ha0
      omega
/-- POINTERS BACK: where each leads to a lesser rank they make a walk from the root, over arcs that differ -/
theorem ptr_walk {N : Nw} (bk : Nat → Sp) (rank : Nat → Nat) (P : Nat → Prop) (a : Nat)
    (hP : ∀ v, P v → v ≠ a → (bk v).i < N.m ∧ N.fin (bk v) = v ∧ P (N.beg (bk v)) ∧ rank (N.beg (bk v)) < rank v) :
    ∀ (n : Nat) (v : Nat), rank v ≤ n → P v → ∃ l, Wk N a l v ∧ (∀ s ∈ l, ∃ w, P w ∧ w ≠ a ∧ s = bk w ∧ rank w ≤ rank v) ∧ l.Pairwise (fun s t => s.i ≠ t.i) := by
  intro n
  induction n with
  | zero =>
    intro v hr hv
    by_cases e : v = a
    · subst e; exact ⟨[], .nil _, by simp, .nil⟩
    · have := (hP v hv e).2.2.2; omega
  | succ n ih =>
    intro v hr hv
    by_cases e : v = a
    · subst e; exact ⟨[], .nil _, by simp, .nil⟩
    · obtain ⟨hi, hf, hb, hlt⟩ := hP v hv e
      obtain ⟨l, w, hl, hp⟩ := ih (N.beg (bk v)) (by omega) hb
      have w1 : Wk N (N.beg (bk v)) [bk v] v := by
        have := Wk.cons hi (.nil (N := N) (N.fin (bk v)))
        rw [hf] at this
        exact this
      refine ⟨l ++ [bk v], walk_append w w1, fun s hs => ?_, ?_⟩
      · rw [List.mem_append] at hs
        rcases hs with hs | hs
        · obtain ⟨x, h1, h2, h3, h4⟩ := hl s hs
          exact ⟨x, h1, h2, h3, by omega⟩
        · exact ⟨v, hv, e, List.mem_singleton.1 hs, Nat.le_refl _⟩
      · rw [List.pairwise_append]
        refine ⟨hp, List.pairwise_singleton .., fun s hs t ht heq => ?_⟩
        rw [List.mem_singleton.1 ht] at heq
        obtain ⟨x, h1, h2, h3, h4⟩ := hl s hs
        obtain ⟨_, hfx, _, hltx⟩ := hP x h1 h2
        rw [h3] at heq
        have hc : N.fin (bk x) = N.fin (bk v) ∨ N.beg (bk x) = N.fin (bk v) := by
          unfold Nw.fin Nw.beg
          rw [heq]
          cases (bk x).fw <;> cases (bk v).fw <;> simp
        rcases hc with hc | hc
        · rw [hfx, hf] at hc; rw [hc] at h4; omega
        · rw [hf] at hc; rw [hc] at hltx; omega
theorem above (n : Nat) (g : Nat → Int) : ∃ K, ∀ i, i < n → g i ≤ K := by
  induction n with
  | zero => exact ⟨0, fun i hi => by omega⟩
  | succ n ih =>
    obtain ⟨K, h⟩ := ih
    refine ⟨max K (g n), fun i hi => ?_⟩
    by_cases e : i = n
    · subst e; omega
    · have := h i (by omega); omega
/-- distances on what is reached are carried on to potentials of all -/
theorem reach_fits {N : Nw} {p f d : Nat → Int} (hp : N.fits p f) (R : Nat → Bool) (hc : ∀ s : Sp, s.i < N.m → 0 < N.rm f s → R (N.beg s) = true → R (N.fin s) = true)
    (hd : ∀ s : Sp, s.i < N.m → 0 < N.rm f s → R (N.beg s) = true → d (N.fin s) ≤ d (N.beg s) + N.sc s) : ∃ q, N.fits q f ∧ ∀ v, R v = true → q v = d v := by
  obtain ⟨K1, h1⟩ := above N.m fun i => d (N.fin ⟨i, true⟩) - p (N.beg ⟨i, true⟩) - N.sc ⟨i, true⟩
  obtain ⟨K2, h2⟩ := above N.m fun i => d (N.fin ⟨i, false⟩) - p (N.beg ⟨i, false⟩) - N.sc ⟨i, false⟩
  have hK : ∀ s : Sp, s.i < N.m → d (N.fin s) - p (N.beg s) - N.sc s ≤ max K1 K2 := fun ⟨i, fw⟩ hi => by
    cases fw
    · have := h2 i hi; omega
    · have := h1 i hi; omega
  refine ⟨fun v => if R v = true then d v else p v + max K1 K2, fix_fits fun s hi hr => ?_, fun v hv => if_pos hv⟩
  show (if R (N.fin s) = true then d (N.fin s) else p (N.fin s) + max K1 K2) ≤ (if R (N.beg s) = true then d (N.beg s) else p (N.beg s) + max K1 K2) + N.sc s
  by_cases e : R (N.beg s) = true
  · rw [if_pos e, if_pos (hc s hi hr e)]; exact hd s hi hr e
  · rw [if_neg e]
    by_cases e2 : R (N.fin s) = true
    · rw [if_pos e2]; have := hK s hi; omega
    · rw [if_neg e2]
      have := fits_steps.1 hp s hi hr
      unfold Nw.sp at this
      omega
end Go.Proofs.Ythoehobofdeifaa
