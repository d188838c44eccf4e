/-
  PLAIN LAW of balance: what holds between two pushes, and that no number grows too great. No program in sight. (Filled in from a template of this repo.)
-/
import Derived.Test.YthoehobofdeifaaCirD
namespace Go.Proofs.Ythoehobofdeifaa

theorem sm_le {n : Nat} {f g : Nat → Int} (h : ∀ i, i < n → f i ≤ g i) : sm n f ≤ sm n g := by
  induction n with
  | zero => exact Int.le_refl _
  | succ n ih =>
    have h1 := ih (fun i hi => h i (by omega))
    have h2 := h n (by omega)
    rw [sm_succ, sm_succ]; omega
theorem sm_const (n : Nat) (c : Int) : sm n (fun _ => c) = (n : Int) * c := by
  induction n with
  | zero => simp [sm]
  | succ n ih => rw [sm_succ, ih, Int.natCast_add, Int.add_mul]; simp
theorem sm_bound {n : Nat} {f : Nat → Int} {C : Int} (h : ∀ i, i < n → -C ≤ f i ∧ f i ≤ C) : -((n : Int) * C) ≤ sm n f ∧ sm n f ≤ (n : Int) * C := by
  have h1 := sm_le (n := n) (f := f) (g := fun _ => C) (fun i hi => (h i hi).2)
  have h2 := sm_le (n := n) (f := fun _ => -C) (g := f) (fun i hi => (h i hi).1)
  rw [sm_const] at h1 h2
  rw [Int.mul_neg] at h2
  exact ⟨h2, h1⟩
/-- the bounds of flows and excesses -/
theorem flow_bd {N : Nw} (hv : N.valid) {f : Nat → Int} (hb : N.bd f) {i : Nat} (hi : i < N.m) : 0 ≤ f i ∧ f i ≤ 1099511627776 := by
  have h1 := hv.lo i hi
  have h2 := hb i hi
  omega
theorem exc_bd {N : Nw} (hv : N.valid) {f : Nat → Int} (hb : N.bd f) (v : Nat) : -2638827906662400 ≤ N.exc f v ∧ N.exc f v ≤ 2638827906662400 := by
  have h := sm_bound (n := N.m) (f := fun i => (if N.to i = v then f i else 0) - (if N.fr i = v then f i else 0)) (C := 1099511627776) (fun i hi => by
    have := flow_bd hv hb hi
    show -1099511627776 ≤ (if N.to i = v then f i else 0) - (if N.fr i = v then f i else 0) ∧ (if N.to i = v then f i else 0) - (if N.fr i = v then f i else 0) ≤ 1099511627776
    split <;> split <;> omega)
  have hm : (N.m : Int) * 1099511627776 ≤ 2400 * 1099511627776 := Int.mul_le_mul_of_nonneg_right (by have := hv.m2; omega) (by omega)
  unfold Nw.exc
  omega
/-- between two pushes of balance -/
structure Bal (N : Nw) (f p x : Nat → Int) : Prop where
  bd : N.bd f
  fit : N.fits p f
  exc : ∀ v, v < N.V → N.exc f v = x v
  pot : ∃ (S : Int) (a : Nat), a < N.V ∧ (∀ v, v < a → x v ≤ 0) ∧ (∀ v, v < N.V → 0 ≤ p v ∧ p v ≤ S) ∧ (∀ v, v < N.V → x v < 0 → p v = S) ∧ p a ≤ (a : Int) * 520000 ∧ S ≤ p a + 520000
theorem Bal.pots {N : Nw} (hv : N.valid) {f p x : Nat → Int} (h : Bal N f p x) {v : Nat} (hvV : v < N.V) : 0 ≤ p v ∧ p v ≤ 300000000 := by
  obtain ⟨S, a, ha, _, h2, _, h4, h5⟩ := h.pot
  have := h2 v hvV
  have := hv.V2
  omega
theorem Bal.xb {N : Nw} (hv : N.valid) {f p x : Nat → Int} (h : Bal N f p x) {v : Nat} (hvV : v < N.V) : -2638827906662400 ≤ x v ∧ x v ≤ 2638827906662400 := by
  rw [← h.exc v hvV]; exact exc_bd hv h.bd v
/-- the flow that balance begins with -/
def Nw.f0 (N : Nw) (i : Nat) : Int := if N.c i < 0 then N.up i else N.lo i
theorem bal_start {N : Nw} (hv : N.valid) : Bal N N.f0 (fun _ => 0) (N.exc N.f0) := by
  refine ⟨fun i hi => ?_, fun i hi => ?_, fun _ _ => rfl, 0, 0, hv.V1, fun v hv => absurd hv (by omega), fun _ _ => ⟨Int.le_refl _, Int.le_refl _⟩, fun _ _ _ => rfl, by simp, by simp⟩
  · have := hv.lo i hi
    unfold Nw.f0
    split <;> omega
  · show (N.f0 i < N.up i → 0 ≤ N.c i + 0 - 0) ∧ (N.lo i < N.f0 i → N.c i + 0 - 0 ≤ 0)
    unfold Nw.f0
    split <;> constructor <;> intro _ <;> omega
/-- along a walk over which distances grow by the prices -/
theorem walk_sum {N : Nw} {p d : Nat → Int} {a b : Nat} {l : List Sp} (w : Wk N a l b) : (∀ s ∈ l, d (N.fin s) = d (N.beg s) + N.sp p s) → d b - d a = N.wc l + p a - p b := by
  induction w with
  | nil a => intro _; show d a - d a = 0 + p a - p a; omega
  | @cons s l b hi w ih =>
    intro h
    have h1 := ih fun t ht => h t (List.mem_cons_of_mem _ ht)
    have h2 := h s (List.mem_cons_self ..)
    unfold Nw.sp at h2
    show d b - d (N.beg s) = N.sc s + N.wc l + p (N.beg s) - p b
    omega
theorem walk_idx {N : Nw} {a b : Nat} {l : List Sp} (w : Wk N a l b) : ∀ s ∈ l, s.i < N.m := by
  induction w with
  | nil a => intro s hs; cases hs
  | @cons s l b hi w ih =>
    intro t ht
    rw [List.mem_cons] at ht
    rcases ht with rfl | ht
    · exact hi
    · exact ih t ht
theorem sc_bd {N : Nw} (hv : N.valid) {s : Sp} (hi : s.i < N.m) : -1000 ≤ N.sc s ∧ N.sc s ≤ 1000 := by
  have := hv.c s.i hi
  unfold Nw.sc
  split <;> omega
/-- A PUSH -/
theorem Bal.step {N : Nw} (hv : N.valid) {f p x d : Nat → Int} {bk : Nat → Sp} (h : Bal N f p x) {fm to_ : Nat} (hfm : fm < N.V) (hfx : 0 < x fm) (hfirst : ∀ v, v < fm → x v ≤ 0) (hn : Near N p f fm d bk)
    (hto : to_ < N.V) (htx : x to_ < 0) (htd : d to_ < far) (hmin : ∀ v, v < N.V → x v < 0 → d to_ ≤ d v) {l : List Sp} (hlen : l.length ≤ 520) (hpw : l.Pairwise (fun s t => s.i ≠ t.i)) (hw : Wk N fm l to_)
    (hl : ∀ s ∈ l, s.i < N.m ∧ 0 < N.rm f s ∧ d (N.fin s) = d (N.beg s) + N.sp p s ∧ d (N.fin s) ≤ d to_) {m : Int} (hm : 0 < m) (hm1 : m ≤ x fm) (hm2 : m ≤ -x to_) (hmr : ∀ s ∈ l, m ≤ N.rm f s) :
    Bal N (pushes f l m) (fun v => p v + min (d v) (d to_)) (upd (upd x fm (x fm - m)) to_ (x to_ + m)) ∧ tot N.V (upd (upd x fm (x fm - m)) to_ (x to_ + m)) < tot N.V x := by
  have hne : to_ ≠ fm := fun e => by rw [e] at htx; omega
  have hx' : ∀ v, upd (upd x fm (x fm - m)) to_ (x to_ + m) v = x v + ((if to_ = v then m else 0) - (if fm = v then m else 0)) := fun v => by
    by_cases e1 : v = to_
    · subst e1; rw [upd_same, if_pos rfl, if_neg (fun e => hne e.symm)]; omega
    · rw [upd_other _ _ e1, if_neg (fun e => e1 e.symm)]
      by_cases e2 : v = fm
      · subst e2; rw [upd_same, if_pos rfl]; omega
      · rw [upd_other _ _ e2, if_neg (fun e => e2 e.symm)]; omega
  have hsh : N.fits (fun v => p v + min (d v) (d to_)) f := least_shift (d to_) h.fit (fun s hi hr hb => hn.obey s hi hr (by omega))
  have hzero : ∀ s ∈ l, N.sp (fun v => p v + min (d v) (d to_)) s = 0 := fun s hs => by
    obtain ⟨hi, hr, he, hle⟩ := hl s hs
    have h0 := fits_steps.1 h.fit s hi hr
    show N.sc s + (p (N.beg s) + min (d (N.beg s)) (d to_)) - (p (N.fin s) + min (d (N.fin s)) (d to_)) = 0
    unfold Nw.sp at he h0
    omega
  have hd0 : ∀ v, 0 ≤ d v := fun v => (hn.bd v).1
  obtain ⟨S, a, haV, h1, h2, h3, h4, h5⟩ := h.pot
  have hsum := walk_sum (p := p) hw (fun s hs => (hl s hs).2.2.1)
  have hwc := (wc_bound (N := N) (C := 1000) l (fun s hs => sc_bd hv (hl s hs).1)).2
  have hS := h3 to_ hto htx
  have hroot := hn.root
  have haf : a ≤ fm := by
    by_cases e : a ≤ fm
    · exact e
    · have := h1 fm (by omega); omega
  have hpf := h2 fm hfm
  have hp1 : p fm ≤ (fm : Int) * 520000 := by
    by_cases e : a = fm
    · subst e; exact h4
    · have h6 : ((a : Int) + 1) * 520000 ≤ (fm : Int) * 520000 := Int.mul_le_mul_of_nonneg_right (by omega) (by omega)
      rw [Int.add_mul] at h6
      omega
  refine ⟨⟨bd_pushes h.bd (by omega) hmr hpw, fits_pushes hsh hzero, fun v hvV => ?_, S + d to_, fm, hfm, fun v hvf => ?_, fun v hvV => ?_, fun v hvV hxv => ?_, ?_, ?_⟩, ?_⟩
  · rw [exc_pushes hw, hx', h.exc v hvV]
  · rw [hx']
    have h7 := hfirst v hvf
    by_cases e : to_ = v
    · subst e; rw [if_pos rfl]; split <;> omega
    · rw [if_neg e]; split <;> omega
  · have := h2 v hvV
    have := hd0 v
    have := hd0 to_
    show 0 ≤ p v + min (d v) (d to_) ∧ p v + min (d v) (d to_) ≤ S + d to_
    omega
  · rw [hx'] at hxv
    have hxv0 : x v < 0 := by
      by_cases e : fm = v
      · subst e; rw [if_neg hne, if_pos rfl] at hxv; omega
      · rw [if_neg e] at hxv
        by_cases e2 : to_ = v
        · subst e2; exact htx
        · rw [if_neg e2] at hxv; omega
    have := h3 v hvV hxv0
    have := hmin v hvV hxv0
    show p v + min (d v) (d to_) = S + d to_
    omega
  · have := hd0 to_
    show p fm + min (d fm) (d to_) ≤ (fm : Int) * 520000
    rw [hroot]; omega
  · have := hd0 to_
    show S + d to_ ≤ p fm + min (d fm) (d to_) + 520000
    rw [hroot]
    omega
  · rw [tot_push (a := fm) (b := to_) hfm hm hm1 (by omega) (fun v _ => hx' v)]; omega
/-- a cut that tells that there is no circulation -/
def Nw.noc (N : Nw) : Prop := ∃ (f : Nat → Int) (R : Nat → Bool), (∀ i, i < N.m → R (N.fr i) = true → R (N.to i) = false → N.up i ≤ f i) ∧ (∀ i, i < N.m → R (N.fr i) = false → R (N.to i) = true → f i ≤ N.lo i) ∧ 0 < sm N.V (fun v => ind R v * N.exc f v)
theorem noc_none {N : Nw} (h : N.ok) (hn : N.noc) (g : Nat → Int) : ¬ N.circ g := by
  obtain ⟨f, R, h1, h2, h3⟩ := hn
  exact cut_none (f := f) h R h1 h2 h3 g
theorem search_noc {N : Nw} {f : Nat → Int} (R : Nat → Bool) (hr : ∀ s : Sp, s.i < N.m → 0 < N.rm f s → R (N.beg s) = true → R (N.fin s) = true)
    (hneg : ∀ v, v < N.V → R v = true → 0 ≤ N.exc f v) {u : Nat} (hu : u < N.V) (hR : R u = true) (hx : 0 < N.exc f u) : N.noc := by
  refine ⟨f, R, fun i hi a b => ?_, fun i hi a b => ?_, ?_⟩
  · apply Classical.byContradiction
    intro e
    have := hr ⟨i, true⟩ hi (by unfold Nw.rm; simp; omega) a
    rw [show N.fin ⟨i, true⟩ = N.to i from rfl, b] at this
    cases this
  · apply Classical.byContradiction
    intro e
    have := hr ⟨i, false⟩ hi (by unfold Nw.rm; simp; omega) b
    rw [show N.fin ⟨i, false⟩ = N.fr i from rfl, a] at this
    cases this
  · have hnn : ∀ v, v < N.V → 0 ≤ ind R v * N.exc f v := fun v hv => by
      unfold ind
      cases hq : R v
      · simp
      · have := hneg v hv hq; simp; omega
    apply Classical.byContradiction
    intro e
    have hz := sm_all_zero (n := N.V) (f := fun v => ind R v * N.exc f v) hnn (by omega) u hu
    have hz' : ind R u * N.exc f u = 0 := hz
    unfold ind at hz'
    rw [hR] at hz'
    simp at hz'
    omega
theorem Bal.noc {N : Nw} (hv : N.valid) {f p x d : Nat → Int} {bk : Nat → Sp} (h : Bal N f p x) {fm : Nat} (hfm : fm < N.V) (hfx : 0 < x fm) (hn : Near N p f fm d bk)
    (hno : ∀ v, v < N.V → x v < 0 → far ≤ d v) : N.noc := by
  refine search_noc (f := f) (fun v => decide (d v < far)) (fun s hi hr hb => ?_) (fun v hvV hR => ?_) hfm ?_ ?_
  · have hb' : d (N.beg s) < far := by simpa using hb
    have h1 := hn.obey s hi hr hb'
    have h2 := hn.lim _ hb'
    have h3 : N.sp p s ≤ MP := (sp_bd hv h.fit (fun v hvV => by have := h.pots hv hvV; omega) hi).1
    have h4 : 520 * MP + MP < far := by unfold MP far; omega
    have : d (N.fin s) < far := by omega
    simpa using this
  · have hR' : d v < far := by simpa using hR
    rw [h.exc v hvV]
    by_cases e : 0 ≤ x v
    · exact e
    · have := hno v hvV (by omega); omega
  · have := hn.root
    have h4 : d fm < far := by rw [this]; unfold far; omega
    simpa using h4
  · rw [h.exc fm hfm]; exact hfx
/-- NOTHING IS TOO MUCH: a circulation -/
theorem Bal.done {N : Nw} (hv : N.valid) {f p x : Nat → Int} (h : Bal N f p x) (hx : ∀ v, v < N.V → x v ≤ 0) : N.circ f :=
  done_circ hv.ok h.bd (fun v hvV => by rw [h.exc v hvV]; exact hx v hvV)
end Go.Proofs.Ythoehobofdeifaa
