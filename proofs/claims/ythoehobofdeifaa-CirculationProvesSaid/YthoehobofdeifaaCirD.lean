/-
  PLAIN LAW of Dijkstra's search as circulation.nearest runs it. No program in sight. (Filled in from a template of this repo.)
-/
import Derived.Test.YthoehobofdeifaaCirK
namespace Go.Proofs.Ythoehobofdeifaa

def far : Int := 1152921504606846976
/-- the greatest price -/
def MP : Int := 1099511628776
/-- how many of the first n -/
def nD (D : Nat → Bool) : Nat → Nat
  | 0 => 0
  | n + 1 => nD D n + if D n then 1 else 0
theorem nD_le (D : Nat → Bool) : ∀ n, nD D n ≤ n
  | 0 => Nat.le_refl _
  | n + 1 => by have := nD_le D n; show nD D n + _ ≤ n + 1; split <;> omega
theorem nD_none : ∀ n, nD (fun _ => false) n = 0
  | 0 => rfl
  | n + 1 => by show nD _ n + _ = 0; rw [nD_none n]; rfl
def mark (D : Nat → Bool) (u : Nat) : Nat → Bool := fun v => if v = u then true else D v
theorem nD_mark (D : Nat → Bool) (u : Nat) (hu : D u = false) : ∀ n, nD (mark D u) n = nD D n + if u < n then 1 else 0
  | 0 => rfl
  | n + 1 => by
    have ih := nD_mark D u hu n
    have e1 : nD (mark D u) (n + 1) = nD (mark D u) n + if mark D u n = true then 1 else 0 := rfl
    have e2 : nD D (n + 1) = nD D n + if D n = true then 1 else 0 := rfl
    rw [e1, e2, ih]
    by_cases e : n = u
    · subst e
      have : mark D n n = true := if_pos rfl
      rw [this, hu, if_neg (by omega : ¬ n < n), if_pos (by omega : n < n + 1)]; simp
    · have : mark D u n = D n := if_neg e
      rw [this]
      by_cases h : u < n
      · rw [if_pos h, if_pos (by omega : u < n + 1)]; omega
      · rw [if_neg h, if_neg (by omega : ¬ u < n + 1)]; omega
/-- between two choices; k vertices are done -/
structure Dk (N : Nw) (p f : Nat → Int) (fm : Nat) (d : Nat → Int) (bk : Nat → Sp) (D : Nat → Bool) (rk : Nat → Nat) (k : Nat) : Prop where
  dij : Dij N p f d D
  root : d fm = 0
  out : ∀ v, N.V ≤ v → d v = far
  bd : ∀ v, 0 ≤ d v ∧ (d v ≤ (k : Int) * MP ∨ d v = far)
  done : ∀ v, D v = true → d v < far
  rkD : ∀ v, D v = true → rk v < k
  rkN : ∀ v, D v = false → rk v = k
  ptr : ∀ v, d v < far → v ≠ fm → (bk v).i < N.m ∧ N.fin (bk v) = v ∧ 0 < N.rm f (bk v) ∧ D (N.beg (bk v)) = true ∧ d v = d (N.beg (bk v)) + N.sp p (bk v) ∧ rk (N.beg (bk v)) < rk v
  cnt : nD D N.V = k
theorem Dk.start (N : Nw) (p f : Nat → Int) (fm : Nat) (hf : fm < N.V) (bk : Nat → Sp) : Dk N p f fm (fun v => if v = fm then 0 else far) bk (fun _ => false) (fun _ => 0) 0 := by
  refine ⟨⟨fun u v h => (by cases h), fun s _ _ h => (by cases h)⟩, by simp, fun v hv => if_neg (by omega), fun v => ?_, fun v h => (by cases h), fun v h => (by cases h), fun v _ => rfl, fun v hv hne => ?_, nD_none _⟩
  · by_cases e : v = fm
    · simp [e, far]
    · simp [e, far]
  · simp [hne] at hv
/-- while the steps of u are looked at -/
structure Dn (N : Nw) (p f : Nat → Int) (d : Nat → Int) (bk : Nat → Sp) (u : Nat) (l : List Sp) (d1 : Nat → Int) (bk1 : Nat → Sp) : Prop where
  le : ∀ v, d1 v ≤ d v
  ob : ∀ s ∈ l, 0 < N.rm f s → d1 (N.fin s) ≤ d u + N.sp p s
  re : ∀ v, (d1 v = d v ∧ bk1 v = bk v) ∨ (d1 v < d v ∧ (bk1 v).i < N.m ∧ 0 < N.rm f (bk1 v) ∧ N.beg (bk1 v) = u ∧ N.fin (bk1 v) = v ∧ d1 v = d u + N.sp p (bk1 v))
theorem Dn.start (N : Nw) (p f d : Nat → Int) (bk : Nat → Sp) (u : Nat) : Dn N p f d bk u [] d bk := ⟨fun _ => Int.le_refl _, fun s h => (by cases h), fun _ => .inl ⟨rfl, rfl⟩⟩
theorem Dn.self {N : Nw} {p f d d1 : Nat → Int} {bk bk1 : Nat → Sp} {u : Nat} {l : List Sp} (h : Dn N p f d bk u l d1 bk1) (hp : N.fits p f) : d1 u = d u := by
  rcases h.re u with e | ⟨hlt, hi, hr, _, _, e⟩
  · exact e.1
  · have := fits_steps.1 hp _ hi hr
    omega
theorem Dn.keep {N : Nw} {p f d d1 : Nat → Int} {bk bk1 : Nat → Sp} {u : Nat} {l : List Sp} (h : Dn N p f d bk u l d1 bk1) {s : Sp} (hs : N.rm f s ≤ 0 ∨ d1 (N.fin s) ≤ d u + N.sp p s) : Dn N p f d bk u (l ++ [s]) d1 bk1 :=
  ⟨h.le, fun t ht hr => by
    rw [List.mem_append] at ht
    rcases ht with ht | ht
    · exact h.ob t ht hr
    · rw [List.mem_singleton.1 ht] at hr ⊢
      rcases hs with hs | hs
      · omega
      · exact hs, h.re⟩
def upd {α : Type} (d : Nat → α) (v : Nat) (x : α) : Nat → α := fun w => if w = v then x else d w
theorem upd_same {α : Type} (d : Nat → α) (v : Nat) (x : α) : upd d v x v = x := if_pos rfl
theorem upd_other {α : Type} (d : Nat → α) {v w : Nat} (x : α) (h : w ≠ v) : upd d v x w = d w := if_neg h
theorem Dn.take {N : Nw} {p f d d1 : Nat → Int} {bk bk1 : Nat → Sp} {u : Nat} {l : List Sp} (h : Dn N p f d bk u l d1 bk1) {s : Sp} (hi : s.i < N.m) (hb : N.beg s = u) (hr : 0 < N.rm f s) (hlt : d u + N.sp p s < d1 (N.fin s)) :
    Dn N p f d bk u (l ++ [s]) (upd d1 (N.fin s) (d u + N.sp p s)) (upd bk1 (N.fin s) s) := by
  have hle : ∀ v, upd d1 (N.fin s) (d u + N.sp p s) v ≤ d1 v := fun v => by
    by_cases e : v = N.fin s
    · subst e; rw [upd_same]; omega
    · rw [upd_other _ _ e]; exact Int.le_refl _
  refine ⟨fun v => Int.le_trans (hle v) (h.le v), fun t ht hrt => ?_, fun v => ?_⟩
  · rw [List.mem_append] at ht
    rcases ht with ht | ht
    · exact Int.le_trans (hle _) (h.ob t ht hrt)
    · rw [List.mem_singleton.1 ht, upd_same]; exact Int.le_refl _
  · by_cases e : v = N.fin s
    · subst e
      have := h.le (N.fin s)
      rw [upd_same, upd_same]
      exact .inr ⟨by omega, hi, hr, hb, rfl, rfl⟩
    · rw [upd_other _ _ e, upd_other _ _ e]; exact h.re v
/-- the price of a step with room -/
theorem sp_bd {N : Nw} (hv : N.valid) {p f : Nat → Int} (hf : N.fits p f) (hp : ∀ v, v < N.V → 0 ≤ p v ∧ p v ≤ 1099511627776) {s : Sp} (hi : s.i < N.m) : N.sp p s ≤ MP ∧ (0 < N.rm f s → 0 ≤ N.sp p s) := by
  have h1 := hp _ (beg_lt hv.ok hi)
  have h2 := hp _ (fin_lt hv.ok hi)
  have h3 := hv.c s.i hi
  refine ⟨?_, fun hr => fits_steps.1 hf s hi hr⟩
  unfold Nw.sp Nw.sc MP
  split <;> omega
theorem MPV {k : Nat} (h : k ≤ 520) : (k : Int) * MP < far := by
  unfold MP far
  have : (k : Int) * 1099511628776 ≤ 520 * 1099511628776 := Int.mul_le_mul_of_nonneg_right (by omega) (by omega)
  omega
/-- A CHOICE -/
theorem Dk.step {N : Nw} (hv : N.valid) {p f d d1 : Nat → Int} {bk bk1 : Nat → Sp} {D : Nat → Bool} {rk : Nat → Nat} {fm k u : Nat} (h : Dk N p f fm d bk D rk k) (hf : N.fits p f) (hp : ∀ v, v < N.V → 0 ≤ p v ∧ p v ≤ 1099511627776)
    (hu : D u = false) (hur : d u < far) (hmin : ∀ v, D v = false → d u ≤ d v) {l : List Sp} (hl : ∀ s : Sp, s.i < N.m → N.beg s = u → s ∈ l) (hn : Dn N p f d bk u l d1 bk1) :
    Dk N p f fm d1 bk1 (mark D u) (fun v => if D v = true then rk v else if v = u then k else k + 1) (k + 1) ∧ k < N.V := by
  have huV : u < N.V := by
    by_cases e : u < N.V
    · exact e
    · have := h.out u (by omega); omega
  have hself := hn.self hf
  have hkV : k < N.V := by
    have h1 := nD_mark D u hu N.V
    have h2 := nD_le (mark D u) N.V
    rw [if_pos huV, h.cnt] at h1
    omega
  have hdij := dij_step hf h.dij hu hmin hn.le (fun s hi hr hb => hn.ob s (hl s hi hb) hr) (fun v => by
    rcases hn.re v with e | ⟨a, b, c, d', e, g⟩
    · exact .inl e.1
    · exact .inr ⟨a, bk1 v, b, c, d', e, g⟩)
  have hkeep : ∀ v, D v = true → d1 v = d v ∧ bk1 v = bk v := fun v hv' => by
    rcases hn.re v with e | ⟨hlt, hi, hr, _, _, e⟩
    · exact e
    · have := fits_steps.1 hf _ hi hr
      have := h.dij.near v u hv' hu
      omega
  have hfar := MPV (k := k) (by have := hv.V2; omega)
  have hub : d u ≤ (k : Int) * MP := by
    rcases (h.bd u).2 with e | e
    · exact e
    · omega
  have hMP : ((k + 1 : Nat) : Int) * MP = (k : Int) * MP + MP := by rw [Int.natCast_add, Int.add_mul]; simp
  have hfar1 := MPV (k := k + 1) (by have := hv.V2; omega)
  have hnew : ∀ v, d1 v < d v → D v = false ∧ v ≠ u := fun v hlt => by
    refine ⟨?_, fun e => ?_⟩
    · cases hq : D v
      · rfl
      · have := (hkeep v hq).1; omega
    · subst e; omega
  have hd0 := h.bd u
  refine ⟨⟨hdij, ?_, fun v hv' => ?_, fun v => ?_, fun v hD => ?_, fun v hD => ?_, fun v hD => ?_, fun v hvf hne => ?_, ?_⟩, hkV⟩
  · rcases hn.re fm with e | ⟨hlt, hi, hr, _, _, e⟩
    · rw [e.1, h.root]
    · have := fits_steps.1 hf _ hi hr
      have := h.root
      omega
  · rcases hn.re v with e | ⟨hlt, hi, hr, _, hfin, e⟩
    · rw [e.1, h.out v hv']
    · have := fin_lt hv.ok hi
      omega
  · have hb := h.bd v
    have hM : (0 : Int) ≤ MP := by unfold MP; omega
    rcases hn.re v with e | ⟨hlt, hi, hr, _, hfin, e⟩
    · rw [e.1, hMP]
      refine ⟨hb.1, ?_⟩
      rcases hb.2 with e2 | e2
      · left; omega
      · right; exact e2
    · have := sp_bd hv hf hp hi
      have := this.2 hr
      rw [hMP]
      refine ⟨by omega, .inl (by omega)⟩
  · by_cases e : v = u
    · subst e; omega
    · have : D v = true := by unfold mark at hD; rwa [if_neg e] at hD
      have h1 := (hkeep v this).1
      have h2 := h.done v this
      omega
  · show (if D v = true then rk v else if v = u then k else k + 1) < k + 1
    by_cases e : D v = true
    · rw [if_pos e]; have := h.rkD v e; omega
    · rw [if_neg e]
      by_cases e2 : v = u
      · rw [if_pos e2]; omega
      · unfold mark at hD; rw [if_neg e2] at hD; exact absurd hD e
  · show (if D v = true then rk v else if v = u then k else k + 1) = k + 1
    by_cases e2 : v = u
    · unfold mark at hD; rw [if_pos e2] at hD; cases hD
    · unfold mark at hD
      rw [if_neg e2] at hD
      rw [if_neg (by rw [hD]; simp), if_neg e2]
  · have hmk : ∀ x, D x = true → mark D u x = true := fun x hx => by unfold mark; split <;> first | rfl | exact hx
    rcases hn.re v with e | ⟨hlt, hi, hr, hb, hfin, e⟩
    · rw [e.1] at hvf
      obtain ⟨p1, p2, p3, p4, p5, p6⟩ := h.ptr v hvf hne
      rw [e.2]
      refine ⟨p1, p2, p3, hmk _ p4, by rw [e.1, (hkeep _ p4).1]; exact p5, ?_⟩
      show (if D (N.beg (bk v)) = true then rk (N.beg (bk v)) else if N.beg (bk v) = u then k else k + 1) < (if D v = true then rk v else if v = u then k else k + 1)
      rw [if_pos p4]
      by_cases e2 : D v = true
      · rw [if_pos e2]; exact p6
      · rw [if_neg e2]
        have := h.rkD _ p4
        split <;> omega
    · obtain ⟨q1, q2⟩ := hnew v hlt
      refine ⟨hi, hfin, hr, by rw [hb]; exact if_pos rfl, by rw [e, hb, hself], ?_⟩
      rw [hb]
      show (if D u = true then rk u else if u = u then k else k + 1) < (if D v = true then rk v else if v = u then k else k + 1)
      rw [if_neg (by rw [hu]; simp), if_pos rfl, if_neg (by rw [q1]; simp), if_neg q2]
      omega
  · rw [nD_mark D u hu, if_pos huV, h.cnt]
/-- WHAT THE SEARCH LEAVES -/
structure Near (N : Nw) (p f : Nat → Int) (fm : Nat) (d : Nat → Int) (bk : Nat → Sp) : Prop where
  root : d fm = 0
  bd : ∀ v, 0 ≤ d v ∧ d v ≤ far
  obey : ∀ s : Sp, s.i < N.m → 0 < N.rm f s → d (N.beg s) < far → d (N.fin s) ≤ d (N.beg s) + N.sp p s
  lim : ∀ v, d v < far → d v ≤ 520 * MP
  walk : ∀ v, v < N.V → d v < far → ∃ l, Pw N bk fm v l ∧ l.length ≤ 520 ∧ l.Pairwise (fun s t => s.i ≠ t.i) ∧ Wk N fm l v ∧ ∀ s ∈ l, s.i < N.m ∧ 0 < N.rm f s ∧ d (N.fin s) = d (N.beg s) + N.sp p s ∧ d (N.fin s) ≤ d v
theorem Dk.near {N : Nw} (hv : N.valid) {p f d : Nat → Int} {bk : Nat → Sp} {D : Nat → Bool} {rk : Nat → Nat} {fm k : Nat} (h : Dk N p f fm d bk D rk k) (hf : N.fits p f) (hend : ∀ v, v < N.V → D v = false → d v = far) : Near N p f fm d bk := by
  have hkV : k ≤ 520 := by have := h.cnt; have := nD_le D N.V; have := hv.V2; omega
  have hV : ∀ v, d v < far → v < N.V := fun v hvf => by
    by_cases e : v < N.V
    · exact e
    · have := h.out v (by omega); omega
  have hdone : ∀ v, d v < far → D v = true := fun v hvf => by
    cases hq : D v
    · have := hend v (hV v hvf) hq; omega
    · rfl
  refine ⟨h.root, fun v => ⟨(h.bd v).1, ?_⟩, fun s hi hr hb => h.dij.obey s hi hr (hdone _ hb), fun v hvf => ?_, ?_⟩
  · have := MPV hkV
    rcases (h.bd v).2 with e | e <;> omega
  · have h1 : (k : Int) * MP ≤ 520 * MP := Int.mul_le_mul_of_nonneg_right (by omega) (by unfold MP; omega)
    rcases (h.bd v).2 with e | e <;> omega
  · have key : ∀ (n v : Nat), rk v ≤ n → d v < far → ∃ l, Pw N bk fm v l ∧ l.length ≤ rk v + 1 ∧ Wk N fm l v ∧ l.Pairwise (fun s t => s.i ≠ t.i) ∧ ∀ s ∈ l, ∃ x, d x < far ∧ x ≠ fm ∧ s = bk x ∧ rk x ≤ rk v ∧ d x ≤ d v := by
      intro n
      induction n with
      | zero =>
        intro v hr hvf
        by_cases e : v = fm
        · subst e; exact ⟨[], .nil, by simp, .nil _, .nil, by simp⟩
        · have := (h.ptr v hvf e).2.2.2.2.2; omega
      | succ n ih =>
        intro v hr hvf
        by_cases e : v = fm
        · subst e; exact ⟨[], .nil, by simp, .nil _, .nil, by simp⟩
        · obtain ⟨p1, p2, p3, p4, p5, p6⟩ := h.ptr v hvf e
          have h1 := h.done _ p4
          obtain ⟨l, hl, hlen, hw, hpw, hm⟩ := ih (N.beg (bk v)) (by omega) h1
          have h2 := fits_steps.1 hf _ p1 p3
          have w1 : Wk N (N.beg (bk v)) [bk v] v := by
            have := Wk.cons p1 (.nil (N := N) (N.fin (bk v)))
            rw [p2] at this
            exact this
          refine ⟨l ++ [bk v], .snoc e (hV v hvf) p1 hl, by simp; omega, walk_append hw w1, ?_, fun s hs => ?_⟩
          · rw [List.pairwise_append]
            refine ⟨hpw, List.pairwise_singleton .., fun s hs t ht heq => ?_⟩
            rw [List.mem_singleton.1 ht] at heq
            obtain ⟨x, g1, g2, g3, g4, g5⟩ := hm s hs
            obtain ⟨_, hfx, _, _, _, hltx⟩ := h.ptr x g1 g2
            rw [g3] at heq
            have hc : N.fin (bk x) = N.fin (bk v) ∨ N.beg (bk x) = N.fin (bk v) := by
              unfold Nw.fin Nw.beg
              rw [heq]
              cases (bk x).fw <;> cases (bk v).fw <;> simp
            rcases hc with hc | hc
            · rw [hfx, p2] at hc; rw [hc] at g4; omega
            · rw [p2] at hc; rw [hc] at hltx; omega
          · rw [List.mem_append] at hs
            rcases hs with hs | hs
            · obtain ⟨x, g1, g2, g3, g4, g5⟩ := hm s hs
              exact ⟨x, g1, g2, g3, by omega, by omega⟩
            · exact ⟨v, hvf, e, List.mem_singleton.1 hs, Nat.le_refl _, Int.le_refl _⟩
    intro v hvV hvf
    obtain ⟨l, hl, hlen, hw, hpw, hm⟩ := key (rk v) v (Nat.le_refl _) hvf
    have hrk := h.rkD v (hdone v hvf)
    refine ⟨l, hl, by omega, hpw, hw, fun s hs => ?_⟩
    obtain ⟨x, g1, g2, g3, g4, g5⟩ := hm s hs
    obtain ⟨p1, p2, p3, p4, p5, p6⟩ := h.ptr x g1 g2
    subst g3
    exact ⟨p1, p3, by rw [p2]; exact p5, by rw [p2]; exact g5⟩
end Go.Proofs.Ythoehobofdeifaa
