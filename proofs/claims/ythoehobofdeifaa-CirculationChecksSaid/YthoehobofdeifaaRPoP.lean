/-
  PLAIN LAW of Potentials: the rounds end, or there are no potentials. No program in sight. (Filled in from a template of this repo.)
-/
import Derived.Test.YthoehobofdeifaaRxP
namespace Go.Proofs.Ythoehobofdeifaa
set_option linter.unusedVariables false

theorem nodup_all : ∀ (n : Nat) (l : List Nat), l.Nodup → (∀ x ∈ l, x < n) → l.length = n → ∀ x, x < n → x ∈ l := by
  intro n
  induction n with
  | zero => intro l _ _ _ x hx; omega
  | succ n ih =>
    intro l hn hl hlen x hx
    have hin : n ∈ l := by
      apply Classical.byContradiction
      intro hni
      have := pigeon n l hn (fun y hy => by
        have := hl y hy
        have : y ≠ n := fun e => hni (e ▸ hy)
        omega)
      omega
    have h2 : (l.erase n).Nodup := hn.erase n
    have h3 : ∀ y ∈ l.erase n, y < n := fun y hy => by
      have h4 := (List.Nodup.mem_erase_iff hn).1 hy
      have := hl y h4.2
      have := h4.1
      omega
    have h5 : (l.erase n).length = n := by rw [List.length_erase_of_mem hin]; omega
    by_cases e : x = n
    · subst e; exact hin
    · exact List.mem_of_mem_erase (ih (l.erase n) h2 h3 h5 x (by omega))
theorem walk_split2 {N : Nw} {a b : Nat} {l : List Sp} (w : Wk N a l b) : ∀ x, x ∈ l.map N.beg → ∃ l1 l2, l = l1 ++ l2 ∧ l2 ≠ [] ∧ Wk N a l1 x ∧ Wk N x l2 b := by
  induction w with
  | nil a => intro x hx; simp at hx
  | @cons s l b hi w ih =>
    intro x hx
    by_cases e : N.beg s = x
    · subst e; exact ⟨[], s :: l, rfl, by simp, .nil _, .cons hi w⟩
    · obtain ⟨l1, l2, e1, hne, w1, w2⟩ := ih x (by
        rw [List.map_cons, List.mem_cons] at hx
        rcases hx with hx | hx
        · exact absurd hx.symm e
        · exact hx)
      exact ⟨s :: l1, l2, by rw [e1]; rfl, hne, .cons hi w1, w2⟩
/-- a walk may have fewer steps than there are vertices -/
theorem walk_less {N : Nw} (h : N.ok) {p f : Nat → Int} (hp : N.fits p f) {a b : Nat} (hb : b < N.V) {l : List Sp} (w : Wk N a l b) (hr : ∀ s ∈ l, 0 < N.rm f s) :
    ∃ k, Wk N a k b ∧ (∀ s ∈ k, 0 < N.rm f s) ∧ k.length + 1 ≤ N.V ∧ N.wc k ≤ N.wc l := by
  obtain ⟨k, wk, hk, hn, hkl, hkc⟩ := walk_short h hp _ (Nat.le_refl _) w hr
  by_cases e : k.length = N.V
  · have hmem := nodup_all N.V (k.map N.beg) hn (walk_mem h wk) (by simpa using e) b hb
    obtain ⟨l1, l2, e1, hne, w1, w2⟩ := walk_split2 wk b hmem
    have h2 := walk_cost hp w2 (fun s hs => hk s (by rw [e1]; simp [hs]))
    have h3 : N.wc k = N.wc l1 + N.wc l2 := by rw [e1, wc_append]
    have hl2 : 0 < l2.length := List.length_pos_iff.2 hne
    have hlen : k.length = l1.length + l2.length := by rw [e1]; simp
    exact ⟨l1, w1, fun s hs => hk s (by rw [e1]; simp [hs]), by omega, by omega⟩
  · exact ⟨k, wk, hk, by omega, hkc⟩
/-- after V - 1 rounds nothing is improved, where potentials fit -/
theorem rounds_end1 {N : Nw} (h : N.ok) {p f d0 d : Nat → Int} (hp : N.fits p f) (hd : Real N f d0 d) (hu : Upto N f d0 d (N.V - 1)) {s : Sp} (hi : s.i < N.m) (hr : 0 < N.rm f s) :
    d (N.fin s) ≤ d (N.beg s) + N.sc s := by
  have hb : N.beg s < N.V := walk_mem h (.cons hi (.nil _)) _ (by simp)
  have hf := fin_lt h hi
  obtain ⟨a, l, w, hm, hq⟩ := hd _ hb
  have w1 : Wk N a (l ++ [s]) (N.fin s) := walk_append w (.cons hi (.nil _))
  obtain ⟨k, wk, hk, hkl, hkc⟩ := walk_less h hp hf w1 (fun t ht => by
    rw [List.mem_append] at ht
    rcases ht with ht | ht
    · exact hm t ht
    · rw [List.mem_singleton.1 ht]; exact hr)
  have h1 := hu a k _ wk hk (by omega)
  rw [wc_append] at hkc
  have h2 : N.wc [s] = N.sc s := by show N.sc s + 0 = N.sc s; omega
  omega
theorem rx_none {N : Nw} {f : Nat → Int} {D : Ds} (h : ∀ s : Sp, s.i < N.m → ¬ D.can N f s) : ∀ k, k ≤ N.m → rx N f D k = D
  | 0, _ => rfl
  | k + 1, hk => by
    show ((rx N f D k).imp N f ⟨k, true⟩).imp N f ⟨k, false⟩ = D
    rw [rx_none h k (by omega), Ds.imp_no (h ⟨k, true⟩ (by show k < N.m; omega)), Ds.imp_no (h ⟨k, false⟩ (by show k < N.m; omega))]
/-- the distances of Potentials, at the head of round k -/
structure Pr (N : Nw) (f : Nat → Int) (k : Nat) (d : Nat → Int) : Prop where
  real : Real N f (fun _ => 0) d
  upto : Upto N f (fun _ => 0) d k
  le : ∀ v, d v ≤ 0
  lo : ∀ v, v < N.V → -(4800000 * (k : Int)) ≤ d v
theorem Pr.start {N : Nw} (f : Nat → Int) : Pr N f 0 (fun _ => 0) :=
  ⟨real_start N f _, upto_zero N f _, fun _ => Int.le_refl _, fun _ _ => by simp⟩
theorem Pr.step {N : Nw} (hv : N.valid) {f : Nat → Int} {k : Nat} {d o : Nat → Int} {b : Bool} (h : Pr N f k d) : Pr N f (k + 1) (rx N f ⟨d, o, b⟩ N.m).d := by
  have hfar : ∀ v, v < N.V → d v < rfar := fun v _ => by have := h.le v; unfold rfar; omega
  refine ⟨rx_real hv.ok h.real (Nat.le_refl _), upto_round h.upto (rx_rnd (D := ⟨d, o, b⟩) hv.ok hfar), fun v => ?_, fun v hvV => ?_⟩
  · have h1 : (rx N f ⟨d, o, b⟩ N.m).d v ≤ d v := rx_le (Nat.le_refl _) v
    have := h.le v
    omega
  · have h1 := (rx_bd hv (f := f) (D := ⟨d, o, b⟩) (L := 4800000 * (k : Int)) (fun v hv => ⟨h.lo v hv, by have := hfar v hv; show d v ≤ rfar; omega⟩) N.m (Nat.le_refl _) v hvV).1
    have := hv.m2
    push_cast
    omega
/-- what potentials are: the least costs of walks -/
structure Pd (N : Nw) (f d : Nat → Int) : Prop where
  fits : N.fits d f
  real : Real N f (fun _ => 0) d
  le : ∀ v, d v ≤ 0
theorem Pr.still {N : Nw} (hv : N.valid) {f : Nat → Int} {k : Nat} {d o : Nat → Int} (h : Pr N f k d) (hb : (rx N f ⟨d, o, false⟩ N.m).b = false) : Pd N f (rx N f ⟨d, o, false⟩ N.m).d := by
  obtain ⟨e, hn⟩ := rx_still (N := N) (f := f) (D := ⟨d, o, false⟩) N.m hb
  rw [e]
  refine ⟨fix_fits fun s hi hr => ?_, h.real, h.le⟩
  apply Classical.byContradiction
  intro hlt
  exact hn s hi ⟨hr, by have := h.le (N.beg s); show d (N.beg s) < rfar; unfold rfar; omega, by show d (N.beg s) + N.sc s < d (N.fin s); have : ¬ d (N.fin s) ≤ d (N.beg s) + N.sc s := hlt; omega⟩
/-- round V - 1 says whether there are potentials -/
theorem Pr.last {N : Nw} (hv : N.valid) {f : Nat → Int} {k : Nat} {d o : Nat → Int} (h : Pr N f k d) (hk : N.V ≤ k + 1) (hb : (rx N f ⟨d, o, false⟩ N.m).b = true) : ¬ ∃ p, N.fits p f := by
  rintro ⟨p, hp⟩
  have hu : Upto N f (fun _ => 0) d (N.V - 1) := fun a l b w hm hl => h.upto a l b w hm (by omega)
  have hno : ∀ s : Sp, s.i < N.m → ¬ Ds.can N f ⟨d, o, false⟩ s := fun s hi hc => by
    have h1 := rounds_end1 hv.ok hp h.real hu hi hc.1
    have h2 : d (N.beg s) + N.sc s < d (N.fin s) := hc.2.2
    omega
  rw [rx_none hno N.m (Nat.le_refl _)] at hb
  cases hb
theorem Pd.one {N : Nw} {f d e : Nat → Int} (hd : Pd N f d) (he : Pd N f e) : ∀ v, v < N.V → d v = e v :=
  rounds_one hd.real he.real (fun s hi hr => by have := fits_steps.1 hd.fits s hi hr; unfold Nw.sp at this; omega) (fun s hi hr => by have := fits_steps.1 he.fits s hi hr; unfold Nw.sp at this; omega) hd.le he.le
theorem Pd.lo {N : Nw} (hv : N.valid) {f d : Nat → Int} (hd : Pd N f d) {v : Nat} (hvV : v < N.V) : -520000 ≤ d v ∧ d v ≤ 0 := by
  refine ⟨?_, hd.le v⟩
  obtain ⟨a, l, w, hr, e⟩ := hd.real v hvV
  obtain ⟨k, wk, hk, hkl, hkc⟩ := walk_less hv.ok hd.fits hvV w hr
  have h1 := (wc_bound (N := N) (C := 1000) k (fun s hs => sc_bd hv (walk_idx wk s hs))).1
  have := hv.V2
  have e' : d v = 0 + N.wc l := e
  omega
end Go.Proofs.Ythoehobofdeifaa
