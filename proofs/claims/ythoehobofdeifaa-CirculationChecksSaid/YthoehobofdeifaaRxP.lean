/-
  PLAIN LAW of the reference's search for cheapest circulations: distances that are improved, pointers, a push. No program in sight. (Filled in from a template of this repo.)
-/
import Derived.Test.YthoehobofdeifaaCirB
import Derived.Test.YthoehobofdeifaaCirL
namespace Go.Proofs.Ythoehobofdeifaa
set_option linter.unusedVariables false

def rfar : Int := 1125899906842624
/-- how the reference writes a step -/
def Sp.code (s : Sp) : Int := if s.fw then (s.i : Int) + 1 else -(s.i : Int) - 1
theorem code_ne (s : Sp) : s.code ≠ 0 := by unfold Sp.code; split <;> omega
theorem code_inj {s t : Sp} (h : s.code = t.code) : s = t := by
  obtain ⟨i, a⟩ := s
  obtain ⟨j, b⟩ := t
  unfold Sp.code at h
  cases a <;> cases b <;> simp at h ⊢ <;> omega
/-- distances and pointers, and whether any was improved -/
structure Ds where
  d : Nat → Int
  o : Nat → Int
  b : Bool
def Ds.can (N : Nw) (f : Nat → Int) (D : Ds) (s : Sp) : Prop := 0 < N.rm f s ∧ D.d (N.beg s) < rfar ∧ D.d (N.beg s) + N.sc s < D.d (N.fin s)
def Ds.put (N : Nw) (D : Ds) (s : Sp) : Ds := ⟨upd D.d (N.fin s) (D.d (N.beg s) + N.sc s), upd D.o (N.fin s) s.code, true⟩
noncomputable def Ds.imp (N : Nw) (f : Nat → Int) (D : Ds) (s : Sp) : Ds := @ite _ (D.can N f s) (Classical.propDecidable _) (D.put N s) D
theorem Ds.imp_yes {N : Nw} {f : Nat → Int} {D : Ds} {s : Sp} (h : D.can N f s) : D.imp N f s = D.put N s := by unfold Ds.imp; rw [if_pos h]
theorem Ds.imp_no {N : Nw} {f : Nat → Int} {D : Ds} {s : Sp} (h : ¬ D.can N f s) : D.imp N f s = D := by unfold Ds.imp; rw [if_neg h]
/-- one round, over the first arcs -/
noncomputable def rx (N : Nw) (f : Nat → Int) (D : Ds) : Nat → Ds
  | 0 => D
  | k + 1 => ((rx N f D k).imp N f ⟨k, true⟩).imp N f ⟨k, false⟩
theorem imp_ind {N : Nw} {f : Nat → Int} {I : Ds → Prop} {D : Ds} {s : Sp} (h : I D) (hs : D.can N f s → I (D.put N s)) : I (D.imp N f s) := by
  by_cases e : D.can N f s
  · rw [Ds.imp_yes e]; exact hs e
  · rw [Ds.imp_no e]; exact h
theorem rx_ind {N : Nw} {f : Nat → Int} {I : Ds → Prop} {D : Ds} (h0 : I D) (hs : ∀ D s, s.i < N.m → I D → D.can N f s → I (D.put N s)) : ∀ k, k ≤ N.m → I (rx N f D k)
  | 0, _ => h0
  | k + 1, hk => imp_ind (imp_ind (rx_ind h0 hs k (by omega)) (hs _ _ (by show k < N.m; omega) (rx_ind h0 hs k (by omega)))) (hs _ _ (by show k < N.m; omega) (imp_ind (rx_ind h0 hs k (by omega)) (hs _ _ (by show k < N.m; omega) (rx_ind h0 hs k (by omega)))))
theorem imp_b {N : Nw} {f : Nat → Int} {D : Ds} {s : Sp} (h : (D.imp N f s).b = false) : D.imp N f s = D ∧ ¬ D.can N f s := by
  by_cases e : D.can N f s
  · rw [Ds.imp_yes e] at h; cases h
  · exact ⟨Ds.imp_no e, e⟩
/-- nothing was improved: nothing can be improved -/
theorem rx_still {N : Nw} {f : Nat → Int} {D : Ds} : ∀ k, (rx N f D k).b = false → rx N f D k = D ∧ ∀ s : Sp, s.i < k → ¬ D.can N f s
  | 0, _ => ⟨rfl, fun s hs => absurd hs (by omega)⟩
  | k + 1, h => by
    obtain ⟨e1, n1⟩ := imp_b (D := (rx N f D k).imp N f ⟨k, true⟩) (s := ⟨k, false⟩) h
    have h2 : ((rx N f D k).imp N f ⟨k, true⟩).b = false := by rw [← e1]; exact h
    obtain ⟨e2, n2⟩ := imp_b h2
    have h3 : (rx N f D k).b = false := by rw [← e2]; exact h2
    obtain ⟨e3, n3⟩ := rx_still k h3
    refine ⟨by show (((rx N f D k).imp N f ⟨k, true⟩).imp N f ⟨k, false⟩) = D; rw [e1, e2, e3], fun s hs => ?_⟩
    by_cases e : s.i < k
    · exact n3 s e
    · obtain ⟨i, fw⟩ := s
      obtain rfl : i = k := by simp at hs e; omega
      rw [e2, e3] at n1
      rw [e3] at n2
      cases fw
      · exact n1
      · exact n2
theorem put_le {N : Nw} {f : Nat → Int} {D : Ds} {s : Sp} (h : D.can N f s) (v : Nat) : (D.put N s).d v ≤ D.d v := by
  show upd D.d (N.fin s) (D.d (N.beg s) + N.sc s) v ≤ D.d v
  by_cases e : v = N.fin s
  · subst e; rw [upd_same]; have := h.2.2; omega
  · rw [upd_other _ _ e]; exact Int.le_refl _
theorem rx_le {N : Nw} {f : Nat → Int} {D : Ds} {k : Nat} (hk : k ≤ N.m) (v : Nat) : (rx N f D k).d v ≤ D.d v :=
  rx_ind (I := fun E => E.d v ≤ D.d v) (Int.le_refl _) (fun E s hs h hc => Int.le_trans (put_le hc v) h) k hk
theorem imp_bd {N : Nw} (hv : N.valid) {f : Nat → Int} {D : Ds} {s : Sp} (hs : s.i < N.m) {L : Int} (h : ∀ v, v < N.V → -L ≤ D.d v ∧ D.d v ≤ rfar) : ∀ v, v < N.V → -(L + 1000) ≤ (D.imp N f s).d v ∧ (D.imp N f s).d v ≤ rfar := by
  intro v hvV
  by_cases e : D.can N f s
  · rw [Ds.imp_yes e]
    have h1 := put_le e v
    have h2 := h v hvV
    have h3 := h _ (beg_lt hv.ok hs)
    have h4 := sc_bd hv hs
    refine ⟨?_, by omega⟩
    show -(L + 1000) ≤ upd D.d (N.fin s) (D.d (N.beg s) + N.sc s) v
    by_cases e2 : v = N.fin s
    · subst e2; rw [upd_same]; omega
    · rw [upd_other _ _ e2]; omega
  · rw [Ds.imp_no e]; have := h v hvV; omega
theorem rx_bd {N : Nw} (hv : N.valid) {f : Nat → Int} {D : Ds} {L : Int} (h : ∀ v, v < N.V → -L ≤ D.d v ∧ D.d v ≤ rfar) : ∀ k, k ≤ N.m → ∀ v, v < N.V → -(L + 2000 * k) ≤ (rx N f D k).d v ∧ (rx N f D k).d v ≤ rfar
  | 0, _ => fun v hvV => by have := h v hvV; show -(L + 2000 * ((0 : Nat) : Int)) ≤ D.d v ∧ D.d v ≤ rfar; omega
  | k + 1, hk => fun v hvV => by
    have h0 := rx_bd hv (f := f) h k (by omega)
    have h1 := imp_bd hv (f := f) (D := rx N f D k) (s := ⟨k, true⟩) (by show k < N.m; omega) h0
    have h2 := imp_bd hv (f := f) (D := (rx N f D k).imp N f ⟨k, true⟩) (s := ⟨k, false⟩) (by show k < N.m; omega) h1 v hvV
    show -(L + 2000 * ((k + 1 : Nat) : Int)) ≤ (((rx N f D k).imp N f ⟨k, true⟩).imp N f ⟨k, false⟩).d v ∧ _
    have e : -(L + 2000 * ((k + 1 : Nat) : Int)) = -(L + 2000 * (k : Int) + 1000 + 1000) := by push_cast; omega
    rw [e]
    exact h2
/-- what was improved has less in all -/
theorem put_sum {N : Nw} (hok : N.ok) {f : Nat → Int} {D : Ds} {s : Sp} (hs : s.i < N.m) (h : D.can N f s) : sm N.V (D.put N s).d + 1 ≤ sm N.V D.d := by
  have hf := fin_lt hok hs
  have h1 : sm N.V D.d = sm N.V (D.put N s).d + sm N.V (fun v => if N.fin s = v then D.d (N.fin s) - (D.d (N.beg s) + N.sc s) else 0) := by
    rw [← sm_add]
    refine sm_congr fun v hv => ?_
    show D.d v = upd D.d (N.fin s) (D.d (N.beg s) + N.sc s) v + _
    by_cases e : v = N.fin s
    · subst e; rw [upd_same]; simp; omega
    · rw [upd_other _ _ e, if_neg (fun h => e h.symm)]; omega
  rw [sm_single hf] at h1
  have := h.2.2
  omega
theorem rx_sum {N : Nw} (hok : N.ok) {f : Nat → Int} {D : Ds} {k : Nat} (hk : k ≤ N.m) (hb : D.b = false) : (rx N f D k).b = false ∨ sm N.V (rx N f D k).d + 1 ≤ sm N.V D.d := by
  have h := rx_ind (N := N) (f := f) (D := D) (I := fun E => (E.b = false ∧ sm N.V E.d = sm N.V D.d) ∨ sm N.V E.d + 1 ≤ sm N.V D.d) (.inl ⟨hb, rfl⟩) (fun E s hs h hc => by
    have := put_sum hok hs hc
    rcases h with h | h <;> exact .inr (by omega)) k hk
  rcases h with h | h
  · exact .inl h.1
  · exact .inr h
/-- a round of Potentials -/
theorem rx_rnd {N : Nw} (hok : N.ok) {f : Nat → Int} {D : Ds} (hfar : ∀ v, v < N.V → D.d v < rfar) : Rnd N f D.d (rx N f D N.m).d := by
  refine ⟨rx_le (Nat.le_refl _), fun s hs hr => ?_⟩
  have hb := beg_lt hok hs
  have key : ∀ k, k ≤ N.m → s.i < k → (rx N f D k).d (N.fin s) ≤ D.d (N.beg s) + N.sc s := by
    intro k
    induction k with
    | zero => intro _ h; omega
    | succ k ih =>
      intro hk hsk
      have im : ∀ (E : Ds) (t : Sp) (v : Nat), (E.imp N f t).d v ≤ E.d v := fun E t v => by
        by_cases e : E.can N f t
        · rw [Ds.imp_yes e]; exact put_le e v
        · rw [Ds.imp_no e]; exact Int.le_refl _
      have go : ∀ E : Ds, (∀ v, E.d v ≤ D.d v) → (E.imp N f s).d (N.fin s) ≤ D.d (N.beg s) + N.sc s := fun E hE => by
        have h1 := hE (N.beg s)
        have h2 := hfar _ hb
        by_cases e : E.can N f s
        · rw [Ds.imp_yes e]
          show upd E.d (N.fin s) (E.d (N.beg s) + N.sc s) (N.fin s) ≤ _
          rw [upd_same]; omega
        · rw [Ds.imp_no e]
          have : ¬ (E.d (N.beg s) + N.sc s < E.d (N.fin s)) := fun h => e ⟨hr, by omega, h⟩
          omega
      have hle : ∀ v, (rx N f D k).d v ≤ D.d v := rx_le (by omega)
      have hle2 : ∀ v, ((rx N f D k).imp N f ⟨k, true⟩).d v ≤ D.d v := fun v => Int.le_trans (im _ _ v) (hle v)
      show (((rx N f D k).imp N f ⟨k, true⟩).imp N f ⟨k, false⟩).d (N.fin s) ≤ _
      by_cases e : s.i < k
      · have h1 := ih (by omega) e
        have h2 := im (rx N f D k) ⟨k, true⟩ (N.fin s)
        have h3 := im ((rx N f D k).imp N f ⟨k, true⟩) ⟨k, false⟩ (N.fin s)
        omega
      · obtain ⟨i, fw⟩ := s
        obtain rfl : i = k := by simp at hsk e; omega
        cases fw
        · exact go _ hle2
        · exact Int.le_trans (im _ _ _) (go _ hle)
  exact key N.m (Nat.le_refl _) hs
theorem put_real {N : Nw} (hok : N.ok) {f d0 : Nat → Int} {D : Ds} (h : Real N f d0 D.d) {s : Sp} (hs : s.i < N.m) (hc : D.can N f s) : Real N f d0 (D.put N s).d := by
  have := real_step hok h hs hc.1
  have e : (D.put N s).d = fun v => if N.fin s = v then D.d (N.beg s) + N.sc s else D.d v := by
    funext v
    show upd D.d (N.fin s) (D.d (N.beg s) + N.sc s) v = _
    by_cases e : v = N.fin s
    · subst e; rw [upd_same, if_pos rfl]
    · rw [upd_other _ _ e, if_neg (fun h => e h.symm)]
  rw [e]
  exact this
theorem rx_real {N : Nw} (hok : N.ok) {f d0 : Nat → Int} {D : Ds} (h : Real N f d0 D.d) {k : Nat} (hk : k ≤ N.m) : Real N f d0 (rx N f D k).d :=
  rx_ind (I := fun E => Real N f d0 E.d) h (fun E s hs h hc => put_real hok h hs hc) k hk

/-! ### the search of cheapest -/
/-- steps back to a root, as the loops take them -/
inductive Bp (N : Nw) (o : Nat → Int) (a : Nat) : Nat → List Sp → Prop
  | root : o a = 0 → Bp N o a a []
  | back {s : Sp} {l : List Sp} : o (N.fin s) = s.code → s.i < N.m → Bp N o a (N.beg s) l → Bp N o a (N.fin s) (s :: l)
theorem Bp.nil {N : Nw} {o : Nat → Int} {a v : Nat} (h : Bp N o a v []) : v = a ∧ o v = 0 := by cases h with | root h => exact ⟨rfl, h⟩
theorem Bp.cons {N : Nw} {o : Nat → Int} {a v : Nat} {s : Sp} {l : List Sp} (h : Bp N o a v (s :: l)) : N.fin s = v ∧ o v = s.code ∧ s.i < N.m ∧ Bp N o a (N.beg s) l := by
  cases h with | back h1 h2 h3 => exact ⟨rfl, h1, h2, h3⟩
theorem Bp.walk {N : Nw} {o : Nat → Int} {a v : Nat} {l : List Sp} (h : Bp N o a v l) : Wk N a l.reverse v := by
  induction h with
  | root _ => exact .nil _
  | @back s l _ hi _ ih =>
    rw [List.reverse_cons]
    exact walk_append ih (.cons hi (.nil _))
theorem push_comm (f : Nat → Int) (s t : Sp) (d : Int) : push (push f s d) t d = push (push f t d) s d := by
  funext j
  unfold push bump
  by_cases e1 : s.i = j <;> by_cases e2 : t.i = j <;> simp only [e1, e2, if_true, if_false] <;> omega
theorem push_pushes (l : List Sp) (d : Int) : ∀ (f : Nat → Int) (s : Sp), pushes (push f s d) l d = push (pushes f l d) s d := by
  induction l with
  | nil => intro f s; rfl
  | cons t l ih => intro f s; show pushes (push (push f s d) t d) l d = push (pushes (push f t d) l d) s d; rw [push_comm, ih]
theorem pushes_rev (l : List Sp) (d : Int) : ∀ f : Nat → Int, pushes f l.reverse d = pushes f l d := by
  induction l with
  | nil => intro f; rfl
  | cons s l ih =>
    intro f
    have e : pushes f (l.reverse ++ [s]) d = push (pushes f l.reverse d) s d := by unfold pushes; rw [List.foldl_append]; rfl
    rw [List.reverse_cons, e, ih, ← push_pushes]; rfl
/-- distances while they are improved; t is the time, T when each was improved last -/
structure Bm (N : Nw) (f x : Nat → Int) (D : Ds) (t : Nat) (T : Nat → Nat) : Prop where
  le : ∀ v, v < N.V → D.d v ≤ rfar
  real : ∀ v, v < N.V → D.d v = rfar ∨ ∃ a l, a < N.V ∧ 0 < x a ∧ Wk N a l v ∧ (∀ s ∈ l, 0 < N.rm f s) ∧ D.d v = N.wc l
  src : ∀ v, v < N.V → 0 < x v → D.d v ≤ 0
  root : ∀ v, v < N.V → D.o v = 0 → D.d v = rfar ∨ (0 < x v ∧ D.d v = 0)
  ptr : ∀ v, v < N.V → D.o v ≠ 0 → ∃ s : Sp, D.o v = s.code ∧ s.i < N.m ∧ N.fin s = v ∧ 0 < N.rm f s ∧ D.d (N.beg s) < rfar ∧ D.d (N.beg s) + N.sc s ≤ D.d v ∧ D.d v < rfar ∧ (D.d (N.beg s) + N.sc s = D.d v → T (N.beg s) < T v)
  time : ∀ v, v < N.V → T v ≤ t
theorem Bm.start {N : Nw} (f x : Nat → Int) (b : Bool) : Bm N f x ⟨fun v => if x v ≤ 0 then rfar else 0, fun _ => 0, b⟩ 0 (fun _ => 0) := by
  refine ⟨fun v _ => ?_, fun v hv => ?_, fun v _ hx => ?_, fun v _ _ => ?_, fun v _ h => absurd rfl h, fun v _ => Nat.le_refl _⟩
  · show (if x v ≤ 0 then rfar else 0) ≤ rfar
    unfold rfar; split <;> omega
  · by_cases e : x v ≤ 0
    · exact .inl (if_pos e)
    · exact .inr ⟨v, [], hv, by omega, .nil _, by simp, if_neg e⟩
  · show (if x v ≤ 0 then rfar else 0) ≤ 0
    rw [if_neg (by omega)]; omega
  · by_cases e : x v ≤ 0
    · exact .inl (if_pos e)
    · exact .inr ⟨by omega, if_neg e⟩
theorem Bm.lo {N : Nw} (hv : N.valid) {p f x : Nat → Int} (hp : N.fits p f) {D : Ds} {t : Nat} {T : Nat → Nat} (h : Bm N f x D t T) {v : Nat} (hvV : v < N.V) : -520000 ≤ D.d v ∧ D.d v ≤ rfar := by
  refine ⟨?_, h.le v hvV⟩
  rcases h.real v hvV with e | ⟨a, l, ha, hx, w, hr, e⟩
  · rw [e]; unfold rfar; omega
  · obtain ⟨k, wk, hk, _, hkl, hkc⟩ := walk_short hv.ok hp _ (Nat.le_refl _) w hr
    have hi : ∀ s ∈ k, s.i < N.m := walk_idx wk
    have h1 := (wc_bound (N := N) (C := 1000) k (fun s hs => sc_bd hv (hi s hs))).1
    have := hv.V2
    rw [e]; omega
theorem Bm.step {N : Nw} (hv : N.valid) {p f x : Nat → Int} (hp : N.fits p f) {D : Ds} {t : Nat} {T : Nat → Nat} (h : Bm N f x D t T) {s : Sp} (hs : s.i < N.m) (hc : D.can N f s) : Bm N f x (D.put N s) (t + 1) (upd T (N.fin s) (t + 1)) := by
  obtain ⟨hr, hbf, hlt⟩ := hc
  have hbV := beg_lt hv.ok hs
  have hfV := fin_lt hv.ok hs
  have hne : N.beg s ≠ N.fin s := fun e => by
    have := fits_steps.1 hp s hs hr
    unfold Nw.sp at this
    rw [e] at this hlt
    omega
  have dv : ∀ v, v ≠ N.fin s → (D.put N s).d v = D.d v := fun v e => upd_other _ _ e
  have df : (D.put N s).d (N.fin s) = D.d (N.beg s) + N.sc s := upd_same _ _ _
  have ov : ∀ v, v ≠ N.fin s → (D.put N s).o v = D.o v := fun v e => upd_other _ _ e
  have of : (D.put N s).o (N.fin s) = s.code := upd_same _ _ _
  have hle := h.le _ hfV
  refine ⟨fun v hvV => ?_, fun v hvV => ?_, fun v hvV hx => ?_, fun v hvV ho => ?_, fun v hvV ho => ?_, fun v hvV => ?_⟩
  · by_cases e : v = N.fin s
    · subst e; rw [df]; omega
    · rw [dv v e]; exact h.le v hvV
  · by_cases e : v = N.fin s
    · subst e
      rcases h.real _ hbV with e1 | ⟨a, l, ha, hx, w, hr', e1⟩
      · omega
      · refine .inr ⟨a, l ++ [s], ha, hx, walk_append w (.cons hs (.nil _)), fun u hu => ?_, ?_⟩
        · rw [List.mem_append] at hu
          rcases hu with hu | hu
          · exact hr' u hu
          · rw [List.mem_singleton.1 hu]; exact hr
        · rw [df, wc_append, e1]
          show N.wc l + N.sc s = N.wc l + (N.sc s + 0)
          omega
    · rw [dv v e]; exact h.real v hvV
  · by_cases e : v = N.fin s
    · subst e; rw [df]; have := h.src _ hvV hx; omega
    · rw [dv v e]; exact h.src v hvV hx
  · by_cases e : v = N.fin s
    · subst e; rw [of] at ho; exact absurd ho (code_ne s)
    · rw [dv v e]; rw [ov v e] at ho; exact h.root v hvV ho
  · by_cases e : v = N.fin s
    · subst e
      refine ⟨s, of, hs, rfl, hr, by rw [dv _ hne]; exact hbf, by rw [dv _ hne, df]; omega, by rw [df]; omega, fun _ => ?_⟩
      rw [upd_same, upd_other _ _ hne]
      have := h.time _ hbV
      omega
    · rw [ov v e] at ho ⊢
      obtain ⟨u, h1, h2, h3, h4, h5, h6, h7, h8⟩ := h.ptr v hvV ho
      refine ⟨u, h1, h2, h3, h4, ?_, ?_, by rw [dv v e]; exact h7, ?_⟩
      · by_cases e2 : N.beg u = N.fin s
        · rw [e2, df]; omega
        · rw [dv _ e2]; exact h5
      · by_cases e2 : N.beg u = N.fin s
        · rw [e2, df, dv v e]; rw [e2] at h6; omega
        · rw [dv _ e2, dv v e]; exact h6
      · by_cases e2 : N.beg u = N.fin s
        · rw [e2, df, dv v e]; rw [e2] at h6; intro e3; omega
        · rw [dv _ e2, dv v e, upd_other _ _ e2, upd_other _ _ e]; exact h8
  · by_cases e : v = N.fin s
    · subst e; rw [upd_same]; omega
    · rw [upd_other _ _ e]; have := h.time v hvV; omega
theorem Bm.round {N : Nw} (hv : N.valid) {p f x : Nat → Int} (hp : N.fits p f) {D : Ds} {t : Nat} {T : Nat → Nat} (h : Bm N f x D t T) {k : Nat} (hk : k ≤ N.m) : ∃ t' T', Bm N f x (rx N f D k) t' T' :=
  rx_ind (I := fun E => ∃ t' T', Bm N f x E t' T') ⟨t, T, h⟩ (fun E s hs h hc => by
    obtain ⟨t', T', h⟩ := h
    exact ⟨_, _, h.step hv hp hs hc⟩) k hk
theorem bm_b {N : Nw} {f x : Nat → Int} {D : Ds} {t : Nat} {T : Nat → Nat} (h : Bm N f x D t T) (b : Bool) : Bm N f x ⟨D.d, D.o, b⟩ t T := ⟨h.le, h.real, h.src, h.root, h.ptr, h.time⟩
/-- WHERE NOTHING CAN BE IMPROVED: the steps back make a walk -/
theorem Bm.found {N : Nw} (hv : N.valid) {f x : Nat → Int} {D : Ds} {t : Nat} {T : Nat → Nat} (h : Bm N f x D t T) (hst : ∀ s : Sp, s.i < N.m → ¬ D.can N f s) :
    ∀ (n v : Nat), T v ≤ n → v < N.V → D.d v < rfar → ∃ a l, a < N.V ∧ 0 < x a ∧ D.d a = 0 ∧ Bp N D.o a v l ∧ l.Pairwise (fun s t => s.i ≠ t.i) ∧ ∀ s ∈ l, s.i < N.m ∧ 0 < N.rm f s ∧ D.d (N.fin s) = D.d (N.beg s) + N.sc s ∧ D.d (N.beg s) < rfar ∧ T (N.fin s) ≤ T v ∧ T (N.beg s) < T (N.fin s) := by
  intro n
  induction n with
  | zero =>
    intro v hT hvV hd
    by_cases e : D.o v = 0
    · rcases h.root v hvV e with e1 | ⟨e1, e2⟩
      · omega
      · exact ⟨v, [], hvV, e1, e2, .root e, .nil, by simp⟩
    · obtain ⟨s, h1, h2, h3, h4, h5, h6, h7, h8⟩ := h.ptr v hvV e
      have := hst s h2
      have h9 : D.d (N.beg s) + N.sc s = D.d v := by
        apply Classical.byContradiction
        intro hne
        exact this ⟨h4, h5, by rw [h3]; omega⟩
      have := h8 h9
      omega
  | succ n ih =>
    intro v hT hvV hd
    by_cases e : D.o v = 0
    · rcases h.root v hvV e with e1 | ⟨e1, e2⟩
      · omega
      · exact ⟨v, [], hvV, e1, e2, .root e, .nil, by simp⟩
    · obtain ⟨s, h1, h2, h3, h4, h5, h6, h7, h8⟩ := h.ptr v hvV e
      have := hst s h2
      have h9 : D.d (N.beg s) + N.sc s = D.d v := by
        apply Classical.byContradiction
        intro hne
        exact this ⟨h4, h5, by rw [h3]; omega⟩
      have hlt := h8 h9
      obtain ⟨a, l, g1, g2, g3, g4, g5, g6⟩ := ih (N.beg s) (by omega) (beg_lt hv.ok h2) h5
      subst h3
      refine ⟨a, s :: l, g1, g2, g3, .back h1 h2 g4, ?_, fun u hu => ?_⟩
      · refine List.pairwise_cons.2 ⟨fun u hu heq => ?_, g5⟩
        obtain ⟨k1, k2, k3, k4, k5, k6⟩ := g6 u hu
        have hc : N.fin u = N.fin s ∨ N.beg u = N.fin s := by
          unfold Nw.fin Nw.beg
          rw [← heq]
          cases u.fw <;> cases s.fw <;> simp
        rcases hc with hc | hc
        · rw [hc] at k5; omega
        · rw [hc] at k6; omega
      · rw [List.mem_cons] at hu
        rcases hu with hu | hu
        · subst hu; exact ⟨h2, h4, h9.symm, h5, Nat.le_refl _, hlt⟩
        · obtain ⟨k1, k2, k3, k4, k5, k6⟩ := g6 u hu
          exact ⟨k1, k2, k3, k4, by omega, k6⟩
theorem arcs_len {N : Nw} {l : List Sp} (hi : ∀ s ∈ l, s.i < N.m) (hp : l.Pairwise (fun s t => s.i ≠ t.i)) : l.length ≤ N.m := by
  have h1 : (l.map Sp.i).Nodup := by
    unfold List.Nodup
    rw [List.pairwise_map]
    exact hp
  have := pigeon N.m (l.map Sp.i) h1 (fun x hx => by
    rw [List.mem_map] at hx
    obtain ⟨s, hs, rfl⟩ := hx
    exact hi s hs)
  simpa using this
theorem walk_tele {N : Nw} {d : Nat → Int} {a b : Nat} {l : List Sp} (w : Wk N a l b) : (∀ s ∈ l, d (N.fin s) = d (N.beg s) + N.sc s) → d b = d a + N.wc l := by
  induction w with
  | nil a => intro _; show d a = d a + 0; omega
  | @cons s l b hi w ih =>
    intro h
    have h1 := ih (fun t ht => h t (by simp [ht]))
    have h2 := h s (by simp)
    show d b = d (N.beg s) + (N.sc s + N.wc l)
    omega
/-- distances that are known are small -/
theorem Bm.small {N : Nw} (hv : N.valid) {f x : Nat → Int} {D : Ds} {t : Nat} {T : Nat → Nat} (h : Bm N f x D t T) (hst : ∀ s : Sp, s.i < N.m → ¬ D.can N f s) {v : Nat} (hvV : v < N.V) (hd : D.d v < rfar) : D.d v ≤ 2400000 := by
  obtain ⟨a, l, _, _, g3, g4, g5, g6⟩ := h.found hv hst _ v (Nat.le_refl _) hvV hd
  have h1 := walk_tele (d := D.d) g4.walk (fun s hs => (g6 s (by simpa using hs)).2.2.1)
  have h2 := (wc_bound (N := N) (C := 1000) l.reverse (fun s hs => sc_bd hv (g6 s (by simpa using hs)).1)).2
  have h3 := arcs_len (fun s hs => (g6 s hs).1) g5
  rw [List.length_reverse] at h2
  have := hv.m2
  omega
theorem Bm.closed {N : Nw} (hv : N.valid) {f x : Nat → Int} {D : Ds} {t : Nat} {T : Nat → Nat} (h : Bm N f x D t T) (hst : ∀ s : Sp, s.i < N.m → ¬ D.can N f s) {s : Sp} (hs : s.i < N.m) (hr : 0 < N.rm f s) (hb : D.d (N.beg s) < rfar) : D.d (N.fin s) ≤ D.d (N.beg s) + N.sc s ∧ D.d (N.fin s) < rfar := by
  have h1 : D.d (N.fin s) ≤ D.d (N.beg s) + N.sc s := by
    apply Classical.byContradiction
    intro hn
    exact hst s hs ⟨hr, hb, by omega⟩
  have h2 := h.small hv hst (beg_lt hv.ok hs) hb
  have h3 := sc_bd hv hs
  exact ⟨h1, by unfold rfar; omega⟩
/-- what cheapest keeps -/
structure Rc (N : Nw) (f x : Nat → Int) : Prop where
  bd : N.bd f
  fit : ∃ p, N.fits p f
  exc : ∀ v, v < N.V → N.exc f v = x v
theorem Rc.start {N : Nw} (hv : N.valid) : Rc N N.f0 (N.exc N.f0) := ⟨(bal_start hv).bd, ⟨_, (bal_start hv).fit⟩, fun _ _ => rfl⟩
theorem Rc.xb {N : Nw} (hv : N.valid) {f x : Nat → Int} (h : Rc N f x) {v : Nat} (hvV : v < N.V) : -2638827906662400 ≤ x v ∧ x v ≤ 2638827906662400 := by
  rw [← h.exc v hvV]; exact exc_bd hv h.bd v
theorem Rc.done {N : Nw} (hv : N.valid) {f x : Nat → Int} (h : Rc N f x) (hx : ∀ v, v < N.V → x v ≤ 0) : N.circ f :=
  done_circ hv.ok h.bd (fun v hvV => by rw [h.exc v hvV]; exact hx v hvV)
theorem Rc.noc {N : Nw} (hv : N.valid) {f x : Nat → Int} (h : Rc N f x) {D : Ds} {t : Nat} {T : Nat → Nat} (hb : Bm N f x D t T) (hst : ∀ s : Sp, s.i < N.m → ¬ D.can N f s) {u : Nat} (hu : u < N.V) (hxu : 0 < x u)
    (hno : ∀ v, v < N.V → x v < 0 → rfar ≤ D.d v) : N.noc := by
  refine search_noc (f := f) (fun v => decide (D.d v < rfar)) (fun s hi hr hR => ?_) (fun v hvV hR => ?_) hu ?_ ?_
  · have h1 : D.d (N.beg s) < rfar := by simpa using hR
    have := (hb.closed hv hst hi hr h1).2
    simpa using this
  · have h1 : D.d v < rfar := by simpa using hR
    rw [h.exc v hvV]
    apply Classical.byContradiction
    intro e
    have := hno v hvV (by omega)
    omega
  · have := hb.src u hu hxu
    have : D.d u < rfar := by unfold rfar; omega
    simpa using this
  · rw [h.exc u hu]; exact hxu
/-- A PUSH -/
theorem Rc.step {N : Nw} (hv : N.valid) {f x : Nat → Int} (h : Rc N f x) {D : Ds} {t : Nat} {T : Nat → Nat} (hb : Bm N f x D t T) (hst : ∀ s : Sp, s.i < N.m → ¬ D.can N f s) {to_ a : Nat} (hto : to_ < N.V) (htx : x to_ < 0)
    (ha : a < N.V) (hax : 0 < x a) {l : List Sp} (hl : Bp N D.o a to_ l) (hpw : l.Pairwise (fun s t => s.i ≠ t.i)) (hs : ∀ s ∈ l, s.i < N.m ∧ 0 < N.rm f s ∧ D.d (N.fin s) = D.d (N.beg s) + N.sc s ∧ D.d (N.beg s) < rfar)
    {m : Int} (hm : 0 < m) (hm1 : m ≤ x a) (hm2 : m ≤ -x to_) (hmr : ∀ s ∈ l, m ≤ N.rm f s) :
    Rc N (pushes f l m) (upd (upd x a (x a - m)) to_ (x to_ + m)) ∧ tot N.V (upd (upd x a (x a - m)) to_ (x to_ + m)) < tot N.V x := by
  have hne : to_ ≠ a := fun e => by rw [e] at htx; omega
  have hx' : ∀ v, upd (upd x a (x a - m)) to_ (x to_ + m) v = x v + ((if to_ = v then m else 0) - (if a = v then m else 0)) := fun v => by
    by_cases e1 : v = to_
    · subst e1; rw [upd_same, if_pos rfl, if_neg (fun e => hne e.symm)]; omega
    · rw [upd_other _ _ e1, if_neg (fun e => e1 e.symm)]
      by_cases e2 : v = a
      · subst e2; rw [upd_same, if_pos rfl]; omega
      · rw [upd_other _ _ e2, if_neg (fun e => e2 e.symm)]; omega
  obtain ⟨p, hp⟩ := h.fit
  obtain ⟨q, hq, hqd⟩ := reach_fits (d := D.d) hp (fun v => decide (D.d v < rfar)) (fun s hi hr hR => by
    have h1 : D.d (N.beg s) < rfar := by simpa using hR
    have := (hb.closed hv hst hi hr h1).2
    simpa using this) (fun s hi hr hR => by
    have h1 : D.d (N.beg s) < rfar := by simpa using hR
    exact (hb.closed hv hst hi hr h1).1)
  refine ⟨⟨bd_pushes h.bd (by omega) hmr hpw, ⟨q, fits_pushes hq (fun s hsl => ?_)⟩, fun v hvV => ?_⟩, ?_⟩
  · obtain ⟨h1, h2, h3, h4⟩ := hs s hsl
    have h5 := (hb.closed hv hst h1 h2 h4).2
    have e1 := hqd (N.beg s) (by simpa using h4)
    have e2 := hqd (N.fin s) (by simpa using h5)
    unfold Nw.sp
    rw [e1, e2]; omega
  · rw [← pushes_rev, exc_pushes hl.walk, hx', h.exc v hvV]
  · rw [tot_push (a := a) (b := to_) ha hm hm1 (by omega) (fun v _ => hx' v)]; omega
end Go.Proofs.Ythoehobofdeifaa
