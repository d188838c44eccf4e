/-
  PLAIN LAW of around and lessen: a search in breadth over open arcs, and what its pushes leave. No program in sight. (Filled in from a template of this repo.)
-/
import Derived.Test.YthoehobofdeifaaCirD
namespace Go.Proofs.Ythoehobofdeifaa
set_option linter.unusedVariables false

/-- pointers back over lesser ranks make a walk, as walk collects it -/
theorem ptr_pw {N : Nw} (bk : Nat → Sp) (rk : Nat → Nat) (P : Nat → Prop) (a : Nat)
    (hP : ∀ v, P v → v < N.V ∧ (v ≠ a → (bk v).i < N.m ∧ N.fin (bk v) = v ∧ P (N.beg (bk v)) ∧ rk (N.beg (bk v)) < rk v)) :
    ∀ (n v : Nat), rk v ≤ n → P v → ∃ l, Pw N bk a v l ∧ l.length ≤ rk v + 1 ∧ Wk N a l v ∧ l.Pairwise (fun s t => s.i ≠ t.i) ∧ ∀ s ∈ l, ∃ x, P x ∧ x ≠ a ∧ s = bk x ∧ rk x ≤ rk v := by
  intro n
  induction n with
  | zero =>
    intro v hr hv
    by_cases e : v = a
    · subst e; exact ⟨[], .nil, by simp, .nil _, .nil, by simp⟩
    · have := ((hP v hv).2 e).2.2.2; omega
  | succ n ih =>
    intro v hr hv
    by_cases e : v = a
    · subst e; exact ⟨[], .nil, by simp, .nil _, .nil, by simp⟩
    · obtain ⟨hvV, h0⟩ := hP v hv
      obtain ⟨p1, p2, p3, p4⟩ := h0 e
      obtain ⟨l, hl, hlen, hw, hpw, hm⟩ := ih (N.beg (bk v)) (by omega) p3
      have w1 : Wk N (N.beg (bk v)) [bk v] v := by
        have := Wk.cons p1 (.nil (N := N) (N.fin (bk v)))
        rw [p2] at this
        exact this
      refine ⟨l ++ [bk v], .snoc e hvV p1 hl, by simp; omega, walk_append hw w1, ?_, fun s hs => ?_⟩
      · rw [List.pairwise_append]
        refine ⟨hpw, List.pairwise_singleton .., fun s hs t ht heq => ?_⟩
        rw [List.mem_singleton.1 ht] at heq
        obtain ⟨x, g1, g2, g3, g4⟩ := hm s hs
        obtain ⟨_, hfx, _, hltx⟩ := (hP x g1).2 g2
        rw [g3] at heq
        have hc : N.fin (bk x) = N.fin (bk v) ∨ N.beg (bk x) = N.fin (bk v) := by
          unfold Nw.fin Nw.beg
          rw [heq]
          cases (bk x).fw <;> cases (bk v).fw <;> simp
        rcases hc with hc | hc
        · rw [hfx, p2] at hc; rw [hc] at g4; omega
        · rw [p2] at hc; rw [hc] at hltx; omega
      · rw [List.mem_append] at hs
        rcases hs with hs | hs
        · obtain ⟨x, g1, g2, g3, g4⟩ := hm s hs
          exact ⟨x, g1, g2, g3, by omega⟩
        · exact ⟨v, hv, e, List.mem_singleton.1 hs, Nat.le_refl _⟩
/-- a search in breadth: what is seen, how, and what waits -/
structure Bf (N : Nw) (f : Nat → Int) (z : Nat → Bool) (a : Nat) (S : Nat → Bool) (bk : Nat → Sp) (rk : Nat → Nat) (Q : List Nat) : Prop where
  root : S a = true
  lt : ∀ v, S v = true → v < N.V
  que : ∀ v ∈ Q, S v = true
  clo : ∀ v, S v = true → v ∈ Q ∨ ∀ s : Sp, s.i < N.m → N.beg s = v → 0 < N.rz f z s → S (N.fin s) = true
  ptr : ∀ v, S v = true → v ≠ a → (bk v).i < N.m ∧ N.fin (bk v) = v ∧ 0 < N.rz f z (bk v) ∧ S (N.beg (bk v)) = true ∧ rk (N.beg (bk v)) < rk v
  rank : ∀ v, S v = true → rk v < nD S N.V
  len : Q.length ≤ nD S N.V
theorem nD_one (a : Nat) : ∀ n, nD (mark (fun _ => false) a) n = if a < n then 1 else 0 := fun n => by
  rw [nD_mark _ _ rfl, nD_none]; omega
theorem Bf.start {N : Nw} (f : Nat → Int) (z : Nat → Bool) {a : Nat} (ha : a < N.V) (bk : Nat → Sp) : Bf N f z a (mark (fun _ => false) a) bk (fun _ => 0) [a] := by
  have hm : ∀ v, mark (fun _ => false) a v = true → v = a := fun v hv => by
    unfold mark at hv
    by_cases e : v = a
    · exact e
    · rw [if_neg e] at hv; cases hv
  refine ⟨if_pos rfl, fun v hv => ?_, fun v hv => ?_, fun v hv => ?_, fun v hv hne => absurd (hm v hv) hne, fun v hv => ?_, ?_⟩
  · rw [hm v hv]; exact ha
  · rw [List.mem_singleton.1 hv]; exact if_pos rfl
  · rw [hm v hv]; exact .inl (by simp)
  · rw [nD_one, if_pos ha]; omega
  · rw [nD_one, if_pos ha]; simp
theorem Bf.take {N : Nw} (hok : N.ok) {f : Nat → Int} {z : Nat → Bool} {a : Nat} {S : Nat → Bool} {bk : Nat → Sp} {rk : Nat → Nat} {Q : List Nat} (h : Bf N f z a S bk rk Q) {s : Sp} (hi : s.i < N.m) (hb : S (N.beg s) = true) (hn : S (N.fin s) = false) (hr : 0 < N.rz f z s) :
    Bf N f z a (mark S (N.fin s)) (upd bk (N.fin s) s) (upd rk (N.fin s) (nD S N.V)) (Q ++ [N.fin s]) ∧ nD (mark S (N.fin s)) N.V = nD S N.V + 1 := by
  have hf := fin_lt hok hi
  have hcnt : nD (mark S (N.fin s)) N.V = nD S N.V + 1 := by rw [nD_mark S _ hn, if_pos hf]
  have hup : ∀ v, S v = true → mark S (N.fin s) v = true := fun v hv => by unfold mark; split <;> first | rfl | exact hv
  have hne : ∀ v, S v = true → v ≠ N.fin s := fun v hv e => by subst e; rw [hn] at hv; cases hv
  have hsame : ∀ v, mark S (N.fin s) v = true → v = N.fin s ∨ S v = true := fun v hv => by
    by_cases e : v = N.fin s
    · exact .inl e
    · unfold mark at hv; rw [if_neg e] at hv; exact .inr hv
  refine ⟨⟨hup _ h.root, fun v hv => ?_, fun v hv => ?_, fun v hv => ?_, fun v hv hva => ?_, fun v hv => ?_, ?_⟩, hcnt⟩
  · rcases hsame v hv with e | e
    · subst e; exact hf
    · exact h.lt v e
  · rw [List.mem_append] at hv
    rcases hv with hv | hv
    · exact hup _ (h.que v hv)
    · rw [List.mem_singleton.1 hv]; exact if_pos rfl
  · rcases hsame v hv with e | e
    · subst e; exact .inl (by simp)
    · rcases h.clo v e with h1 | h1
      · exact .inl (by simp [h1])
      · exact .inr fun t ht hbt hrt => hup _ (h1 t ht hbt hrt)
  · rcases hsame v hv with e | e
    · subst e
      rw [upd_same, upd_same, upd_other _ _ (hne _ hb)]
      exact ⟨hi, rfl, hr, hup _ hb, h.rank _ hb⟩
    · obtain ⟨p1, p2, p3, p4, p5⟩ := h.ptr v e hva
      rw [upd_other _ _ (hne v e), upd_other _ _ (hne v e), upd_other _ _ (hne _ p4)]
      exact ⟨p1, p2, p3, hup _ p4, p5⟩
  · rw [hcnt]
    rcases hsame v hv with e | e
    · subst e; rw [upd_same]; omega
    · rw [upd_other _ _ (hne v e)]; have := h.rank v e; omega
  · rw [hcnt]; have := h.len; simp; omega
theorem Bf.pop {N : Nw} {f : Nat → Int} {z : Nat → Bool} {a : Nat} {S : Nat → Bool} {bk : Nat → Sp} {rk : Nat → Nat} {u : Nat} {Q : List Nat} (h : Bf N f z a S bk rk (u :: Q)) (hu : ∀ s : Sp, s.i < N.m → N.beg s = u → 0 < N.rz f z s → S (N.fin s) = true) :
    Bf N f z a S bk rk Q := by
  refine ⟨h.root, h.lt, fun v hv => h.que v (by simp [hv]), fun v hv => ?_, h.ptr, h.rank, by have := h.len; simp at this; omega⟩
  by_cases e : v = u
  · subst e; exact .inr hu
  · rcases h.clo v hv with h1 | h1
    · rw [List.mem_cons] at h1
      rcases h1 with h1 | h1
      · exact absurd h1 e
      · exact .inl h1
    · exact .inr h1
/-- the walk that was found -/
theorem Bf.found {N : Nw} (hv : N.valid) {f : Nat → Int} {z : Nat → Bool} {a : Nat} {S : Nat → Bool} {bk : Nat → Sp} {rk : Nat → Nat} {Q : List Nat} (h : Bf N f z a S bk rk Q) {v : Nat} (hS : S v = true) :
    ∃ l, Pw N bk a v l ∧ l.length ≤ 520 ∧ Wk N a l v ∧ l.Pairwise (fun s t => s.i ≠ t.i) ∧ ∀ s ∈ l, s.i < N.m ∧ 0 < N.rz f z s := by
  obtain ⟨l, h1, h2, h3, h4, h5⟩ := ptr_pw (N := N) bk rk (fun v => S v = true) a (fun v hv => ⟨h.lt v hv, fun e => by
    obtain ⟨p1, p2, _, p4, p5⟩ := h.ptr v hv e
    exact ⟨p1, p2, p4, p5⟩⟩) (rk v) v (Nat.le_refl _) hS
  have := h.rank v hS
  have := nD_le S N.V
  have := hv.V2
  refine ⟨l, h1, by omega, h3, h4, fun s hs => ?_⟩
  obtain ⟨x, g1, g2, g3, _⟩ := h5 s hs
  obtain ⟨p1, p2, p3, _⟩ := h.ptr x g1 g2
  rw [g3]
  exact ⟨p1, p3⟩
theorem rz_rm {N : Nw} {f : Nat → Int} {z : Nat → Bool} {s : Sp} (h : 0 < N.rz f z s) : z s.i = false ∧ N.rz f z s = N.rm f s := by
  unfold Nw.rz at h ⊢
  by_cases e : z s.i = true
  · rw [if_pos e] at h; omega
  · exact ⟨by simpa using e, if_neg e⟩
/-- A PUSH AROUND AN ARC: a circulation again -/
theorem lessen_step {N : Nw} {f : Nat → Int} (hf : N.circ f) {i : Nat} (hi : i < N.m) {l : List Sp} (hw : Wk N (N.fr i) l (N.to i)) (hne : ∀ s ∈ l, s.i ≠ i) (hpw : l.Pairwise (fun s t => s.i ≠ t.i)) {m : Int} (hm : 0 ≤ m) (hm1 : m ≤ f i - N.lo i) (hmr : ∀ s ∈ l, m ≤ N.rm f s) :
    N.circ (upd (pushes f l m) i (f i - m)) := by
  have hpi : pushes f l m i = f i := pushes_other f m hne
  have e : upd (pushes f l m) i (f i - m) = bump (pushes f l m) i (-m) := by
    funext j
    unfold bump
    by_cases e : j = i
    · subst e; rw [upd_same, if_pos rfl, hpi]; omega
    · rw [upd_other _ _ e, if_neg (fun h => e h.symm)]
  refine ⟨fun j hj => ?_, fun v hv => ?_⟩
  · by_cases e : j = i
    · subst e; rw [upd_same]; have := hf.1 j hj; omega
    · rw [upd_other _ _ e]; exact bd_pushes hf.1 hm hmr hpw j hj
  · rw [e, exc_bump hi, exc_pushes hw, hf.2 v hv]
    split <;> split <;> omega
/-- what lessen leaves of the flow -/
structure Les (N : Nw) (z : Nat → Bool) (i : Nat) (f g : Nat → Int) : Prop where
  circ : N.circ g
  same : ∀ j, j < N.m → j ≠ i → z j = true → g j = f j
  least : g i = N.lo i ∨ ∃ R : Nat → Bool, R (N.fr i) = true ∧ R (N.to i) = false ∧ ∀ s : Sp, s.i < N.m → s.i ≠ i → z s.i = false → 0 < N.rm g s → R (N.beg s) = true → R (N.fin s) = true
/-- when the arcs below i have been made least -/
structure Lx (N : Nw) (z0 : Nat → Bool) (f0 : Nat → Int) (i : Nat) (f : Nat → Int) : Prop where
  circ : N.circ f
  same : ∀ j, j < N.m → z0 j = true → f j = f0 j
  least : ∀ k, k < i → z0 k = false → f k = N.lo k ∨ ∃ (e : Nat → Int) (R : Nat → Bool), N.circ e ∧ (∀ j, j < N.m → z0 j = true ∨ j ≤ k → e j = f j) ∧ R (N.fr k) = true ∧ R (N.to k) = false ∧
    (∀ j, j < N.m → z0 j = false → k < j → R (N.fr j) = true → R (N.to j) = false → N.up j ≤ e j) ∧ (∀ j, j < N.m → z0 j = false → k < j → R (N.fr j) = false → R (N.to j) = true → e j ≤ N.lo j)
theorem Lx.start {N : Nw} (z0 : Nat → Bool) {f0 : Nat → Int} (h : N.circ f0) : Lx N z0 f0 0 f0 := ⟨h, fun _ _ _ => rfl, fun k hk => absurd hk (by omega)⟩
theorem Lx.skip {N : Nw} {z0 : Nat → Bool} {f0 f : Nat → Int} {i : Nat} (h : Lx N z0 f0 i f) (hz : z0 i = true) : Lx N z0 f0 (i + 1) f :=
  ⟨h.circ, h.same, fun k hk hk0 => h.least k (by
    by_cases e : k = i
    · subst e; rw [hz] at hk0; cases hk0
    · omega) hk0⟩
/-- closed arcs when arc i comes up -/
def zk (z0 : Nat → Bool) (i : Nat) (j : Nat) : Bool := z0 j || decide (j < i)
theorem zk_true (z0 : Nat → Bool) (i j : Nat) : zk z0 i j = true ↔ z0 j = true ∨ j < i := by unfold zk; simp
theorem zk_false (z0 : Nat → Bool) (i j : Nat) : zk z0 i j = false ↔ z0 j = false ∧ i ≤ j := by unfold zk; simp
theorem Lx.step {N : Nw} {z0 : Nat → Bool} {f0 f g : Nat → Int} {i : Nat} (h : Lx N z0 f0 i f) (hi : i < N.m) (hl : Les N (zk z0 i) i f g) (hz : z0 i = false) : Lx N z0 f0 (i + 1) g := by
  refine ⟨hl.circ, fun j hj hzj => ?_, fun k hk hzk => ?_⟩
  · rw [hl.same j hj (fun e => by subst e; rw [hz] at hzj; cases hzj) ((zk_true _ _ _).2 (.inl hzj)), h.same j hj hzj]
  · by_cases e : k = i
    · subst e
      rcases hl.least with h1 | ⟨R, h1, h2, h3⟩
      · exact .inl h1
      · refine .inr ⟨g, R, hl.circ, fun _ _ _ => rfl, h1, h2, fun j hj hzj hkj ha hb => ?_, fun j hj hzj hkj ha hb => ?_⟩
        · by_cases e : N.up j ≤ g j
          · exact e
          · have := h3 ⟨j, true⟩ hj (show j ≠ k by omega) ((zk_false _ _ _).2 ⟨hzj, Nat.le_of_lt hkj⟩) (by unfold Nw.rm; simp; omega) ha
            rw [show N.fin ⟨j, true⟩ = N.to j from rfl, hb] at this; cases this
        · by_cases e : g j ≤ N.lo j
          · exact e
          · have := h3 ⟨j, false⟩ hj (show j ≠ k by omega) ((zk_false _ _ _).2 ⟨hzj, Nat.le_of_lt hkj⟩) (by unfold Nw.rm; simp; omega) hb
            rw [show N.fin ⟨j, false⟩ = N.fr j from rfl, ha] at this; cases this
    · have hs : ∀ j, j < N.m → z0 j = true ∨ j ≤ k → g j = f j := fun j hj hd => hl.same j hj (fun e' => by
        subst e'
        rcases hd with hd | hd
        · rw [hz] at hd; cases hd
        · omega) ((zk_true _ _ _).2 (by
        rcases hd with hd | hd
        · exact .inl hd
        · exact .inr (by omega)))
      rcases h.least k (by omega) hzk with h1 | ⟨e, R, h1, h2, h3⟩
      · exact .inl (by rw [hs k (by omega) (.inr (Nat.le_refl _))]; exact h1)
      · exact .inr ⟨e, R, h1, fun j hj hd => by rw [hs j hj hd]; exact h2 j hj hd, h3⟩
/-- THE END OF SOLVE: the least of the cheapest -/
theorem Lx.best {N : Nw} (hok : N.ok) {p f0 f : Nat → Int} (hp : N.fits p f0) (h0 : N.circ f0) {z0 : Nat → Bool} (hz : ∀ i, i < N.m → (z0 i = true ↔ N.price p i ≠ 0)) (h : Lx N z0 f0 N.m f) : N.best f :=
  best_end hok hp h0 h.circ (fun i hi hne => h.same i hi ((hz i hi).2 hne)) (fun g hg hgf => lex_end hok z0 f (fun i hi hzi => h.least i hi hzi) hg (fun j hj hzj => hgf j hj ((hz j hj).1 hzj)))
/-- what Solve's answer is known by -/
def Nw.cert (N : Nw) (f : Nat → Int) : Prop := ∃ (p f0 : Nat → Int) (z0 : Nat → Bool), N.fits p f0 ∧ N.circ f0 ∧ (∀ i, i < N.m → (z0 i = true ↔ N.price p i ≠ 0)) ∧ Lx N z0 f0 N.m f
theorem cert_best {N : Nw} (hok : N.ok) {f : Nat → Int} (h : N.cert f) : N.best f := by
  obtain ⟨p, f0, z0, h1, h2, h3, h4⟩ := h
  exact h4.best hok h1 h2 h3
end Go.Proofs.Ythoehobofdeifaa
