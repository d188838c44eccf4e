/-
  PLAIN LAW of the law CirculationLeast: going through all flows in order. No program in sight. (Filled in from a template of this repo.)
-/
import Derived.Test.YthoehobofdeifaaCirL
import Derived.Test.YthoehobofdeifaaCirB
namespace Go.Proofs.Ythoehobofdeifaa
set_option linter.unusedVariables false

/-- flows ahead of those that begin as f does -/
def Ahd (N : Nw) (t : Nat) (f g : Nat → Int) : Prop := N.bd g ∧ ∃ k, k < t ∧ (∀ j, j < k → g j = f j) ∧ g k < f k
/-- and those that begin as f does -/
def Unt (N : Nw) (t : Nat) (f g : Nat → Int) : Prop := Ahd N t f g ∨ (N.bd g ∧ ∀ j, j < t → g j = f j)
/-- the least of the cheapest of S -/
def Bst (N : Nw) (S : (Nat → Int) → Prop) (b : Option (Nat → Int)) (c : Int) : Prop := (b = none ∧ ∀ g, S g → ¬ N.circ g) ∨
  ∃ x, b = some x ∧ S x ∧ N.circ x ∧ c = N.cost x ∧ ∀ g, S g → N.circ g → N.cost x ≤ N.cost g ∧ (N.cost g ≤ N.cost x → lexLe N.m x g)
theorem Bst.congr {N : Nw} {S T : (Nat → Int) → Prop} {b : Option (Nat → Int)} {c : Int} (h : Bst N S b c) (hst : ∀ g, S g ↔ T g) : Bst N T b c := by
  rcases h with ⟨h1, h2⟩ | ⟨x, h1, h2, h3, h4, h5⟩
  · exact .inl ⟨h1, fun g hg => h2 g ((hst g).2 hg)⟩
  · exact .inr ⟨x, h1, (hst x).1 h2, h3, h4, fun g hg => h5 g ((hst g).2 hg)⟩
theorem Ahd.congr {N : Nw} {t : Nat} {f f' g : Nat → Int} (h : ∀ j, j < t → f' j = f j) : Ahd N t f g ↔ Ahd N t f' g := by
  unfold Ahd
  constructor
  · rintro ⟨h1, k, h2, h3, h4⟩
    exact ⟨h1, k, h2, fun j hj => by rw [h j (by omega)]; exact h3 j hj, by rw [h k h2]; exact h4⟩
  · rintro ⟨h1, k, h2, h3, h4⟩
    exact ⟨h1, k, h2, fun j hj => by rw [← h j (by omega)]; exact h3 j hj, by rw [← h k h2]; exact h4⟩
theorem ahd_down {N : Nw} {t : Nat} (ht : t < N.m) {f g : Nat → Int} {v : Int} (hv : v = N.lo t) : Ahd N t f g ↔ Ahd N (t + 1) (upd f t v) g := by
  subst hv
  constructor
  · rintro ⟨h1, k, h2, h3, h4⟩
    exact ⟨h1, k, by omega, fun j hj => by rw [upd_other _ _ (by omega)]; exact h3 j hj, by rw [upd_other _ _ (by omega)]; exact h4⟩
  · rintro ⟨h1, k, h2, h3, h4⟩
    by_cases e : k = t
    · subst e; rw [upd_same] at h4; have := (h1 k ht).1; omega
    · exact ⟨h1, k, by omega, fun j hj => by rw [h3 j hj, upd_other _ _ (by omega)], by rw [upd_other _ _ e] at h4; exact h4⟩
theorem unt_next {N : Nw} {t : Nat} {f g : Nat → Int} {v : Int} : Unt N (t + 1) (upd f t v) g ↔ Ahd N (t + 1) (upd f t (v + 1)) g := by
  constructor
  · rintro (⟨h1, k, h2, h3, h4⟩ | ⟨h1, h2⟩)
    · refine ⟨h1, k, h2, fun j hj => ?_, ?_⟩
      · rw [h3 j hj, upd_other _ _ (by omega), upd_other _ _ (by omega)]
      · by_cases e : k = t
        · subst e; rw [upd_same] at h4 ⊢; omega
        · rw [upd_other _ _ e] at h4 ⊢; exact h4
    · refine ⟨h1, t, by omega, fun j hj => ?_, ?_⟩
      · rw [h2 j (by omega), upd_other _ _ (by omega), upd_other _ _ (by omega)]
      · rw [h2 t (by omega), upd_same, upd_same]; omega
  · rintro ⟨h1, k, h2, h3, h4⟩
    by_cases e : k = t
    · subst e
      rw [upd_same] at h4
      by_cases e2 : g k = v
      · refine .inr ⟨h1, fun j hj => ?_⟩
        by_cases e3 : j = k
        · subst e3; rw [upd_same]; exact e2
        · rw [h3 j (by omega), upd_other _ _ e3, upd_other _ _ e3]
      · refine .inl ⟨h1, k, h2, fun j hj => ?_, ?_⟩
        · rw [h3 j hj, upd_other _ _ (by omega), upd_other _ _ (by omega)]
        · rw [upd_same]; omega
    · refine .inl ⟨h1, k, h2, fun j hj => ?_, ?_⟩
      · rw [h3 j hj, upd_other _ _ (by omega), upd_other _ _ (by omega)]
      · rw [upd_other _ _ e] at h4 ⊢; exact h4
theorem unt_end {N : Nw} {t : Nat} (ht : t < N.m) {f g : Nat → Int} {v : Int} (hv : v = N.up t + 1) : Ahd N (t + 1) (upd f t v) g ↔ Unt N t f g := by
  subst hv
  constructor
  · rintro ⟨h1, k, h2, h3, h4⟩
    by_cases e : k = t
    · subst e
      exact .inr ⟨h1, fun j hj => by rw [h3 j hj, upd_other _ _ (by omega)]⟩
    · refine .inl ⟨h1, k, by omega, fun j hj => ?_, ?_⟩
      · rw [h3 j hj, upd_other _ _ (by omega)]
      · rw [upd_other _ _ e] at h4; exact h4
  · rintro (⟨h1, k, h2, h3, h4⟩ | ⟨h1, h2⟩)
    · refine ⟨h1, k, by omega, fun j hj => ?_, ?_⟩
      · rw [h3 j hj, upd_other _ _ (by omega)]
      · rw [upd_other _ _ (by omega)]; exact h4
    · refine ⟨h1, t, by omega, fun j hj => ?_, ?_⟩
      · rw [h2 j hj, upd_other _ _ (by omega)]
      · rw [upd_same]; have := (h1 t ht).2; omega
theorem exc_same {N : Nw} {f g : Nat → Int} (h : ∀ j, j < N.m → g j = f j) (v : Nat) : N.exc g v = N.exc f v := by
  unfold Nw.exc
  exact sm_congr fun i hi => by rw [h i hi]
theorem circ_same {N : Nw} {f g : Nat → Int} (h : ∀ j, j < N.m → g j = f j) (hg : N.circ g) : N.circ f :=
  ⟨fun i hi => by rw [← h i hi]; exact hg.1 i hi, fun v hv => by rw [← exc_same h]; exact hg.2 v hv⟩
theorem cost_same {N : Nw} {f g : Nat → Int} (h : ∀ j, j < N.m → g j = f j) : N.cost g = N.cost f := by
  unfold Nw.cost
  exact sm_congr fun i hi => by rw [h i hi]
theorem Bst.leaf_no {N : Nw} {f : Nat → Int} {b : Option (Nat → Int)} {c : Int} (h : Bst N (Ahd N N.m f) b c) (hf : ¬ N.circ f) : Bst N (Unt N N.m f) b c := by
  rcases h with ⟨h1, h2⟩ | ⟨x, h1, h2, h3, h4, h5⟩
  · refine .inl ⟨h1, fun g hg hc => ?_⟩
    rcases hg with hg | ⟨_, hg⟩
    · exact h2 g hg hc
    · exact hf (circ_same hg hc)
  · refine .inr ⟨x, h1, .inl h2, h3, h4, fun g hg hc => ?_⟩
    rcases hg with hg | ⟨_, hg⟩
    · exact h5 g hg hc
    · exact absurd (circ_same hg hc) hf
theorem Bst.leaf_new {N : Nw} {f : Nat → Int} {b : Option (Nat → Int)} {c x : Int} (h : Bst N (Ahd N N.m f) b c) (hf : N.circ f) (hx : x = N.cost f) (hb : b = none ∨ x < c) : Bst N (Unt N N.m f) (some f) x := by
  refine .inr ⟨f, rfl, .inr ⟨hf.1, fun _ _ => rfl⟩, hf, hx, fun g hg hc => ?_⟩
  rcases hg with hg | ⟨_, hg⟩
  · rcases h with ⟨h1, h2⟩ | ⟨y, h1, h2, h3, h4, h5⟩
    · exact absurd hc (h2 g hg)
    · have := (h5 g hg hc).1
      rcases hb with hb | hb
      · rw [hb] at h1; cases h1
      · exact ⟨by omega, fun h => by omega⟩
  · rw [cost_same hg]
    exact ⟨Int.le_refl _, fun _ i hi _ => by rw [hg i hi]; exact Int.le_refl _⟩
theorem Bst.leaf_keep {N : Nw} {f y : Nat → Int} {c x : Int} (h : Bst N (Ahd N N.m f) (some y) c) (hx : x = N.cost f) (hb : c ≤ x) : Bst N (Unt N N.m f) (some y) c := by
  rcases h with ⟨h1, _⟩ | ⟨z, h1, h2, h3, h4, h5⟩
  · cases h1
  · injection h1 with h1
    subst h1
    refine .inr ⟨y, rfl, .inl h2, h3, h4, fun g hg hc => ?_⟩
    rcases hg with hg | ⟨_, hg⟩
    · exact h5 g hg hc
    · rw [cost_same hg]
      refine ⟨by omega, fun _ i hi hj => ?_⟩
      obtain ⟨_, k, k1, k2, k3⟩ := h2
      by_cases e : i < k
      · rw [k2 i e, hg i hi]; exact Int.le_refl _
      · by_cases e2 : i = k
        · subst e2; rw [hg i hi]; omega
        · have h6 := hj k (by omega)
          rw [hg k k1] at h6
          omega
theorem Bst.start (N : Nw) (f : Nat → Int) (c : Int) : Bst N (Ahd N 0 f) none c := .inl ⟨rfl, fun g hg => by obtain ⟨_, k, h, _⟩ := hg; omega⟩
/-- all flows have been gone through -/
theorem Bst.all {N : Nw} {f : Nat → Int} {b : Option (Nat → Int)} {c : Int} (h : Bst N (Unt N 0 f) b c) : (b = none ∧ ∀ g, ¬ N.circ g) ∨ ∃ x, b = some x ∧ N.best x ∧ c = N.cost x := by
  have hu : ∀ g, N.circ g → Unt N 0 f g := fun g hg => .inr ⟨hg.1, fun j hj => absurd hj (by omega)⟩
  rcases h with ⟨h1, h2⟩ | ⟨x, h1, h2, h3, h4, h5⟩
  · exact .inl ⟨h1, fun g hg => h2 g (hu g hg) hg⟩
  · exact .inr ⟨x, h1, ⟨h3, fun g hg => h5 g (hu g hg) hg⟩, h4⟩
end Go.Proofs.Ythoehobofdeifaa
