/-
  PLAIN LAWS: what comes of ParseExpr is one for both; how any two operators group. No walk. (Filled in from a template of this repo.)
-/
import Derived.Test.YtlbjdglgnkajnaaDoorPsE
namespace Go.Proofs.YtlbjdglgnkajnaaDoor
set_option linter.unusedVariables false

/-- the trees of a text, by computing -/
def peT (T : Bt) : Option PR := match (scan T).1 with
  | some ts => Pn 60 .ex ts
  | none => none
def sgB (i : Nat) : Bt := [[124, 124], [38, 38], [60], [60, 61], [61, 61], [33, 61], [43], [45], [42], [47], [37]].getD i []
def lvB (i : Nat) : Int := [0, 1, 2, 2, 2, 2, 3, 3, 4, 4, 4].getD i 0
def txX (i k : Nat) : Bt := [49, 32] ++ sgB i ++ [32, 50, 32] ++ sgB k ++ [32, 51]
def txL (i k : Nat) : Bt := [40, 49, 32] ++ sgB i ++ [32, 50, 41, 32] ++ sgB k ++ [32, 51]
def txR (i k : Nat) : Bt := [49, 32] ++ sgB i ++ [32, 40, 50, 32] ++ sgB k ++ [32, 51, 41]
/-- the tree of a text that is right -/
def okT (T : Bt) : Option Fo := match peT T with
  | some (.ok F r) => if kOf r = 0 then some F else none
  | _ => none
def isOne : Fo → Bool
  | .cons _ _ .nil => true
  | _ => false
/-- the text is no expression -/
def badT (T : Bt) : Bool := match peT T with
  | some (.ok F r) => kOf r != 0
  | some (.bad _) => true
  | none => false
def chk (i k : Nat) : Bool := match okT (txL i k), okT (txR i k) with
  | some L, some R => isOne L && isOne R && !(eqF false L R) && (if lvB i = 2 ∧ lvB k = 2 then badT (txX i k) else match okT (txX i k) with
    | some X => isOne X && eqF false X (if lvB i < lvB k then R else L)
    | none => false)
  | _, _ => false
theorem chk_all : ((List.range 11).all fun i => (List.range 11).all fun k => chk i k) = true := by kernel_rfl
theorem chk_at (i k : Nat) (hi : i < 11) (hk : k < 11) : chk i k = true := by
  have h := chk_all
  rw [List.all_eq_true] at h
  have h1 := h i (by simpa using hi)
  rw [List.all_eq_true] at h1
  exact h1 k (by simpa using hk)
/-- the answer of ParseExpr for a text that is right -/
theorem pe_ok {T : Bt} {w w' : World} {e : Ending} {F : Fo} (h : PEPost T w e w') (hT : T.length ≤ 65536) (hF : okT T = some F) :
    ∃ (h0 : Hd) (ar : Fo) (a : Option Addr) (n c : Nat), e = .returned (.tuple #[exv h0 (.slice a n c), .int .i64 0, .int .i64 0]) ∧ F = one1 h0 ar ∧ ArgsAt w' (fun b => w.heap.size ≤ b) ar (.slice a n c) := by
  have hF2 := hF
  unfold okT at hF
  split at hF
  · rename_i F' r hp
    split at hF
    · rename_i hk
      injection hF with hF
      subst hF
      have hp2 := hp
      unfold peT at hp
      split at hp
      · rename_i ts hts
        rcases h.2 with ⟨h1, _⟩ | ⟨_, h1, _⟩ | ⟨_, ts2, y, h1, h2⟩
        · omega
        · rw [hts] at h1; cases h1
        · rw [hts] at h1
          injection h1 with h1
          subst h1
          have hy := h2.out.1.det ⟨60, hp⟩
          subst hy
          rcases h2.out.2 with ⟨h0, ar, r2, a, n, c, e1, e2, e3, e4⟩ | ⟨r2, e1, e2⟩
          · injection e1 with e1 _
            exact ⟨h0, ar, a, n, c, e4, e1, e3⟩
          · rcases e1 with ⟨F2, e1, e3⟩ | e1
            · injection e1 with _ e1
              subst e1
              exact absurd hk e3
            · cases e1
      · cases hp
    · cases hF
  · cases hF
/-- the answer of ParseExpr for a text that is no expression -/
theorem pe_bad {T : Bt} {w w' : World} {e : Ending} (h : PEPost T w e w') (hT : T.length ≤ 65536) (hF : badT T = true) : ∃ r, e = .returned (.tuple #[exv zhd (.slice none 0 0), .int .i64 (lnOf r), .int .i64 7]) := by
  have key : ∃ ts y, (scan T).1 = some ts ∧ Ps .ex ts y ∧ ((∃ F r, y = .ok F r ∧ kOf r ≠ 0) ∨ ∃ r, y = .bad r) := by
    unfold badT at hF
    split at hF
    · rename_i F r hp
      unfold peT at hp
      split at hp
      · rename_i ts hts
        exact ⟨ts, _, hts, ⟨60, hp⟩, .inl ⟨F, r, rfl, by simpa using hF⟩⟩
      · cases hp
    · rename_i r hp
      unfold peT at hp
      split at hp
      · rename_i ts hts
        exact ⟨ts, _, hts, ⟨60, hp⟩, .inr ⟨r, rfl⟩⟩
      · cases hp
    · cases hF
  obtain ⟨ts, y, hts, hps, hy⟩ := key
  rcases h.2 with ⟨h1, _⟩ | ⟨_, h1, _⟩ | ⟨_, ts2, y2, h1, h2⟩
  · omega
  · rw [hts] at h1; cases h1
  · rw [hts] at h1
    injection h1 with h1
    subst h1
    have hy2 := h2.out.1.det hps
    subst hy2
    rcases h2.out.2 with ⟨h0, ar, r2, a, n, c, e1, e2, e3, e4⟩ | ⟨r2, e1, e2⟩
    · rcases hy with ⟨F, r, e5, e6⟩ | ⟨r, e5⟩
      · rw [e1] at e5
        injection e5 with _ e5
        rw [← e5] at e6
        exact absurd e2 e6
      · rw [e1] at e5; cases e5
    · exact ⟨r2, e2⟩
/-- two answers for one text are one -/
theorem pe_same {T : Bt} {w1 w1' w2 w2' : World} {e1 e2 : Ending} (h : PEPost T w1 e1 w1') (k : PEPost T w2 e2 w2') :
    ∃ (h1 h2 : Hd) (F1 F2 : Fo) (a1 a2 : Option Addr) (n1 c1 n2 c2 : Nat) (ln er : Int), e1 = .returned (.tuple #[exv h1 (.slice a1 n1 c1), .int .i64 ln, .int .i64 er]) ∧ e2 = .returned (.tuple #[exv h2 (.slice a2 n2 c2), .int .i64 ln, .int .i64 er]) ∧
      ArgsAt w1' (fun _ => True) F1 (.slice a1 n1 c1) ∧ ArgsAt w2' (fun _ => True) F2 (.slice a2 n2 c2) ∧ eqF true (one1 h1 F1) (one1 h2 F2) = true := by
  rcases h.2 with ⟨a1, a2⟩ | ⟨a1, a2, a3⟩ | ⟨a1, ts, y, a2, a3⟩
  · rcases k.2 with ⟨b1, b2⟩ | ⟨b1, b2, b3⟩ | ⟨b1, ts2, y2, b2, b3⟩
    · exact ⟨zhd, zhd, .nil, .nil, none, none, 0, 0, 0, 0, _, _, a2, b2, ArgsAt.nil _ _, ArgsAt.nil _ _, rfl⟩
    · omega
    · omega
  · rcases k.2 with ⟨b1, b2⟩ | ⟨b1, b2, b3⟩ | ⟨b1, ts2, y2, b2, b3⟩
    · omega
    · exact ⟨zhd, zhd, .nil, .nil, none, none, 0, 0, 0, 0, _, _, a3, b3, ArgsAt.nil _ _, ArgsAt.nil _ _, rfl⟩
    · rw [a2] at b2; cases b2
  · rcases k.2 with ⟨b1, b2⟩ | ⟨b1, b2, b3⟩ | ⟨b1, ts2, y2, b2, b3⟩
    · omega
    · rw [a2] at b2; cases b2
    · rw [a2] at b2
      injection b2 with b2
      subst b2
      have hy := a3.out.1.det b3.out.1
      subst hy
      rcases a3.out.2 with ⟨h0, ar, r, a, n, c, p1, p2, p3, p4⟩ | ⟨r, p1, p2⟩
      · rcases b3.out.2 with ⟨h0', ar', r', a', n', c', q1, q2, q3, q4⟩ | ⟨r', q1, q2⟩
        · rw [p1] at q1
          injection q1 with q1 _
          exact ⟨h0, h0', ar, ar', a, a', n, c, n', c', 0, 0, p4, q4, args_mono p3 (fun _ _ _ => trivial), args_mono q3 (fun _ _ _ => trivial), by rw [q1]; exact eqF_refl _ _⟩
        · rcases q1 with ⟨F, q1, q3⟩ | q1
          · rw [p1] at q1
            injection q1 with _ q1
            rw [q1] at p2
            exact absurd p2 q3
          · rw [p1] at q1; cases q1
      · rcases b3.out.2 with ⟨h0', ar', r', a', n', c', q1, q2, q3, q4⟩ | ⟨r', q1, q2⟩
        · rcases p1 with ⟨F, p1, p3⟩ | p1
          · rw [q1] at p1
            injection p1 with _ p1
            rw [p1] at q2
            exact absurd q2 p3
          · rw [q1] at p1; cases p1
        · have er : lnOf r = lnOf r' := by
            rcases p1 with ⟨F, p1, _⟩ | p1 <;> rcases q1 with ⟨F', q1, _⟩ | q1 <;> rw [p1] at q1
            · injection q1 with _ q1; rw [q1]
            · cases q1
            · cases q1
            · injection q1 with q1; rw [q1]
          exact ⟨zhd, zhd, .nil, .nil, none, none, 0, 0, 0, 0, _, _, p2, by rw [er]; exact q2, ArgsAt.nil _ _, ArgsAt.nil _ _, rfl⟩
end Go.Proofs.YtlbjdglgnkajnaaDoor
