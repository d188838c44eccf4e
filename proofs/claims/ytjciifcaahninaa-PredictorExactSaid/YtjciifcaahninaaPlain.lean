/-
  PLAIN: tables of counters, and what a trace does to them. No program in sight.
-/
import Derived.Test.YtjciifcaahninaaWords
import Derived.Laws.CopyOwn
import Derived.Laws.OwnMore
namespace Go.Proofs.Ytjciifcaahninaa
open Go.ChangeShapes Go.WideShapes Go.ChangeAt Go.RowKit

/-- a counter after a branch -/
def aft (n : Int) (tk : Bool) : Int := if tk then min (n + 1) 3 else max (n - 1) 0
abbrev Fet := Int × Int × Int
def br (f : Fet) : Bool := f.2.2 == 1 || f.2.2 == 2
def tkn (f : Fet) : Bool := f.2.2 == 1
/-- the place of an address in a table -/
def at_ (t : List Int) (a : Int) : Nat := (a % (t.length : Int)).toNat
def prd (t : List Int) (a : Int) : Bool := decide (2 ≤ t.getD (at_ t a) 0)
def upd (t : List Int) (a : Int) (tk : Bool) : List Int := t.set (at_ t a) (aft (t.getD (at_ t a) 0) tk)
def stp (s : List Int × List Bool) (f : Fet) : List Int × List Bool :=
  if 0 < s.1.length ∧ br f = true then (upd s.1 f.1 (tkn f), s.2 ++ [prd s.1 f.1 != tkn f]) else (s.1, s.2 ++ [false])
def run (t : List Int) (l : List Fet) : List Int × List Bool := l.foldl stp (t, [])
def newT (n : Int) : List Int := if 1 ≤ n ∧ n ≤ 4096 then List.replicate n.toNat 1 else []
/-- a table whose counters are from 0 to 3 -/
def Tab (t : List Int) : Prop := ∀ x ∈ t, 0 ≤ x ∧ x ≤ 3
theorem Tab.get {t : List Int} (h : Tab t) (i : Nat) : 0 ≤ t.getD i 0 ∧ t.getD i 0 ≤ 3 := by
  by_cases hi : i < t.length
  · have := h (t.getD i 0) (by simp [List.getD, hi])
    exact this
  · simp [List.getD, hi]
theorem aft_bd {n : Int} (h0 : 0 ≤ n) (h1 : n ≤ 3) (tk : Bool) : 0 ≤ aft n tk ∧ aft n tk ≤ 3 := by
  unfold aft; cases tk <;> simp <;> omega
theorem upd_len (t : List Int) (a : Int) (tk : Bool) : (upd t a tk).length = t.length := by simp [upd]
theorem Tab.upd {t : List Int} (h : Tab t) (a : Int) (tk : Bool) : Tab (upd t a tk) := by
  intro x hx
  unfold Ytjciifcaahninaa.upd at hx
  rcases List.mem_or_eq_of_mem_set hx with h1 | h1
  · exact h x h1
  · rw [h1]; exact aft_bd (h.get _).1 (h.get _).2 tk
theorem newT_len (n : Int) : (newT n).length = if 1 ≤ n ∧ n ≤ 4096 then n.toNat else 0 := by unfold newT; split <;> simp
theorem newT_tab (n : Int) : Tab (newT n) := by
  unfold newT; split
  · intro x hx; rw [List.mem_replicate] at hx; omega
  · intro x hx; cases hx
theorem at_lt {t : List Int} {a : Int} (h : 0 < t.length) : at_ t a < t.length := by
  have h1 := Int.emod_nonneg a (b := (t.length : Int)) (by omega)
  have h2 := Int.emod_lt_of_pos a (b := (t.length : Int)) (by omega)
  unfold at_; omega
theorem stp_len (s : List Int × List Bool) (f : Fet) : (stp s f).1.length = s.1.length ∧ (stp s f).2.length = s.2.length + 1 := by
  unfold stp; split <;> simp [upd]
theorem stp_tab {s : List Int × List Bool} (h : Tab s.1) (f : Fet) : Tab (stp s f).1 := by
  unfold stp; split
  · exact h.upd _ _
  · exact h
theorem run_len (t : List Int) (l : List Fet) : (run t l).1.length = t.length ∧ (run t l).2.length = l.length := by
  unfold run
  suffices h : ∀ s, (l.foldl stp s).1.length = s.1.length ∧ (l.foldl stp s).2.length = s.2.length + l.length by simpa using h (t, [])
  induction l with
  | nil => intro s; simp
  | cons f l ih => intro s; have h1 := stp_len s f; have h2 := ih (stp s f); simp only [List.foldl_cons, List.length_cons]; omega
theorem run_tab {t : List Int} (h : Tab t) (l : List Fet) : Tab (run t l).1 := by
  unfold run
  suffices g : ∀ s : List Int × List Bool, Tab s.1 → Tab (l.foldl stp s).1 from g _ h
  induction l with
  | nil => intro s hs; exact hs
  | cons f l ih => intro s hs; exact ih _ (stp_tab hs f)
theorem run_snoc (t : List Int) (l : List Fet) (f : Fet) : run t (l ++ [f]) = stp (run t l) f := by simp [run]
theorem take_snoc {α : Type} [Inhabited α] (l : List α) (k : Nat) (d : α) (h : k < l.length) : l.take (k + 1) = l.take k ++ [l.getD k d] := by
  rw [List.take_succ_eq_append_getElem h]; simp [List.getD, h]
theorem run_take (t : List Int) (l : List Fet) (k : Nat) (h : k < l.length) : run t (l.take (k + 1)) = stp (run t (l.take k)) (l.getD k (0, 0, 0)) := by
  rw [take_snoc l k (0, 0, 0) h, run_snoc]
/-- the bools of a trace do not change afterwards -/
theorem run_pre (t : List Int) (l : List Fet) (k : Nat) (h : k ≤ l.length) : (run t (l.take k)).2 = (run t l).2.take k := by
  have g : ∀ (m : List Fet) s, ∃ r, (m.foldl stp s).2 = s.2 ++ r := by
    intro m
    induction m with
    | nil => intro s; exact ⟨[], by simp⟩
    | cons f m ih =>
      intro s
      obtain ⟨r, hr⟩ := ih (stp s f)
      have : ∃ b, (stp s f).2 = s.2 ++ [b] := by unfold stp; split <;> exact ⟨_, rfl⟩
      obtain ⟨b, hb⟩ := this
      exact ⟨b :: r, by rw [List.foldl_cons, hr, hb]; simp⟩
  obtain ⟨r, hr⟩ := g (l.drop k) (run t (l.take k))
  have e : (run t l).2 = (run t (l.take k)).2 ++ r := by
    rw [← hr]; show _ = (List.foldl stp (List.foldl stp (t, []) (l.take k)) (l.drop k)).2
    rw [← List.foldl_append, List.take_append_drop]; rfl
  have hl : (run t (l.take k)).2.length = k := by rw [(run_len _ _).2]; simp; omega
  rw [e]
  exact (List.take_left' hl).symm

/-- the cells of a list of fetches -/
def fcs : List Fet → List Value
  | [] => []
  | f :: l => .int .i64 f.1 :: .int .i64 f.2.1 :: .int .i64 f.2.2 :: fcs l
theorem fcs_len : ∀ zs, (fcs zs).length = zs.length * 3
  | [] => rfl
  | _ :: l => by simp [fcs, fcs_len l]; omega
theorem fcs_append : ∀ xs ys, fcs (xs ++ ys) = fcs xs ++ fcs ys
  | [], _ => rfl
  | f :: l, ys => by simp [fcs, fcs_append l ys]
theorem fcs_get : ∀ (zs : List Fet) (i : Nat), i < zs.length → (fcs zs)[i * 3]? = some (.int .i64 (zs.getD i (0, 0, 0)).1) ∧ (fcs zs)[i * 3 + 1]? = some (.int .i64 (zs.getD i (0, 0, 0)).2.1) ∧ (fcs zs)[i * 3 + 2]? = some (.int .i64 (zs.getD i (0, 0, 0)).2.2)
  | [], i, h => absurd h (by simp)
  | p :: l, 0, _ => ⟨rfl, rfl, rfl⟩
  | p :: l, i + 1, h => by
    have := fcs_get l i (by simpa using h)
    have e : (i + 1) * 3 = i * 3 + 1 + 1 + 1 := by omega
    rw [e]
    simpa [fcs] using this
theorem fcs_ne (zs : List Fet) (j : Nat) (h : j < zs.length) : fcs zs ≠ [] := by
  intro e; have := congrArg List.length e; rw [fcs_len] at this; simp only [List.length_nil] at this; omega
theorem Cells.fet {w : World} {a : Option Addr} {zs : List Fet} (h : Cells w a (fcs zs)) (j : Nat) (hj : j < zs.length) :
    ∃ b off, a = some ⟨b, off, none⟩ ∧ b < w.heap.size ∧ ∀ i, i < zs.length → w.cell? ⟨b, off + i * 3, none⟩ = some (.int .i64 (zs.getD i (0, 0, 0)).1) ∧ w.cell? ⟨b, off + i * 3 + 1, none⟩ = some (.int .i64 (zs.getD i (0, 0, 0)).2.1) ∧
      w.cell? ⟨b, off + i * 3 + 2, none⟩ = some (.int .i64 (zs.getD i (0, 0, 0)).2.2) := by
  obtain ⟨b, off, e, hb, hc⟩ := h (fcs_ne zs j hj)
  exact ⟨b, off, e, hb, fun i hi => ⟨hc _ _ (fcs_get zs i hi).1, hc _ _ (fcs_get zs i hi).2.1, hc _ _ (fcs_get zs i hi).2.2⟩⟩
/-- what a trace holds -/
def FetOk (zs : List Fet) : Prop := ∀ f ∈ zs, 0 ≤ f.1 ∧ f.1 < 80 ∧ 0 ≤ f.2.2 ∧ f.2.2 < 6
theorem FetOk.get {zs : List Fet} (h : FetOk zs) (i : Nat) : 0 ≤ (zs.getD i (0, 0, 0)).1 ∧ (zs.getD i (0, 0, 0)).1 < 80 ∧ 0 ≤ (zs.getD i (0, 0, 0)).2.2 ∧ (zs.getD i (0, 0, 0)).2.2 < 6 := by
  by_cases hi : i < zs.length
  · have := h (zs.getD i (0, 0, 0)) (by simp [List.getD, hi])
    exact this
  · simp [List.getD, hi]
/-- a full row of the call's own: its block -/
theorem full_block {w : World} {base n e g : Nat} {xs : List Value} (h : w.ownsRow base e 1 (.slice (some ⟨g, 0, none⟩) n n) n xs) : w.heap[g]? = some (.cells xs.toArray e (0, 0)) := by
  rcases h.2 with ⟨h1, _⟩ | ⟨g', cap, cur, h1, hb, hg, hc, hm, hz, ht⟩
  · injection h1 with h1 _ _; cases h1
  · injection h1 with h1 _ h3
    injection h1 with h1
    injection h1 with h1 _ _
    subst h1 h3
    rw [List.take_of_length_le (by rw [Array.length_toList, hz]; exact Nat.le_refl _)] at ht
    rw [hg, ← ht, Array.toArray_toList]
theorem own_of_block {w : World} {base n e g cap : Nat} {xs : List Value} (hg : w.heap[g]? = some (.cells xs.toArray e (0, 0))) (hl : xs.length = n) (hc : cap = n) (hb : base ≤ g) (hm : n ≤ maxLen) : w.ownsRow base e 1 (.slice (some ⟨g, 0, none⟩) n cap) n xs := by
  subst hc
  exact ⟨by omega, .inr ⟨g, cap, xs.toArray, rfl, hb, hg, Nat.le_refl _, hm, by simp [hl], List.take_of_length_le (by simp; omega)⟩⟩
end Go.Proofs.Ytjciifcaahninaa
