/-
  PLAIN WORDS for the loop of the law CirculationScales: networks that are changed arc by arc. (Filled in from a template of this repo.)
-/
import Derived.Test.YthoehobofdeifaaScP
namespace Go.Proofs.Ythoehobofdeifaa
open Go.ChangeShapes Go.WideShapes Go.ChangeAt Go.RowKit
set_option linter.unusedVariables false

def sclA (B : Int) (r : Ar) : Ar := ⟨r.f, r.t, r.l * B, r.u * B, r.c⟩
def shfA (q : Nat → Int) (r : Ar) : Ar := ⟨r.f, r.t, r.l, r.u, r.c + q r.f - q r.t⟩
/-- arcs below i are changed -/
def chg (F : Ar → Ar) (A : Nat → Ar) (i : Nat) : Nat → Ar := fun j => if j < i then F (A j) else A j
theorem chg_zero (F : Ar → Ar) (A : Nat → Ar) : chg F A 0 = A := by
  funext j; unfold chg; rw [if_neg (by omega)]
theorem chg_at (F : Ar → Ar) (A : Nat → Ar) (i : Nat) : chg F A i i = A i := by
  unfold chg; rw [if_neg (by omega)]
theorem chg_next (F : Ar → Ar) (A : Nat → Ar) (i : Nat) : chg F A (i + 1) = upd (chg F A i) i (F (A i)) := by
  funext j
  by_cases e : j = i
  · subst e; rw [upd_same]; unfold chg; rw [if_pos (by omega)]
  · rw [upd_other _ _ e]; unfold chg
    by_cases h : j < i
    · rw [if_pos h, if_pos (by omega)]
    · rw [if_neg h, if_neg (by omega)]
theorem chg_all (F : Ar → Ar) (A : Nat → Ar) {n j : Nat} (h : j < n) : chg F A n j = F (A j) := by
  unfold chg; rw [if_pos h]
theorem upd_id (A : Nat → Ar) (i : Nat) {a : Ar} (h : A i = a) : upd A i a = A := by
  funext j
  by_cases e : j = i
  · subst e; rw [upd_same, h]
  · rw [upd_other _ _ e]
theorem ARow.lo {w : World} {g n : Nat} {A : Nat → Ar} {i f t : Nat} {lo up c x : Int} (h : ARow w g n (upd A i ⟨f, t, lo, up, c⟩)) (hi : i < n) : ARow (w.setCell ⟨g, i * 5 + 2, none⟩ (.int .i64 x)) g n (upd A i ⟨f, t, x, up, c⟩) :=
  h.set hi (by omega) _ (by rw [upd_same]; rfl) (fun s hs hne => by
    rw [upd_same, upd_same]; unfold fld
    simp only [if_neg hne]) (fun j hj => by rw [upd_other _ _ hj, upd_other _ _ hj])
theorem ARow.up {w : World} {g n : Nat} {A : Nat → Ar} {i f t : Nat} {lo up c x : Int} (h : ARow w g n (upd A i ⟨f, t, lo, up, c⟩)) (hi : i < n) : ARow (w.setCell ⟨g, i * 5 + 3, none⟩ (.int .i64 x)) g n (upd A i ⟨f, t, lo, x, c⟩) :=
  h.set hi (by omega) _ (by rw [upd_same]; rfl) (fun s hs hne => by
    rw [upd_same, upd_same]; unfold fld
    simp only [if_neg hne]) (fun j hj => by rw [upd_other _ _ hj, upd_other _ _ hj])
theorem ARow.cost {w : World} {g n : Nat} {A : Nat → Ar} {i f t : Nat} {lo up c x : Int} (h : ARow w g n (upd A i ⟨f, t, lo, up, c⟩)) (hi : i < n) : ARow (w.setCell ⟨g, i * 5 + 4, none⟩ (.int .i64 x)) g n (upd A i ⟨f, t, lo, up, x⟩) :=
  h.set hi (by omega) _ (by rw [upd_same]; rfl) (fun s hs hne => by
    rw [upd_same, upd_same]; unfold fld
    have : s = 0 ∨ s = 1 ∨ s = 2 ∨ s = 3 := by omega
    rcases this with rfl | rfl | rfl | rfl <;> rfl) (fun j hj => by rw [upd_other _ _ hj, upd_other _ _ hj])
theorem scl_valid {V : Nat} {l : List Ar} (h : Small V l 5 9 5) {B : Int} (h1 : 1 ≤ B) (h2 : B ≤ 65536) : (nwA V l.length (fun j => sclA B (l.getD j default))).valid := by
  have hr : ∀ i, i < l.length → l.getD i default ∈ l := fun i hi => by simp [List.getD, hi]
  have hV2 := h.V2
  have hm := h.m
  refine ⟨h.V1, show V ≤ 520 by omega, show l.length ≤ 2400 by omega, fun i hi => ?_, fun i hi => ?_, fun i hi => ?_⟩
  · have := h.ok _ (hr i hi); exact ⟨this.1, this.2.1⟩
  · obtain ⟨_, _, a, b, c, _⟩ := h.ok _ (hr i hi)
    have e1 := Int.mul_nonneg a (show 0 ≤ B by omega)
    have e2 := Int.mul_le_mul_of_nonneg_right b (show 0 ≤ B by omega)
    have e3 := Int.mul_le_mul_of_nonneg_right c (show 0 ≤ B by omega)
    refine ⟨e1, e2, ?_⟩
    show (l.getD i default).u * B ≤ _
    omega
  · obtain ⟨_, _, _, _, _, a, b⟩ := h.ok _ (hr i hi)
    exact ⟨by show _ ≤ (l.getD i default).c; omega, by show (l.getD i default).c ≤ _; omega⟩
theorem shf_valid {V : Nat} {l : List Ar} (h : Small V l 5 9 5) {q : Nat → Int} (hq : ∀ v, 0 ≤ q v ∧ q v ≤ 255) : (nwA V l.length (fun j => shfA q (l.getD j default))).valid := by
  have hr : ∀ i, i < l.length → l.getD i default ∈ l := fun i hi => by simp [List.getD, hi]
  have hV2 := h.V2
  have hm := h.m
  refine ⟨h.V1, show V ≤ 520 by omega, show l.length ≤ 2400 by omega, fun i hi => ?_, fun i hi => ?_, fun i hi => ?_⟩
  · have := h.ok _ (hr i hi); exact ⟨this.1, this.2.1⟩
  · obtain ⟨_, _, a, b, c, _⟩ := h.ok _ (hr i hi)
    exact ⟨a, b, by show (l.getD i default).u ≤ _; omega⟩
  · obtain ⟨_, _, _, _, _, a, b⟩ := h.ok _ (hr i hi)
    have q1 := hq (l.getD i default).f
    have q2 := hq (l.getD i default).t
    exact ⟨by show _ ≤ (l.getD i default).c + q (l.getD i default).f - q (l.getD i default).t; omega, by show (l.getD i default).c + q (l.getD i default).f - q (l.getD i default).t ≤ _; omega⟩
theorem scl_is (V n : Nat) (A : Nat → Ar) (B : Int) : nwA V n (fun j => sclA B (A j)) = (nwA V n A).scale B := rfl
theorem shf_is (V n : Nat) (A : Nat → Ar) (q : Nat → Int) : nwA V n (fun j => shfA q (A j)) = (nwA V n A).shift q := rfl
theorem getD_far {l : List Int} {v : Nat} (h : l.length ≤ v) : l.getD v 0 = 0 := by rw [List.getD, List.getElem?_eq_none h]; rfl
/-- the shift that a list of bytes tells -/
def shq (z : List Int) (v : Nat) : Int := z.getD v 0
theorem shq_bd {w : World} {a : Option Addr} {n c : Nat} {z : List Int} (h : InInts .u8 w a n c z) (v : Nat) : 0 ≤ shq z v ∧ shq z v ≤ 255 := by
  unfold shq
  by_cases e : v < n
  · obtain ⟨_, _, _, _, _, hw⟩ := h.2.2.2 v e
    exact bounds_u8 hw
  · rw [getD_far (by rw [h.1]; omega)]; omega
theorem shq_far {w : World} {a : Option Addr} {n c : Nat} {z : List Int} (h : InInts .u8 w a n c z) {v : Nat} (hv : n ≤ v) : shq z v = 0 := getD_far (by rw [h.1]; omega)
theorem ans_bd {N : Nw} {code : Int} {n : Nat} {f : Nat → Int} (hv : N.valid) (h : Ans N code n f) : n ≤ 2400 ∧ ∀ j, j < n → 0 ≤ f j ∧ f j ≤ 1099511627776 := by
  rcases h with ⟨_, rfl, _⟩ | ⟨_, rfl, hc⟩
  · exact ⟨by omega, fun j hj => absurd hj (by omega)⟩
  · refine ⟨hv.m2, fun j hj => ?_⟩
    have h1 := (cert_best hv.ok hc).1.1 j hj
    have h2 := hv.lo j hj
    omega
end Go.Proofs.Ythoehobofdeifaa
