/-
  WALKS of slices.Reverse on steps, and of circulation.search's walk.
-/
import Derived.Test.YthoehobofdeifaaCirP
namespace Go.Proofs.Ythoehobofdeifaa
open Go.ChangeShapes Go.WideShapes Go.ChangeAt Go.RowKit
set_option linter.unusedVariables false

/-- n steps at the head of block g -/
def Sts (w : World) (g n : Nat) (s : Nat → Sp) : Prop := ∀ x, x < n → w.cell? ⟨g, x * 2, none⟩ = some (.int .i64 ((s x).i : Int)) ∧ w.cell? ⟨g, x * 2 + 1, none⟩ = some (.bool (!(s x).fw))
/-- after k exchanges -/
def rvk (n : Nat) (s : Nat → Sp) (k x : Nat) : Sp := if x < k ∨ n - k ≤ x then s (n - 1 - x) else s x

theorem set_far {w : World} {g o o' : Nat} {v u : Value} (h : w.cell? ⟨g, o', none⟩ = some u) (hne : o ≠ o') : (w.setCell ⟨g, o, none⟩ v).cell? ⟨g, o', none⟩ = some u :=
  (World.cell?_setCell_other w ⟨g, o, none⟩ ⟨g, o', none⟩ v (fun e => by injection e with _ e _; exact hne e)).trans h
theorem Sts.put {w : World} {g n : Nat} {s : Nat → Sp} (h : Sts w g n s) {x : Nat} (hx : x < n) (t : Sp) :
    Sts ((w.setCell ⟨g, x * 2, none⟩ (.int .i64 (t.i : Int))).setCell ⟨g, x * 2 + 1, none⟩ (.bool (!t.fw))) g n (fun y => if y = x then t else s y) := by
  intro y hy
  obtain ⟨a1, a2⟩ := h y hy
  by_cases e : y = x
  · subst e
    show _ = some (Value.int .i64 (((if y = y then t else s y).i : Nat) : Int)) ∧ _ = some (Value.bool (!(if y = y then t else s y).fw))
    rw [if_pos rfl]
    exact ⟨set_far (World.cell?_setCell_same w _ _ a1) (by omega), World.cell?_setCell_same _ _ _ (set_far a2 (by omega))⟩
  · show _ = some (Value.int .i64 (((if y = x then t else s y).i : Nat) : Int)) ∧ _ = some (Value.bool (!(if y = x then t else s y).fw))
    rw [if_neg e]
    exact ⟨set_far (set_far a1 (by omega)) (by omega), set_far (set_far a2 (by omega)) (by omega)⟩
theorem Sts.congr {w : World} {g n : Nat} {s t : Nat → Sp} (h : Sts w g n s) (he : ∀ x, x < n → s x = t x) : Sts w g n t := fun x hx => by rw [← he x hx]; exact h x hx
theorem grown_set {a w : World} {g : Nat} (h : a.grownBy w (some g)) (o : Nat) (v : Value) : a.grownBy (w.setCell ⟨g, o, none⟩ v) (some g) :=
  grownBy_trans h (grownBy_set w g o v)
theorem grown_drew {a w : World} {g : Nat} (h : a.grownBy w (some g)) : a.grownBy w.drew (some g) := ⟨h.os, h.tape, h.output, h.size, h.block⟩
theorem rvk_zero (n : Nat) (s : Nat → Sp) {x : Nat} (hx : x < n) : rvk n s 0 x = s x := by unfold rvk; rw [if_neg (by omega)]
theorem rvk_end (n : Nat) (s : Nat → Sp) {k x : Nat} (hx : x < n) (hk : n ≤ 2 * k + 1) : rvk n s k x = s (n - 1 - x) := by
  unfold rvk
  split
  · rfl
  · rw [show n - 1 - x = x by omega]
theorem rvk_step (n : Nat) (s : Nat → Sp) {k j x : Nat} (hk : k < j) (hj : j = n - 1 - k) (hx : x < n) :
    (if x = j then rvk n s k k else (if x = k then rvk n s k j else rvk n s k x)) = rvk n s (k + 1) x := by
  subst hj
  unfold rvk
  by_cases e1 : x = n - 1 - k
  · subst e1
    rw [if_pos rfl, if_neg (by omega), if_pos (by omega), show n - 1 - (n - 1 - k) = k by omega]
  · rw [if_neg e1]
    by_cases e2 : x = k
    · subst e2
      rw [if_pos rfl, if_neg (by omega), if_pos (by omega)]
    · rw [if_neg e2]
      by_cases e3 : x < k ∨ n - k ≤ x
      · rw [if_pos e3, if_pos (by omega)]
      · rw [if_neg e3, if_neg (by omega)]
set_option maxRecDepth 100000 in
set_option maxHeartbeats 2000000 in
theorem reverse_any (g n cap : Nat) (s : Nat → Sp) (hn : n ≤ 9223372036854775806) (hnc : n ≤ cap) (w : World) (hg : g < w.heap.size) (hf : ∀ o, w.frozen? ⟨g, o, none⟩ = false) (h : Sts w g n s) :
    Calls Try.prog 61 #[.slice (some ⟨g, 0, none⟩) n cap] w fun e w' => e = .returned (.tuple #[]) ∧ w.grownBy w' (some g) ∧ Sts w' g n (fun x => s (n - 1 - x)) := by
  have H := Lib.hid h
  have HFZ := Lib.hid hf
  clear h hf
  go_enter Try.func61, Try.ntmps61
  go_wp2
  go_loopw [2, 3] (fun v2 v3 wr => ∃ k : Nat, 2 * k ≤ n + 1 ∧ v2 = .int .i64 k ∧ v3 = .int .i64 ((n : Int) - 1 - k) ∧ w.grownBy wr (some g) ∧ Sts wr g n (rvk n s k) ∧ Hid (∀ o, wr.frozen? ⟨g, o, none⟩ = false)) (fun v _ _ => n + 1 - (intOf v).toNat)
  case atStart => exact ⟨0, by omega, rfl, by go_num, grownBy_refl _ _, H.out.congr (fun x hx => (rvk_zero n s hx).symm), HFZ⟩
  case round =>
    obtain ⟨k, hk, rfl, rfl, hgr, hst, hfz⟩ := hrel
    by_cases hlt : 2 * k + 1 < n
    · have hlt' : (k : Int) < (n : Int) - 1 - k := by omega
      obtain ⟨j, hj⟩ : ∃ j : Nat, j = n - 1 - k := ⟨_, rfl⟩
      have hj' : (n : Int) - 1 - k = (j : Int) := by omega
      rw [hj']
      have hjn : j < n := by omega
      have hkj : k < j := by omega
      obtain ⟨a1, a2⟩ := hst k (by omega)
      obtain ⟨b1, b2⟩ := hst j hjn
      have z1 := hfz.out (k * 2)
      have z2 := hfz.out (k * 2 + 1)
      have z3 := hfz.out (j * 2)
      have z4 := hfz.out (j * 2 + 1)
      have hgw : g < wr.heap.size := by have := hgr.size; omega
      have HST := Lib.hid hst
      have HJ := Lib.hid hj
      have HJN := Lib.hid hj'
      clear hst hj hj' hlt'
      have HSK : Hid (∀ sk sj : Sp, sk = rvk n s k k → sj = rvk n s k j → Sts ((((wr.setCell ⟨g, k * 2, none⟩ (.int .i64 (sj.i : Int))).setCell ⟨g, k * 2 + 1, none⟩ (.bool (!sj.fw))).setCell ⟨g, j * 2, none⟩ (.int .i64 (sk.i : Int))).setCell ⟨g, j * 2 + 1, none⟩ (.bool (!sk.fw))) g n (rvk n s (k + 1))) := Lib.hid (fun sk sj h1 h2 => by
        subst h1 h2
        exact ((HST.out.put (show k < n by omega) _).put hjn _).congr (fun x hx => rvk_step n s hkj HJ.out hx))
      have HE1 : Hid (rvk n s k k = rvk n s k k) := Lib.hid rfl
      have HSK2 := Lib.hid (HSK.out _ _ rfl rfl)
      clear HSK HE1
      generalize rvk n s k k = sk at *
      generalize rvk n s k j = sj at *
      go_wp2
      go_region
      all_goals
        go_wp2
        go_roundw
        case rel => exact ⟨k + 1, by omega, by go_num, by have := HJN.out; congr 1; omega, grown_drew (grown_set (grown_set (grown_set (grown_set hgr _ _) _ _) _ _) _ _), HSK2.out, Lib.hid (fun o => by rw [World.frozen?_drew]; simp; exact hfz.out o)⟩
        case measure => simp [intOf]; omega
    · obtain ⟨j, hj⟩ : ∃ j : Int, j = (n : Int) - 1 - k := ⟨_, rfl⟩
      rw [← hj]
      have hge : ¬ (k : Int) < j := by omega
      have hst2 := hst.congr (fun x hx => rvk_end n s hx (by omega : n ≤ 2 * k + 1))
      clear hst hj
      go_wp2
      go_end0
      exact ⟨rfl, hgr, hst2⟩
theorem reverse_nil (w : World) : Calls Try.prog 61 #[.slice none 0 0] w fun e w' => e = .returned (.tuple #[]) ∧ w = w' := by
  go_enter Try.func61, Try.ntmps61
  go_wp2
  go_loopw [2, 3] (fun v2 v3 wr => v2 = .int .i64 0 ∧ v3 = .int .i64 (-1) ∧ w = wr) (fun _ _ _ => 0)
  case atStart => exact ⟨rfl, rfl, rfl⟩
  case round =>
    obtain ⟨rfl, rfl, rfl⟩ := hrel
    go_wp2
    go_end0
    exact ⟨rfl, rfl⟩
end Go.Proofs.Ythoehobofdeifaa
