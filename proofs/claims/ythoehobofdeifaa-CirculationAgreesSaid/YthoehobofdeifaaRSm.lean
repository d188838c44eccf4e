/-
  WALKS of the reference's back, room, push. (Filled in from a template of this repo.)
-/
import Derived.Test.YthoehobofdeifaaRxP
import Derived.Test.YthoehobofdeifaaCirT
import Derived.Test.YthoehobofdeifaaCirI
namespace Go.Proofs.Ythoehobofdeifaa
open Go.ChangeShapes Go.WideShapes Go.ChangeAt Go.RowKit
set_option linter.unusedVariables false

theorem code_true {i : Nat} {x : Int} (h : Sp.code ⟨i, true⟩ = x) : 0 < x ∧ i = x.toNat - 1 := by
  have : (i : Int) + 1 = x := h
  omega
theorem code_false {i : Nat} {x : Int} (h : Sp.code ⟨i, false⟩ = x) : x < 0 ∧ i = (-x).toNat - 1 := by
  have : -(i : Int) - 1 = x := h
  omega
theorem Rback_any (s : Sp) (N : Nw) (hm2 : N.m ≤ 2400) (a : Option Addr) (ca : Nat) (hi : s.i < N.m) (w : World) (h : Arcs w a N) :
    Calls Try.prog 58 #[N.val a ca, .int .i64 s.code] w fun e w' => e = .returned (.int .i64 (N.beg s : Int)) ∧ Below w.heap.size w w' := by
  obtain ⟨b, off, rfl, hb, k0, k1, k2, k3, k4⟩ := h s.i hi
  obtain ⟨i, fw⟩ := s
  simp only at hi k0 k1 k2 k3 k4 ⊢
  clear h k2 k3 k4
  obtain ⟨x, hx⟩ : ∃ x, Sp.code ⟨i, fw⟩ = x := ⟨_, rfl⟩
  rw [hx]
  cases fw
  · have e : N.beg ⟨i, false⟩ = N.to i := rfl
    rw [e]
    obtain ⟨hx0, hxi⟩ := code_false hx
    generalize N.to i = r at *
    clear e hx k0
    have b1 : 0 ≤ -x - 1 := by omega
    have b2 : -x - 1 < (N.m : Int) := by omega
    have b3 : -2401 ≤ x := by omega
    have d0 : decide (0 < x) = false := by rw [decide_eq_false_iff_not]; omega
    subst hxi
    go_enter Try.func58, Try.ntmps58
    go_wp2
    go_ret
    exact ⟨rfl, (Below.refl _ _).alloc (Nat.le_refl _) _⟩
  · have e : N.beg ⟨i, true⟩ = N.fr i := rfl
    rw [e]
    obtain ⟨hx0, hxi⟩ := code_true hx
    generalize N.fr i = r at *
    clear e hx k1
    have b1 : 0 ≤ x - 1 := by omega
    have b2 : x - 1 < (N.m : Int) := by omega
    subst hxi
    go_enter Try.func58, Try.ntmps58
    go_wp2
    go_ret
    exact ⟨rfl, (Below.refl _ _).alloc (Nat.le_refl _) _⟩
/-- a flow that is read -/
theorem Rroom_any (s : Sp) (N : Nw) (hv : N.valid) (a : Option Addr) (ca : Nat) (la : Option Addr) (lc : Nat) (f : Nat → Int) (hbd : N.bd f) (hi : s.i < N.m) (w : World) (h : Arcs w a N) (hf : Rd w la N.m f) :
    Calls Try.prog 57 #[N.val a ca, .slice la N.m lc, .int .i64 s.code] w fun e w' => e = .returned (.int .i64 (N.rm f s)) ∧ Below w.heap.size w w' := by
  have hm2 := hv.m2
  have hlo := hv.lo s.i hi
  have hfb := hbd s.i hi
  obtain ⟨b, off, rfl, hb, k0, k1, k2, k3, k4⟩ := h s.i hi
  obtain ⟨b', off', rfl, hb', p0⟩ := hf s.i hi
  obtain ⟨i, fw⟩ := s
  simp only at hi k0 k1 k2 k3 k4 p0 hlo hfb ⊢
  clear h hf k0 k1 k4 hv hbd
  obtain ⟨x, hx⟩ : ∃ x, Sp.code ⟨i, fw⟩ = x := ⟨_, rfl⟩
  rw [hx]
  obtain ⟨l0, l1, l2⟩ := hlo
  obtain ⟨l3, l4⟩ := hfb
  cases fw
  · have e : N.rm f ⟨i, false⟩ = f i - N.lo i := rfl
    rw [e]
    obtain ⟨hx0, hxi⟩ := code_false hx
    generalize N.lo i = lo at *
    generalize N.up i = up at *
    generalize f i = fi at *
    clear e hx k3
    have b1 : 0 ≤ -x - 1 := by omega
    have b2 : -x - 1 < (N.m : Int) := by omega
    have b3 : -2401 ≤ x := by omega
    have d0 : decide (0 < x) = false := by rw [decide_eq_false_iff_not]; omega
    subst hxi
    go_enter Try.func57, Try.ntmps57
    go_wp2
    go_quiet (fail)
    go_wp2
    go_ret
    exact ⟨rfl, below_drewN ((Below.refl _ _).alloc (Nat.le_refl _) _) _⟩
  · have e : N.rm f ⟨i, true⟩ = N.up i - f i := rfl
    rw [e]
    obtain ⟨hx0, hxi⟩ := code_true hx
    generalize N.lo i = lo at *
    generalize N.up i = up at *
    generalize f i = fi at *
    clear e hx k2
    have b1 : 0 ≤ x - 1 := by omega
    have b2 : x - 1 < (N.m : Int) := by omega
    subst hxi
    go_enter Try.func57, Try.ntmps57
    go_wp2
    go_quiet (fail)
    go_wp2
    go_ret
    exact ⟨rfl, below_drewN ((Below.refl _ _).alloc (Nat.le_refl _) _) _⟩
theorem Rpush_any (s : Sp) (N : Nw) (hm2 : N.m ≤ 2400) (g lc : Nat) (f : Nat → Int) (m : Int) (hm : 0 ≤ m ∧ m ≤ 2638827906662400) (hfb : 0 ≤ f s.i ∧ f s.i ≤ 1099511627776) (hi : s.i < N.m) (w : World) (hf : IRow w g N.m f) :
    Calls Try.prog 59 #[.slice (some ⟨g, 0, none⟩) N.m lc, .int .i64 s.code, .int .i64 m] w fun e w' => e = .returned (.tuple #[]) ∧ IRow w' g N.m (push f s m) ∧ Kp [g] w w' := by
  have p0 := hf.cell s.i hi
  have p1 := hf.frozen s.i
  have p2 := hf.lt
  have HF := Lib.hid hf
  obtain ⟨i, fw⟩ := s
  simp only at hi p0 p1 hfb ⊢
  clear hf
  obtain ⟨x, hx⟩ : ∃ x, Sp.code ⟨i, fw⟩ = x := ⟨_, rfl⟩
  rw [hx]
  obtain ⟨l0, l1⟩ := hm
  obtain ⟨l3, l4⟩ := hfb
  have hpo : ∀ j, j < N.m → j ≠ i → push f ⟨i, fw⟩ m j = f j := fun j _ hj => push_other f ⟨i, fw⟩ m (fun h => hj h.symm)
  have HPO := Lib.hid hpo
  clear hpo
  cases fw
  · have e : push f ⟨i, false⟩ m i = f i - m := by unfold push bump; simp; omega
    obtain ⟨hx0, hxi⟩ := code_false hx
    obtain ⟨fi, hfi⟩ : ∃ fi, f i = fi := ⟨_, rfl⟩
    have HE : Hid (∀ W, W = w.setCell ⟨g, i, none⟩ (.int .i64 (fi - m)) → IRow W g N.m (push f ⟨i, false⟩ m)) := Lib.hid (fun W hW => by subst hW; exact VRow.set HF.out i _ _ (by rw [e, hfi]) (fun j h1 h2 => by rw [HPO.out j h1 h2]))
    rw [hfi] at p0 l3 l4
    clear e hx hfi
    have b1 : 0 ≤ -x - 1 := by omega
    have b2 : -x - 1 < (N.m : Int) := by omega
    have b3 : -2401 ≤ x := by omega
    have d0 : decide (0 < x) = false := by rw [decide_eq_false_iff_not]; omega
    subst hxi
    go_enter Try.func59, Try.ntmps59
    go_wp2
    go_end0
    exact ⟨rfl, HE.out _ rfl, (Kp.refl _ _).setCell _ _ (.inl (by simp))⟩
  · have e : push f ⟨i, true⟩ m i = f i + m := by unfold push bump; simp
    obtain ⟨hx0, hxi⟩ := code_true hx
    obtain ⟨fi, hfi⟩ : ∃ fi, f i = fi := ⟨_, rfl⟩
    have HE : Hid (∀ W, W = w.setCell ⟨g, i, none⟩ (.int .i64 (fi + m)) → IRow W g N.m (push f ⟨i, true⟩ m)) := Lib.hid (fun W hW => by subst hW; exact VRow.set HF.out i _ _ (by rw [e, hfi]) (fun j h1 h2 => by rw [HPO.out j h1 h2]))
    rw [hfi] at p0 l3 l4
    clear e hx hfi
    have b1 : 0 ≤ x - 1 := by omega
    have b2 : x - 1 < (N.m : Int) := by omega
    subst hxi
    go_enter Try.func59, Try.ntmps59
    go_wp2
    go_end0
    exact ⟨rfl, HE.out _ rfl, (Kp.refl _ _).setCell _ _ (.inl (by simp))⟩
end Go.Proofs.Ythoehobofdeifaa
