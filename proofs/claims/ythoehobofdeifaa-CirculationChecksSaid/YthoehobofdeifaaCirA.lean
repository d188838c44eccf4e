/-
  WALK of circulation.Valid: which networks are valid. (Filled in from a template of this repo.)
-/
import Derived.Test.YthoehobofdeifaaCirI
namespace Go.Proofs.Ythoehobofdeifaa
open Go.ChangeShapes Go.WideShapes Go.ChangeAt Go.RowKit
set_option linter.unusedVariables false

/-- an arc of any numbers -/
structure Ra where
  f : Int
  t : Int
  l : Int
  u : Int
  c : Int
instance : Inhabited Ra := ⟨⟨0, 0, 0, 0, 0⟩⟩
abbrev Ra.val (r : Ra) : Value := .agg #[.int .i64 r.f, .int .i64 r.t, .int .i64 r.l, .int .i64 r.u, .int .i64 r.c]
def okV (V x : Int) : Bool := decide (0 ≤ x ∧ x < V)
theorem okV_eq (V x : Int) : okV V x = decide (0 ≤ x ∧ x < V) := rfl
/-- an arc that no valid network has -/
def badA (V : Int) (r : Ra) : Bool := !(decide ((0 ≤ r.f ∧ r.f < V) ∧ (0 ≤ r.t ∧ r.t < V) ∧ 0 ≤ r.l ∧ r.l ≤ r.u ∧ r.u ≤ 1099511627776 ∧ -1000 ≤ r.c ∧ r.c ≤ 1000))
theorem badA_true {V : Int} {r : Ra} (h : ¬ ((0 ≤ r.f ∧ r.f < V) ∧ (0 ≤ r.t ∧ r.t < V) ∧ 0 ≤ r.l ∧ r.l ≤ r.u ∧ r.u ≤ 1099511627776 ∧ -1000 ≤ r.c ∧ r.c ≤ 1000)) : badA V r = true := by
  unfold badA; rw [decide_eq_false h]; rfl
theorem badA_false {V : Int} {r : Ra} : badA V r = false ↔ ((0 ≤ r.f ∧ r.f < V) ∧ (0 ≤ r.t ∧ r.t < V) ∧ 0 ≤ r.l ∧ r.l ≤ r.u ∧ r.u ≤ 1099511627776 ∧ -1000 ≤ r.c ∧ r.c ≤ 1000) := by
  unfold badA; simp
/-- a slice of m arcs of any numbers -/
def RA (w : World) (a : Option Addr) (m : Nat) (A : Nat → Ra) : Prop := ∀ i, i < m → ∃ b off, a = some ⟨b, off, none⟩ ∧ b < w.heap.size ∧
  w.cell? ⟨b, off + i * 5, none⟩ = some (.int .i64 (A i).f) ∧ w.cell? ⟨b, off + i * 5 + 1, none⟩ = some (.int .i64 (A i).t) ∧
  w.cell? ⟨b, off + i * 5 + 2, none⟩ = some (.int .i64 (A i).l) ∧ w.cell? ⟨b, off + i * 5 + 3, none⟩ = some (.int .i64 (A i).u) ∧ w.cell? ⟨b, off + i * 5 + 4, none⟩ = some (.int .i64 (A i).c)
theorem RA.kp {w w' : World} {a : Option Addr} {m : Nat} {A : Nat → Ra} (h : RA w a m A) {X : List Nat} (hk : Kp X w w') (hn : 0 < m → ∀ x, a = some x → x.block ∉ X) : RA w' a m A := fun i hi => by
  obtain ⟨b, off, e, hb, h1, h2, h3, h4, h5⟩ := h i hi
  have := hn (by omega) _ e
  exact ⟨b, off, e, by have := hk.size; omega, hk.cell h1 this, hk.cell h2 this, hk.cell h3 this, hk.cell h4 this, hk.cell h5 this⟩
theorem RA.below {w w' : World} {a : Option Addr} {m : Nat} {A : Nat → Ra} (h : RA w a m A) (hb : Below w.heap.size w w') : RA w' a m A := h.kp (Kp.of_below (X := []) hb) (by simp)
/-- a network of any numbers -/
structure Rw where
  V : Int
  m : Nat
  A : Nat → Ra
def Rw.good (R : Rw) : Prop := (1 ≤ R.V ∧ R.V ≤ 520 ∧ R.m ≤ 2400) ∧ ∀ i, i < R.m → badA R.V (R.A i) = false
/-- the network that it is -/
def Rw.nw (R : Rw) : Nw := ⟨R.V.toNat, R.m, fun i => (R.A i).f.toNat, fun i => (R.A i).t.toNat, fun i => (R.A i).l, fun i => (R.A i).u, fun i => (R.A i).c⟩
theorem Rw.valid {R : Rw} (h : R.good) : R.nw.valid := by
  obtain ⟨⟨h1, h2, h3⟩, h4⟩ := h
  refine ⟨show 1 ≤ R.V.toNat by omega, show R.V.toNat ≤ 520 by omega, h3, fun i hi => ?_, fun i hi => ?_, fun i hi => ?_⟩
  · obtain ⟨⟨a, b⟩, ⟨c, d⟩, _⟩ := badA_false.1 (h4 i hi)
    exact ⟨show (R.A i).f.toNat < R.V.toNat by omega, show (R.A i).t.toNat < R.V.toNat by omega⟩
  · obtain ⟨_, _, a, b, c, _⟩ := badA_false.1 (h4 i hi)
    exact ⟨a, b, c⟩
  · obtain ⟨_, _, _, _, _, a, b⟩ := badA_false.1 (h4 i hi)
    exact ⟨a, b⟩
theorem Rw.VI {R : Rw} (h : R.good) : R.V = (R.nw.V : Int) := by
  have := h.1.1
  show R.V = ((R.V.toNat : Nat) : Int)
  omega
theorem RA.arcs {w : World} {a : Option Addr} {R : Rw} (hg : R.good) (h : RA w a R.m R.A) : Arcs w a R.nw := fun i hi => by
  obtain ⟨b, off, e, hb, h1, h2, h3, h4, h5⟩ := h i hi
  obtain ⟨⟨a1, _⟩, ⟨a2, _⟩, _⟩ := badA_false.1 (hg.2 i hi)
  refine ⟨b, off, e, hb, ?_, ?_, h3, h4, h5⟩
  · rw [h1]; show _ = some (Value.int .i64 (((R.A i).f.toNat : Nat) : Int)); congr 2; omega
  · rw [h2]; show _ = some (Value.int .i64 (((R.A i).t.toNat : Nat) : Int)); congr 2; omega
theorem vertex_any (V x : Int) (gn : Nat) (w : World) (h : w.cell? ⟨gn, 0, none⟩ = some (.int .i64 V)) :
    Calls Try.prog 31 #[.int .i64 x, .pointer (some ⟨gn, 0, none⟩)] w fun e w' => e = .returned (.bool (okV V x)) ∧ w = w' := by
  by_cases h0 : 0 ≤ x
  · have e1 : okV V x = decide (x < V) := by unfold okV; simp [h0]
    have E1 := Lib.hid e1
    clear e1
    go_enter Try.func31, Try.ntmps31
    go_wp2
    go_ret
    exact ⟨by rw [E1.out]; rfl, rfl⟩
  · have e1 : okV V x = false := by unfold okV; simp [h0]
    have E1 := Lib.hid e1
    have d1 : decide (0 ≤ x) = false := by simpa using h0
    clear e1
    go_enter Try.func31, Try.ntmps31
    go_wp2
    go_ret
    exact ⟨by rw [E1.out]; rfl, rfl⟩
set_option maxRecDepth 100000 in
set_option maxHeartbeats 4000000 in
theorem test_any (V : Int) (r : Ra) (gn gv : Nat) (w : World) (h0 : w.cell? ⟨gv, 0, none⟩ = some (.func (.func 31) #[] #[.pointer (some ⟨gn, 0, none⟩)])) (h1 : w.cell? ⟨gn, 0, none⟩ = some (.int .i64 V)) :
    Calls Try.prog 33 #[r.val, .pointer (some ⟨gv, 0, none⟩)] w fun e w' => e = .returned (.bool (badA V r)) ∧ Below w.heap.size w w' := by
  have hgv := block_lt_of_cell h0
  have hgn := block_lt_of_cell h1
  have HN : Hid (∀ o, (w.alloc o).cell? ⟨gn, 0, none⟩ = some (.int .i64 V)) := Lib.hid (fun o => (((Below.refl w.heap.size w).alloc (Nat.le_refl _) o).cell (p := ⟨gn, 0, none⟩) hgn).trans h1)
  have HB : Hid (∀ o, Below w.heap.size w (w.alloc o)) := Lib.hid (fun o => (Below.refl _ _).alloc (Nat.le_refl _) o)
  have HBB : Hid (∀ b, badA V r = b → Ending.returned (.bool b) = Ending.returned (.bool (badA V r))) := Lib.hid (fun b e => by rw [e])
  obtain ⟨f0, t0, l0, u0, k0⟩ := r
  by_cases c1 : 0 ≤ f0 ∧ f0 < V
  · have e1 := Lib.hid (show okV V f0 = true by rw [okV_eq, decide_eq_true c1])
    by_cases c2 : 0 ≤ t0 ∧ t0 < V
    · have e2 := Lib.hid (show okV V t0 = true by rw [okV_eq, decide_eq_true c2])
      by_cases c3 : 0 ≤ l0
      · have p3 : decide (l0 < 0) = false := by simp; omega
        by_cases c4 : l0 ≤ u0
        · have p4 : decide (u0 < l0) = false := by simp; omega
          by_cases c5 : u0 ≤ 1099511627776
          · have p5 : decide (1099511627776 < u0) = false := by simp; omega
            by_cases c6 : -1000 ≤ k0
            · have p6 : decide (k0 < -1000) = false := by simp; omega
              by_cases c7 : k0 ≤ 1000
              · have p7 : decide (1000 < k0) = false := by simp; omega
                have HE := Lib.hid (HBB.out false (badA_false.2 (by simp only; omega)))
                clear c1 c2 c3 c4 c5 c6 c7 HBB
                go_enter Try.func33, Try.ntmps33
                go_wp2_with (first | (go_at_call_of 31 f0; refine (vertex_any V f0 gn _ (HN.out _)).mono ?_; rintro e w1 ⟨rfl, rfl⟩; rw [e1.out]) | (go_at_call_of 31 t0; refine (vertex_any V t0 gn _ (HN.out _)).mono ?_; rintro e w1 ⟨rfl, rfl⟩; rw [e2.out]))
                go_ret
                exact ⟨HE.out, HB.out _⟩
              · have d : decide (1000 < k0) = true := by simp; omega
                have HE := Lib.hid (HBB.out true (badA_true (by simp only; omega)))
                clear c1 c2 c3 c4 c5 c6 c7 HBB
                go_enter Try.func33, Try.ntmps33
                go_wp2_with (first | (go_at_call_of 31 f0; refine (vertex_any V f0 gn _ (HN.out _)).mono ?_; rintro e w1 ⟨rfl, rfl⟩; rw [e1.out]) | (go_at_call_of 31 t0; refine (vertex_any V t0 gn _ (HN.out _)).mono ?_; rintro e w1 ⟨rfl, rfl⟩; rw [e2.out]))
                go_ret
                exact ⟨HE.out, HB.out _⟩
            · have d : decide (k0 < -1000) = true := by simp; omega
              have HE := Lib.hid (HBB.out true (badA_true (by simp only; omega)))
              clear c1 c2 c3 c4 c5 c6 HBB
              go_enter Try.func33, Try.ntmps33
              go_wp2_with (first | (go_at_call_of 31 f0; refine (vertex_any V f0 gn _ (HN.out _)).mono ?_; rintro e w1 ⟨rfl, rfl⟩; rw [e1.out]) | (go_at_call_of 31 t0; refine (vertex_any V t0 gn _ (HN.out _)).mono ?_; rintro e w1 ⟨rfl, rfl⟩; rw [e2.out]))
              go_ret
              exact ⟨HE.out, HB.out _⟩
          · have d : decide (1099511627776 < u0) = true := by simp; omega
            have HE := Lib.hid (HBB.out true (badA_true (by simp only; omega)))
            clear c1 c2 c3 c4 c5 HBB
            go_enter Try.func33, Try.ntmps33
            go_wp2_with (first | (go_at_call_of 31 f0; refine (vertex_any V f0 gn _ (HN.out _)).mono ?_; rintro e w1 ⟨rfl, rfl⟩; rw [e1.out]) | (go_at_call_of 31 t0; refine (vertex_any V t0 gn _ (HN.out _)).mono ?_; rintro e w1 ⟨rfl, rfl⟩; rw [e2.out]))
            go_ret
            exact ⟨HE.out, HB.out _⟩
        · have d : decide (u0 < l0) = true := by simp; omega
          have HE := Lib.hid (HBB.out true (badA_true (by simp only; omega)))
          clear c1 c2 c3 c4 HBB
          go_enter Try.func33, Try.ntmps33
          go_wp2_with (first | (go_at_call_of 31 f0; refine (vertex_any V f0 gn _ (HN.out _)).mono ?_; rintro e w1 ⟨rfl, rfl⟩; rw [e1.out]) | (go_at_call_of 31 t0; refine (vertex_any V t0 gn _ (HN.out _)).mono ?_; rintro e w1 ⟨rfl, rfl⟩; rw [e2.out]))
          go_ret
          exact ⟨HE.out, HB.out _⟩
      · have d : decide (l0 < 0) = true := by simp; omega
        have HE := Lib.hid (HBB.out true (badA_true (by simp only; omega)))
        clear c1 c2 c3 HBB
        go_enter Try.func33, Try.ntmps33
        go_wp2_with (first | (go_at_call_of 31 f0; refine (vertex_any V f0 gn _ (HN.out _)).mono ?_; rintro e w1 ⟨rfl, rfl⟩; rw [e1.out]) | (go_at_call_of 31 t0; refine (vertex_any V t0 gn _ (HN.out _)).mono ?_; rintro e w1 ⟨rfl, rfl⟩; rw [e2.out]))
        go_ret
        exact ⟨HE.out, HB.out _⟩
    · have e2 := Lib.hid (show okV V t0 = false by rw [okV_eq, decide_eq_false c2])
      have HE := Lib.hid (HBB.out true (badA_true (by simp only; omega)))
      clear c1 c2 HBB
      go_enter Try.func33, Try.ntmps33
      go_wp2_with (first | (go_at_call_of 31 f0; refine (vertex_any V f0 gn _ (HN.out _)).mono ?_; rintro e w1 ⟨rfl, rfl⟩; rw [e1.out]) | (go_at_call_of 31 t0; refine (vertex_any V t0 gn _ (HN.out _)).mono ?_; rintro e w1 ⟨rfl, rfl⟩; rw [e2.out]))
      go_ret
      exact ⟨HE.out, HB.out _⟩
  · have e1 := Lib.hid (show okV V f0 = false by rw [okV_eq, decide_eq_false c1])
    have HE := Lib.hid (HBB.out true (badA_true (by simp only; omega)))
    clear c1 HBB
    go_enter Try.func33, Try.ntmps33
    go_wp2_with (first | (go_at_call_of 31 f0; refine (vertex_any V f0 gn _ (HN.out _)).mono ?_; rintro e w1 ⟨rfl, rfl⟩; rw [e1.out]))
    go_ret
    exact ⟨HE.out, HB.out _⟩
end Go.Proofs.Ythoehobofdeifaa
