/-
  WHAT THE WALK IS TOLD OF A NETWORK THAT CAME IN by value. (Filled in from a template of this repo.)
-/
import Derived.Test.YthoehobofdeifaaCirA
import Derived.Lib.SmallJoins
namespace Go.Proofs.Ythoehobofdeifaa
open Go.ChangeShapes Go.WideShapes Go.ChangeAt Go.RowKit Go.Deep
set_option linter.unusedVariables false

theorem cArc : Try.prog.cellsOf 46 = 5 := by kernel_rfl
theorem cNet : Try.prog.cellsOf 25 = 2 := by kernel_rfl
theorem cInt : Try.prog.cellsOf 3 = 1 := by kernel_rfl
/-- a row of arcs that came in -/
theorem trod_arcs {H : Type} {enc : TypeId × Value → H} {w : World} {base : Nat} {spare : Nat → Bool} {held : Bool} {c : Value} {y : DataW H × List MemPlace} {n : Nat}
    (hf : DataW.trod enc Try.prog w base spare held n 23 [c] = some y) :
    ∃ (a : Option Addr) (len cap : Nat) (A : Nat → Ra), c = .slice a len cap ∧ RA w a len A := by
  rcases open_slice Try.underlying23 hf with ⟨hcs, _⟩ | ⟨x, l, c', m, n, D, Pl, hcs, hb, hl, hm, hmm, hx, hi⟩
  · simp at hcs
    subst hcs
    exact ⟨none, 0, 0, fun _ => ⟨0, 0, 0, 0, 0⟩, rfl, fun i hi => absurd hi (by omega)⟩
  · simp at hcs
    subst hcs
    have key : ∀ i, i < l → ∃ r : Ra, w.cell? (x.add (i * 5)) = some (.int .i64 r.f) ∧ w.cell? (x.add (i * 5 + 1)) = some (.int .i64 r.t) ∧ w.cell? (x.add (i * 5 + 2)) = some (.int .i64 r.l) ∧ w.cell? (x.add (i * 5 + 3)) = some (.int .i64 r.u) ∧ w.cell? (x.add (i * 5 + 4)) = some (.int .i64 r.c) := by
      intro i hil
      have him : i < m := by rw [hmm]; split <;> omega
      obtain ⟨cs', hc, ht'⟩ := hi i him
      rw [cArc] at hc
      obtain ⟨ys, n', hn', hy, hlen, hyl, hfl⟩ := DataW.trod_struct Try.underlying46 ht'
      obtain ⟨_, hcl, hat⟩ := World.cells?_some hc
      match cs', hcl with
      | [c0, c1, c2, c3, c4], _ =>
        match ys, hyl with
        | [y0, y1, y2, y3, y4], _ =>
          have g0 := hfl 0 _ rfl
          have g1 := hfl 1 _ rfl
          have g2 := hfl 2 _ rfl
          have g3 := hfl 3 _ rfl
          have g4 := hfl 4 _ rfl
          simp [cInt] at g0 g1 g2 g3 g4
          obtain ⟨a0, e0, _, _⟩ := DataW.trod_int Try.underlying3 g0
          obtain ⟨a1, e1, _, _⟩ := DataW.trod_int Try.underlying3 g1
          obtain ⟨a2, e2, _, _⟩ := DataW.trod_int Try.underlying3 g2
          obtain ⟨a3, e3, _, _⟩ := DataW.trod_int Try.underlying3 g3
          obtain ⟨a4, e4, _, _⟩ := DataW.trod_int Try.underlying3 g4
          simp at e0 e1 e2 e3 e4
          subst e0 e1 e2 e3 e4
          have t0 := hat (i := 0) (by omega)
          have t1 := hat (i := 1) (by omega)
          have t2 := hat (i := 2) (by omega)
          have t3 := hat (i := 3) (by omega)
          have t4 := hat (i := 4) (by omega)
          rw [Go.Deep.add_add] at t0 t1 t2 t3 t4
          exact ⟨⟨a0, a1, a2, a3, a4⟩, by simpa using t0, by simpa using t1, by simpa using t2, by simpa using t3, by simpa using t4⟩
    refine ⟨_, _, _, fun i => if h : i < l then Classical.choose (key i h) else ⟨0, 0, 0, 0, 0⟩, rfl, fun i hil => ?_⟩
    have hz0 := (Classical.choose_spec (key 0 (by omega))).1
    have hk := Classical.choose_spec (key i hil)
    simp only [dif_pos hil]
    generalize Classical.choose (key i hil) = r at hk
    obtain ⟨h0, h1, h2, h3, h4⟩ := hk
    obtain ⟨b, off, spot⟩ := x
    have hspot : spot = none := by simpa [Addr.add] using World.cell?_spot hz0
    subst hspot
    have hadd : ∀ q, (⟨b, off, none⟩ : Addr).add q = ⟨b, off + q, none⟩ := by intro q; unfold Addr.add; split <;> simp_all
    rw [hadd] at h0 h1 h2 h3 h4
    exact ⟨b, off, rfl, block_lt_of_cell h0, h0, by simpa [Nat.add_assoc] using h1, by simpa [Nat.add_assoc] using h2, by simpa [Nat.add_assoc] using h3, by simpa [Nat.add_assoc] using h4⟩
/-- a network that came in -/
theorem in_net {H : Type} {enc : TypeId × Value → H} {w : World} {r : Reach} {base b0 : Nat} {spare : Nat → Bool} {held : Bool} {v : Value} {d : DataW H} {p : List MemPlace}
    (hv : Value.okWide Try.prog w r b0 25 v) (h : DataW.Trod enc Try.prog w base spare held 25 v d p) :
    ∃ (R : Rw) (a : Option Addr) (ca : Nat), v = .agg #[.int .i64 R.V, .slice a R.m ca] ∧ RA w a R.m R.A := by
  obtain ⟨c0, c1, y0, y1, m, rfl, _, _, hy0, hy1⟩ := Go.Joins.open_agg2 Try.underlying25 (by kernel_rfl) cNet hv h
  obtain ⟨V, e0, _, _⟩ := DataW.trod_int Try.underlying3 hy0
  simp at e0
  subst e0
  obtain ⟨a, len, cap, A, rfl, hra⟩ := trod_arcs hy1
  exact ⟨⟨V, len, A⟩, a, cap, rfl, hra⟩
end Go.Proofs.Ythoehobofdeifaa
