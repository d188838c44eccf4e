/-
  WORDS: what stays when one block grows. (Filled in from a template of this repo.)
-/
import Derived.Test.YthoehobofdeifaaFlP
namespace Go.Proofs.Ythoehobofdeifaa
open Go.ChangeShapes Go.WideShapes Go.ChangeAt Go.RowKit
set_option linter.unusedVariables false

theorem grownBy_of_below {w w' : World} (h : Below w.heap.size w w') (r : Option Nat) : w.grownBy w' r := ⟨h.os, h.tape, h.output, h.size, fun k hk _ => h.block k hk⟩
theorem Cod.under {w w' : World} {g : Nat} (h : Cod w g) (hb : Below w.heap.size w w') : Cod w' g := h.below hb h.lt
theorem RA.grown {w w' : World} {g m : Nat} {a : Option Addr} {A : Nat → Ra} (h : RA w a m A) (hg : w.grownBy w' (some g)) (hn : 0 < m → ∀ x, a = some x → x.block ≠ g) : RA w' a m A :=
  h.kp (Kp.of_grown (X := [g]) hg (.inl (by simp))) (fun hm x hx => by have := hn hm x hx; simp; exact this)
theorem Arcs.grown {w w' : World} {g : Nat} {a : Option Addr} {N : Nw} (h : Arcs w a N) (hg : w.grownBy w' (some g)) (hn : 0 < N.m → ∀ x, a = some x → x.block ≠ g) : Arcs w' a N :=
  h.kp (Kp.of_grown (X := [g]) hg (.inl (by simp))) (fun hm x hx => by have := hn hm x hx; simp; exact this)
theorem Rd.grown {w w' : World} {g n : Nat} {a : Option Addr} {f : Nat → Int} (h : Rd w a n f) (hg : w.grownBy w' (some g)) (hn : 0 < n → ∀ x, a = some x → x.block ≠ g) : Rd w' a n f := fun j hj =>
  (Rd.kp (X := [g]) h (Kp.of_grown hg (.inl (by simp))) (fun x hx => by have := hn (by omega) x hx; simp; exact this)) j hj
theorem RA.lts {w : World} {m : Nat} {a : Option Addr} {A : Nat → Ra} (h : RA w a m A) : 0 < m → ∀ x, a = some x → x.block < w.heap.size := fun hm x hx => by
  obtain ⟨b, off, e, hb, _⟩ := h 0 hm
  rw [e] at hx; injection hx with hx; subst hx; exact hb
theorem Arcs.lts {w : World} {a : Option Addr} {N : Nw} (h : Arcs w a N) : 0 < N.m → ∀ x, a = some x → x.block < w.heap.size := fun hm x hx => by
  obtain ⟨b, off, e, hb, _⟩ := h 0 hm
  rw [e] at hx; injection hx with hx; subst hx; exact hb
theorem Rd.lts {w : World} {n : Nat} {a : Option Addr} {f : Nat → Int} (h : Rd w a n f) : 0 < n → ∀ x, a = some x → x.block < w.heap.size := fun hm x hx => by
  obtain ⟨b, off, e, hb, _⟩ := h 0 hm
  rw [e] at hx; injection hx with hx; subst hx; exact hb
theorem Rd.of_ints {w : World} {a : Option Addr} {n c : Nat} {zs : List Int} (h : InInts .i64 w a n c zs) : Rd w a n (fun j => zs.getD j 0) := fun j hj => by
  obtain ⟨_, _, _, h4⟩ := h
  obtain ⟨b, off, e, hb, hc, _⟩ := h4 j hj
  exact ⟨b, off, e, hb, hc⟩
theorem cell_grown {w w' : World} {g b o : Nat} {v : Value} (hg : w.grownBy w' (some g)) (hb : b ≠ g) (h : w.cell? ⟨b, o, none⟩ = some v) : w'.cell? ⟨b, o, none⟩ = some v := by
  have hl := block_lt_of_cell h
  have e := hg.block b hl (fun e => by injection e with e; exact hb e)
  have : w'.cell? ⟨b, o, none⟩ = w.cell? ⟨b, o, none⟩ := by unfold World.cell?; simp only [e]
  rw [this]; exact h
end Go.Proofs.Ythoehobofdeifaa
