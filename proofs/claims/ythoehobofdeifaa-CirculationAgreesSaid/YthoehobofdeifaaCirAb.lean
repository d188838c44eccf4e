/-
  WALK of circulation.Valid itself, of slices.IndexFunc and slices.ContainsFunc on arcs. (Filled in from a template of this repo.)
-/
import Derived.Test.YthoehobofdeifaaCirA
import Derived.Laws.EntriesVeiled
namespace Go.Proofs.Ythoehobofdeifaa
open Go.ChangeShapes Go.WideShapes Go.ChangeAt Go.RowKit
set_option linter.unusedVariables false

theorem cell_mk (w : World) (cs : Array Value) (t : TypeId) {b o : Nat} {v : Value} (hb : b = w.heap.size) (hv : cs[o]? = some v) : (w.alloc (.cells cs t)).cell? ⟨b, o, none⟩ = some v := by
  subst hb; rw [cell_of_row _ _ o _ _ _ (heap_alloc_new w _)]; exact hv
theorem cell_ml {w : World} (ob : Obj) {b o : Nat} {v : Value} (h : w.cell? ⟨b, o, none⟩ = some v) : (w.alloc ob).cell? ⟨b, o, none⟩ = some v :=
  (((Below.refl w.heap.size w).alloc (Nat.le_refl _) ob).cell (p := ⟨b, o, none⟩) (block_lt_of_cell h)).trans h
set_option maxRecDepth 100000 in
set_option maxHeartbeats 4000000 in
theorem Index_arc (V : Int) (gn gv : Nat) (a : Option Addr) (n cap : Nat) (A : Nat → Ra) (hn : n ≤ 9223372036854775806) (w : World) (h : RA w a n A)
    (h0 : w.cell? ⟨gv, 0, none⟩ = some (.func (.func 31) #[] #[.pointer (some ⟨gn, 0, none⟩)])) (h1 : w.cell? ⟨gn, 0, none⟩ = some (.int .i64 V)) :
    Calls Try.prog 47 #[.slice a n cap, .func (.func 33) #[] #[.pointer (some ⟨gv, 0, none⟩)]] w fun e w' => ((e = .returned (.int .i64 (-1)) ∧ ∀ j, j < n → badA V (A j) = false) ∨ (∃ u, u < n ∧ e = .returned (.int .i64 (u : Int)) ∧ badA V (A u) = true)) ∧ Below w.heap.size w w' := by
  have H := Lib.hid h
  have H0 := Lib.hid h0
  have H1 := Lib.hid h1
  clear h h0 h1
  go_enter Try.func47, Try.ntmps47
  go_wp2_with fail
  go_loopw [8] (fun v8 wr => ∃ k : Nat, k ≤ n ∧ v8 = .int .i64 k ∧ Hid (∀ j, j < k → badA V (A j) = false) ∧ Below w.heap.size w wr) (fun v _ => n - (intOf v).toNat)
  case atStart => exact ⟨0, by omega, rfl, Lib.hid (fun j hj => absurd hj (by omega)), Below.refl _ _⟩
  case round =>
    obtain ⟨k, hk, rfl, HA, hb⟩ := hrel
    by_cases hlt : k < n
    · obtain ⟨b, off, rfl, hbl, q0, q1, q2, q3, q4⟩ := H.out.below hb k hlt
      have HB := Lib.hid hb
      obtain ⟨r, hr⟩ : ∃ r, A k = r := ⟨_, rfl⟩
      rw [hr] at q0 q1 q2 q3 q4
      have HC0 : Hid (∀ W, Below w.heap.size w W → W.cell? ⟨gv, 0, none⟩ = some (.func (.func 31) #[] #[.pointer (some ⟨gn, 0, none⟩)])) := Lib.hid (fun W hW => (hW.cell (p := ⟨gv, 0, none⟩) (block_lt_of_cell H0.out)).trans H0.out)
      have HC1 : Hid (∀ W, Below w.heap.size w W → W.cell? ⟨gn, 0, none⟩ = some (.int .i64 V)) := Lib.hid (fun W hW => (hW.cell (p := ⟨gn, 0, none⟩) (block_lt_of_cell H1.out)).trans H1.out)
      cases hok : badA V r
      · have HT : Hid (∀ j, j < k + 1 → badA V (A j) = false) := Lib.hid (fun j hj => by
          by_cases e : j = k
          · subst e; rw [hr]; exact hok
          · exact HA.out j (by omega))
        have HOK := Lib.hid hok
        clear hok hb hr
        go_wp2_with fail
        refine (test_any V r gn gv _ (HC0.out _ HB.out) (HC1.out _ HB.out)).mono ?_
        rintro e w1 ⟨rfl, hb1⟩
        rw [HOK.out]
        have hb2 := HB.out.trans (hb1.mono HB.out.size)
        clear hb1
        go_wp2_with fail
        exact ⟨⟨k + 1, by omega, by go_num, HT, hb2⟩, by simp [intOf]; omega⟩
      · have HOK := Lib.hid hok
        have HR := Lib.hid hr
        clear hok hb hr
        go_wp2_with fail
        refine (test_any V r gn gv _ (HC0.out _ HB.out) (HC1.out _ HB.out)).mono ?_
        rintro e w1 ⟨rfl, hb1⟩
        rw [HOK.out]
        have hb2 := HB.out.trans (hb1.mono HB.out.size)
        clear hb1
        go_wp2_with fail
        go_ret
        exact ⟨.inr ⟨k, hlt, rfl, by rw [HR.out]; exact HOK.out⟩, hb2⟩
    · obtain rfl : k = n := by omega
      go_wp2_with fail
      go_ret
      exact ⟨.inl ⟨rfl, HA.out⟩, hb⟩
set_option maxRecDepth 100000 in
set_option maxHeartbeats 2000000 in
theorem Contains_arc (V : Int) (gn gv : Nat) (a : Option Addr) (n cap : Nat) (A : Nat → Ra) (hn : n ≤ 9223372036854775806) (z : Bool) (hz : z = true ↔ ∃ j, j < n ∧ badA V (A j) = true) (w : World) (h : RA w a n A)
    (h0 : w.cell? ⟨gv, 0, none⟩ = some (.func (.func 31) #[] #[.pointer (some ⟨gn, 0, none⟩)])) (h1 : w.cell? ⟨gn, 0, none⟩ = some (.int .i64 V)) :
    Calls Try.prog 32 #[.slice a n cap, .func (.func 33) #[] #[.pointer (some ⟨gv, 0, none⟩)]] w fun e w' => e = .returned (.bool z) ∧ Below w.heap.size w w' := by
  have H := Lib.hid h
  have HZ := Lib.hid hz
  have H0 := Lib.hid h0
  have H1 := Lib.hid h1
  clear h hz h0 h1
  go_enter Try.func32, Try.ntmps32
  go_wp2_with fail
  refine (Index_arc V gn gv a n cap A hn _ H.out H0.out H1.out).mono ?_
  rintro e w1 ⟨he, hb⟩
  rcases he with ⟨rfl, h1⟩ | ⟨u, hu, rfl, h1⟩
  · have HE : Hid (z = false) := Lib.hid (by
      cases hzz : z
      · rfl
      · obtain ⟨j, hj, e⟩ := HZ.out.1 hzz
        rw [h1 j hj] at e; cases e)
    clear h1
    go_wp2_with fail
    go_ret
    exact ⟨by rw [HE.out]; rfl, hb⟩
  · have HE : Hid (z = true) := Lib.hid (HZ.out.2 ⟨u, hu, h1⟩)
    clear h1
    go_wp2_with fail
    go_ret
    exact ⟨by rw [HE.out]; simp, hb⟩
/-- is it a valid network? -/
noncomputable def Rw.okB (R : Rw) : Bool := @decide R.good (Classical.propDecidable _)
theorem Rw.okB_iff (R : Rw) : R.okB = true ↔ R.good := by unfold Rw.okB; simp
theorem Rw.okB_false {R : Rw} (h : ¬ R.good) : R.okB = false := by unfold Rw.okB; simp [h]
theorem Rw.okB_true {R : Rw} (h : R.good) : R.okB = true := R.okB_iff.2 h
/-- a network of any numbers, as an argument -/
abbrev Rw.val (R : Rw) (a : Option Addr) (ca : Nat) : Value := .agg #[.int .i64 R.V, .slice a R.m ca]
set_option maxRecDepth 100000 in
set_option maxHeartbeats 4000000 in
theorem Valid_any (R : Rw) (a : Option Addr) (ca : Nat) (hm : R.m ≤ 9223372036854775806) (w : World) (h : RA w a R.m R.A) :
    Calls Try.prog 15 #[R.val a ca] w fun e w' => e = .returned (.bool R.okB) ∧ Below w.heap.size w w' := by
  have H := Lib.hid h
  clear h
  have hmf : ∀ (fn : Fn) (first cap : Array Value) (w : World), (Instr.makeFunc fn first cap).run Try.prog w = .ok (.func fn first cap) w := fun _ _ _ _ => rfl
  have HB0 : Hid (∀ o, Below w.heap.size w (w.alloc o)) := Lib.hid (fun o => (Below.refl _ _).alloc (Nat.le_refl _) o)
  by_cases h1 : R.V < 1
  · have HE := Lib.hid (Rw.okB_false (R := R) (fun g => by have := g.1; omega))
    clear hmf
    go_enter Try.func15, Try.ntmps15
    go_wp2_with fail
    go_ret
    exact ⟨by rw [HE.out]; rfl, HB0.out _⟩
  · have d1 : decide (R.V < 1) = false := by simpa using h1
    by_cases h2 : 520 < R.V
    · have HE := Lib.hid (Rw.okB_false (R := R) (fun g => by have := g.1; omega))
      clear hmf
      go_enter Try.func15, Try.ntmps15
      go_wp2_with fail
      go_ret
      exact ⟨by rw [HE.out]; rfl, HB0.out _⟩
    · have d2 : decide (520 < R.V) = false := by simpa using h2
      by_cases h3 : 2400 < R.m
      · have HE := Lib.hid (Rw.okB_false (R := R) (fun g => by have := g.1; omega))
        clear hmf
        go_enter Try.func15, Try.ntmps15
        go_wp2_with fail
        go_ret
        exact ⟨by rw [HE.out]; rfl, HB0.out _⟩
      · have d3 : decide ((2400 : Int) < (R.m : Int)) = false := by simp; omega
        have HZ : Hid (∀ z : Bool, z = !R.okB → (z = true ↔ ∃ j, j < R.m ∧ badA R.V (R.A j) = true)) := Lib.hid (fun z hz => by
          subst hz
          constructor
          · intro e
            have hng : ¬ R.good := fun g => by rw [R.okB_true g] at e; cases e
            apply Classical.byContradiction
            intro hno
            exact hng ⟨by omega, fun i hi => by
              cases hb : badA R.V (R.A i)
              · rfl
              · exact absurd ⟨i, hi, hb⟩ hno⟩
          · rintro ⟨j, hj, e⟩
            have : R.okB = false := Rw.okB_false (fun g => by rw [g.2 j hj] at e; cases e)
            rw [this]; rfl)
        clear h1 h2 h3
        go_enter Try.func15, Try.ntmps15
        go_wp2_with fail
        have hb2 : Below w.heap.size w ((w.alloc (.cells #[.int .i64 R.V, .slice a R.m ca] 25)).alloc (.cells #[.func (.func 31) #[] #[.pointer (some ⟨w.heap.size, 0, none⟩)]] 62)) := ((Below.refl _ _).alloc (Nat.le_refl _) _).alloc (by simp) _
        have HB2 := Lib.hid hb2
        refine (Contains_arc R.V w.heap.size (w.heap.size + 1) a R.m ca R.A hm _ (HZ.out _ rfl) _ (H.out.below hb2) (cell_mk _ _ _ (by simp) rfl) (cell_ml _ (cell_mk _ _ _ rfl rfl))).mono ?_
        rintro e w2 ⟨rfl, hb3⟩
        have hb4 := HB2.out.trans (hb3.mono HB2.out.size)
        clear hb2 hb3
        go_wp2_with fail
        go_ret
        exact ⟨by simp, hb4⟩
end Go.Proofs.Ythoehobofdeifaa
