/-
  WALKS of slices.IndexFunc and slices.ContainsFunc on integers, for any test; and the tests that circulation hands them. (Filled in from a template of this repo.)
-/
import Derived.Test.YthoehobofdeifaaCirV
namespace Go.Proofs.Ythoehobofdeifaa
open Go.ChangeShapes Go.WideShapes Go.ChangeAt Go.RowKit
set_option linter.unusedVariables false

/-- a slice of n integers reads as x -/
def Rd (w : World) (a : Option Addr) (n : Nat) (x : Nat → Int) : Prop := ∀ j, j < n → ∃ b off, a = some ⟨b, off, none⟩ ∧ b < w.heap.size ∧ w.cell? ⟨b, off + j, none⟩ = some (.int .i64 (x j))
theorem Rd.of_row {w : World} {b n : Nat} {x : Nat → Int} (h : IRow w b n x) : Rd w (some ⟨b, 0, none⟩) n x := fun j hj => ⟨b, 0, rfl, h.lt, by rw [Nat.zero_add]; exact h.cell j hj⟩
theorem Rd.kp {w w' : World} {a : Option Addr} {n : Nat} {x : Nat → Int} (h : Rd w a n x) {X : List Nat} (hk : Kp X w w') (hn : ∀ y, a = some y → y.block ∉ X) : Rd w' a n x := fun j hj => by
  obtain ⟨b, off, e, hb, h1⟩ := h j hj
  have := hn _ e
  exact ⟨b, off, e, by have := hk.size; omega, hk.cell h1 this⟩
theorem Rd.below {w w' : World} {a : Option Addr} {n : Nat} {x : Nat → Int} (h : Rd w a n x) (hb : Below w.heap.size w w') : Rd w' a n x := h.kp (Kp.of_below (X := []) hb) (by simp)
/-- the first element that passes the test -/
def IdxPost (q : Int → Bool) (n : Nat) (x : Nat → Int) (e : Ending) : Prop :=
  (e = .returned (.int .i64 (-1)) ∧ ∀ j, j < n → q (x j) = false) ∨ (∃ u, u < n ∧ e = .returned (.int .i64 (u : Int)) ∧ q (x u) = true ∧ ∀ j, j < u → q (x j) = false)
theorem pos_any (x : Int) (w : World) : Calls Try.prog 49 #[.int .i64 x] w fun e w' => e = .returned (.bool (decide (0 < x))) ∧ w = w' := by
  go_enter Try.func49, Try.ntmps49
  go_wp2
  go_ret
  exact ⟨rfl, rfl⟩
theorem nz_any (x : Int) (w : World) : Calls Try.prog 35 #[.int .i64 x] w fun e w' => e = .returned (.bool (x != 0)) ∧ w = w' := by
  go_enter Try.func35, Try.ntmps35
  go_wp2
  go_ret
  exact ⟨rfl, rfl⟩
theorem far_any (x : Int) (w : World) : Calls Try.prog 45 #[.int .i64 x] w fun e w' => e = .returned (.bool (decide (x < -1099511627776) || decide (1099511627776 < x))) ∧ w = w' := by
  by_cases h1 : x < -1099511627776
  · have h2 : (decide (x < -1099511627776) || decide (1099511627776 < x)) = true := by simp [h1]
    have H2 := Lib.hid h2
    clear h2
    go_enter Try.func45, Try.ntmps45
    go_wp2
    go_ret
    exact ⟨by rw [H2.out]; rfl, rfl⟩
  · have h2 : (decide (x < -1099511627776) || decide (1099511627776 < x)) = decide (1099511627776 < x) := by simp [h1]
    have H2 := Lib.hid h2
    have h3 : decide (x < -1099511627776) = false := by simpa using h1
    clear h2
    go_enter Try.func45, Try.ntmps45
    go_wp2
    go_ret
    exact ⟨rfl, rfl⟩
set_option maxRecDepth 100000 in
set_option maxHeartbeats 2000000 in
theorem Index_pos (q : Int → Bool) (hq : q = (fun x => decide (0 < x)))
    (a : Option Addr) (n cap : Nat) (x : Nat → Int) (hn : n ≤ 9223372036854775806) (w : World) (h : Rd w a n x) :
    Calls Try.prog 48 #[.slice a n cap, .func (.func 49) #[] #[]] w fun e w' => IdxPost q n x e ∧ w = w' := by
  have H := Lib.hid h
  have HQ : Hid (∀ (x : Int) (w : World), Calls Try.prog 49 #[.int .i64 x] w fun e w' => e = .returned (.bool (q x)) ∧ w = w') := Lib.hid (by subst hq; exact pos_any)
  clear h hq
  go_enter Try.func48, Try.ntmps48
  go_wp2_with fail
  go_loopw [8] (fun v8 wr => ∃ k : Nat, k ≤ n ∧ v8 = .int .i64 k ∧ Hid (∀ j, j < k → q (x j) = false) ∧ wr = w) (fun v _ => n - (intOf v).toNat)
  case atStart => exact ⟨0, by omega, rfl, Lib.hid (fun j hj => absurd hj (by omega)), rfl⟩
  case round =>
    obtain ⟨k, hk, rfl, HA, rfl⟩ := hrel
    by_cases hlt : k < n
    · obtain ⟨b, off, rfl, hbl, c1⟩ := H.out k hlt
      cases hok : q (x k)
      · have HT : Hid (∀ j, j < k + 1 → q (x j) = false) := Lib.hid (fun j hj => by
          by_cases e : j = k
          · subst e; exact hok
          · exact HA.out j (by omega))
        have HOK := Lib.hid hok
        clear hok
        go_wp2_with (go_at_call 49; refine (HQ.out _ _).mono ?_; rintro e w1 ⟨rfl, rfl⟩; rw [HOK.out])
        exact ⟨⟨k + 1, by omega, by go_num, HT, trivial⟩, by simp [intOf]; omega⟩
      · have HOK := Lib.hid hok
        clear hok
        go_wp2_with (go_at_call 49; refine (HQ.out _ _).mono ?_; rintro e w1 ⟨rfl, rfl⟩; rw [HOK.out])
        go_ret
        exact ⟨.inr ⟨k, hlt, rfl, HOK.out, HA.out⟩, rfl⟩
    · obtain rfl : k = n := by omega
      go_wp2_with fail
      go_ret
      exact ⟨.inl ⟨rfl, HA.out⟩, rfl⟩
set_option maxRecDepth 100000 in
set_option maxHeartbeats 2000000 in
theorem Contains_pos (q : Int → Bool) (hq : q = (fun x => decide (0 < x)))
    (a : Option Addr) (n cap : Nat) (x : Nat → Int) (hn : n ≤ 9223372036854775806) (z : Bool) (hz : z = true ↔ ∃ j, j < n ∧ q (x j) = true) (w : World) (h : Rd w a n x) :
    Calls Try.prog 34 #[.slice a n cap, .func (.func 49) #[] #[]] w fun e w' => e = .returned (.bool z) ∧ w = w' := by
  have H := Lib.hid h
  have HQ := Lib.hid hq
  have HZ := Lib.hid hz
  clear h hq hz
  go_enter Try.func34, Try.ntmps34
  go_wp2_with fail
  refine (Index_pos q HQ.out a n cap x hn _ H.out).mono ?_
  rintro e w1 ⟨he, rfl⟩
  rcases he with ⟨rfl, h1⟩ | ⟨u, hu, rfl, h1, h2⟩
  · have HE : Hid (z = false) := Lib.hid (by
      cases hzz : z
      · rfl
      · obtain ⟨j, hj, e⟩ := HZ.out.1 hzz
        rw [h1 j hj] at e; cases e)
    clear h1
    go_wp2_with fail
    go_ret
    exact ⟨by rw [HE.out]; rfl, rfl⟩
  · have HE : Hid (z = true) := Lib.hid (HZ.out.2 ⟨u, hu, h1⟩)
    clear h1 h2
    go_wp2_with fail
    go_ret
    exact ⟨by rw [HE.out]; simp, rfl⟩
set_option maxRecDepth 100000 in
set_option maxHeartbeats 2000000 in
theorem Index_nz (q : Int → Bool) (hq : q = (fun x => x != 0))
    (a : Option Addr) (n cap : Nat) (x : Nat → Int) (hn : n ≤ 9223372036854775806) (w : World) (h : Rd w a n x) :
    Calls Try.prog 48 #[.slice a n cap, .func (.func 35) #[] #[]] w fun e w' => IdxPost q n x e ∧ w = w' := by
  have H := Lib.hid h
  have HQ : Hid (∀ (x : Int) (w : World), Calls Try.prog 35 #[.int .i64 x] w fun e w' => e = .returned (.bool (q x)) ∧ w = w') := Lib.hid (by subst hq; exact nz_any)
  clear h hq
  go_enter Try.func48, Try.ntmps48
  go_wp2_with fail
  go_loopw [8] (fun v8 wr => ∃ k : Nat, k ≤ n ∧ v8 = .int .i64 k ∧ Hid (∀ j, j < k → q (x j) = false) ∧ wr = w) (fun v _ => n - (intOf v).toNat)
  case atStart => exact ⟨0, by omega, rfl, Lib.hid (fun j hj => absurd hj (by omega)), rfl⟩
  case round =>
    obtain ⟨k, hk, rfl, HA, rfl⟩ := hrel
    by_cases hlt : k < n
    · obtain ⟨b, off, rfl, hbl, c1⟩ := H.out k hlt
      cases hok : q (x k)
      · have HT : Hid (∀ j, j < k + 1 → q (x j) = false) := Lib.hid (fun j hj => by
          by_cases e : j = k
          · subst e; exact hok
          · exact HA.out j (by omega))
        have HOK := Lib.hid hok
        clear hok
        go_wp2_with (go_at_call 35; refine (HQ.out _ _).mono ?_; rintro e w1 ⟨rfl, rfl⟩; rw [HOK.out])
        exact ⟨⟨k + 1, by omega, by go_num, HT, trivial⟩, by simp [intOf]; omega⟩
      · have HOK := Lib.hid hok
        clear hok
        go_wp2_with (go_at_call 35; refine (HQ.out _ _).mono ?_; rintro e w1 ⟨rfl, rfl⟩; rw [HOK.out])
        go_ret
        exact ⟨.inr ⟨k, hlt, rfl, HOK.out, HA.out⟩, rfl⟩
    · obtain rfl : k = n := by omega
      go_wp2_with fail
      go_ret
      exact ⟨.inl ⟨rfl, HA.out⟩, rfl⟩
set_option maxRecDepth 100000 in
set_option maxHeartbeats 2000000 in
theorem Contains_nz (q : Int → Bool) (hq : q = (fun x => x != 0))
    (a : Option Addr) (n cap : Nat) (x : Nat → Int) (hn : n ≤ 9223372036854775806) (z : Bool) (hz : z = true ↔ ∃ j, j < n ∧ q (x j) = true) (w : World) (h : Rd w a n x) :
    Calls Try.prog 34 #[.slice a n cap, .func (.func 35) #[] #[]] w fun e w' => e = .returned (.bool z) ∧ w = w' := by
  have H := Lib.hid h
  have HQ := Lib.hid hq
  have HZ := Lib.hid hz
  clear h hq hz
  go_enter Try.func34, Try.ntmps34
  go_wp2_with fail
  refine (Index_nz q HQ.out a n cap x hn _ H.out).mono ?_
  rintro e w1 ⟨he, rfl⟩
  rcases he with ⟨rfl, h1⟩ | ⟨u, hu, rfl, h1, h2⟩
  · have HE : Hid (z = false) := Lib.hid (by
      cases hzz : z
      · rfl
      · obtain ⟨j, hj, e⟩ := HZ.out.1 hzz
        rw [h1 j hj] at e; cases e)
    clear h1
    go_wp2_with fail
    go_ret
    exact ⟨by rw [HE.out]; rfl, rfl⟩
  · have HE : Hid (z = true) := Lib.hid (HZ.out.2 ⟨u, hu, h1⟩)
    clear h1 h2
    go_wp2_with fail
    go_ret
    exact ⟨by rw [HE.out]; simp, rfl⟩
set_option maxRecDepth 100000 in
set_option maxHeartbeats 2000000 in
theorem Index_far (q : Int → Bool) (hq : q = (fun x => decide (x < -1099511627776) || decide (1099511627776 < x)))
    (a : Option Addr) (n cap : Nat) (x : Nat → Int) (hn : n ≤ 9223372036854775806) (w : World) (h : Rd w a n x) :
    Calls Try.prog 48 #[.slice a n cap, .func (.func 45) #[] #[]] w fun e w' => IdxPost q n x e ∧ w = w' := by
  have H := Lib.hid h
  have HQ : Hid (∀ (x : Int) (w : World), Calls Try.prog 45 #[.int .i64 x] w fun e w' => e = .returned (.bool (q x)) ∧ w = w') := Lib.hid (by subst hq; exact far_any)
  clear h hq
  go_enter Try.func48, Try.ntmps48
  go_wp2_with fail
  go_loopw [8] (fun v8 wr => ∃ k : Nat, k ≤ n ∧ v8 = .int .i64 k ∧ Hid (∀ j, j < k → q (x j) = false) ∧ wr = w) (fun v _ => n - (intOf v).toNat)
  case atStart => exact ⟨0, by omega, rfl, Lib.hid (fun j hj => absurd hj (by omega)), rfl⟩
  case round =>
    obtain ⟨k, hk, rfl, HA, rfl⟩ := hrel
    by_cases hlt : k < n
    · obtain ⟨b, off, rfl, hbl, c1⟩ := H.out k hlt
      cases hok : q (x k)
      · have HT : Hid (∀ j, j < k + 1 → q (x j) = false) := Lib.hid (fun j hj => by
          by_cases e : j = k
          · subst e; exact hok
          · exact HA.out j (by omega))
        have HOK := Lib.hid hok
        clear hok
        go_wp2_with (go_at_call 45; refine (HQ.out _ _).mono ?_; rintro e w1 ⟨rfl, rfl⟩; rw [HOK.out])
        exact ⟨⟨k + 1, by omega, by go_num, HT, trivial⟩, by simp [intOf]; omega⟩
      · have HOK := Lib.hid hok
        clear hok
        go_wp2_with (go_at_call 45; refine (HQ.out _ _).mono ?_; rintro e w1 ⟨rfl, rfl⟩; rw [HOK.out])
        go_ret
        exact ⟨.inr ⟨k, hlt, rfl, HOK.out, HA.out⟩, rfl⟩
    · obtain rfl : k = n := by omega
      go_wp2_with fail
      go_ret
      exact ⟨.inl ⟨rfl, HA.out⟩, rfl⟩
set_option maxRecDepth 100000 in
set_option maxHeartbeats 2000000 in
theorem Contains_far (q : Int → Bool) (hq : q = (fun x => decide (x < -1099511627776) || decide (1099511627776 < x)))
    (a : Option Addr) (n cap : Nat) (x : Nat → Int) (hn : n ≤ 9223372036854775806) (z : Bool) (hz : z = true ↔ ∃ j, j < n ∧ q (x j) = true) (w : World) (h : Rd w a n x) :
    Calls Try.prog 34 #[.slice a n cap, .func (.func 45) #[] #[]] w fun e w' => e = .returned (.bool z) ∧ w = w' := by
  have H := Lib.hid h
  have HQ := Lib.hid hq
  have HZ := Lib.hid hz
  clear h hq hz
  go_enter Try.func34, Try.ntmps34
  go_wp2_with fail
  refine (Index_far q HQ.out a n cap x hn _ H.out).mono ?_
  rintro e w1 ⟨he, rfl⟩
  rcases he with ⟨rfl, h1⟩ | ⟨u, hu, rfl, h1, h2⟩
  · have HE : Hid (z = false) := Lib.hid (by
      cases hzz : z
      · rfl
      · obtain ⟨j, hj, e⟩ := HZ.out.1 hzz
        rw [h1 j hj] at e; cases e)
    clear h1
    go_wp2_with fail
    go_ret
    exact ⟨by rw [HE.out]; rfl, rfl⟩
  · have HE : Hid (z = true) := Lib.hid (HZ.out.2 ⟨u, hu, h1⟩)
    clear h1 h2
    go_wp2_with fail
    go_ret
    exact ⟨by rw [HE.out]; simp, rfl⟩
end Go.Proofs.Ythoehobofdeifaa
