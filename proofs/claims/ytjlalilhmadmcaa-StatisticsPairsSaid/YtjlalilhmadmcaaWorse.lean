/-
  The contracts of Signs and Worse at any arguments, and the reference's.
-/
import Derived.Test.YtjlalilhmadmcaaSigns
import Derived.Test.YtjlalilhmadmcaaRefSignsB
import Derived.Test.YtjlalilhmadmcaaTot
namespace Go.Proofs.Ytjlalilhmadmcaa
open Go.ChangeShapes Go.WideShapes Go.ChangeAt Go.RowKit

def allMB (q : Nat → Int × Int) : Nat → Bool
  | 0 => true
  | k + 1 => allMB q k && (meas (q k).1 && meas (q k).2)
theorem allMB_iff (q : Nat → Int × Int) : ∀ k, allMB q k = true ↔ allM q k := by
  intro k
  induction k with
  | zero => exact ⟨fun _ i hi => absurd hi (by omega), fun _ => rfl⟩
  | succ k ih =>
    constructor
    · intro h i hi
      simp only [allMB, Bool.and_eq_true] at h
      by_cases e : i = k
      · subst e; exact h.2
      · exact (ih.1 h.1) i (by omega)
    · intro h
      simp only [allMB, Bool.and_eq_true]
      exact ⟨ih.2 fun i hi => h i (by omega), h k (by omega)⟩
def sOk (margin : Int) (len : Nat) (q : Nat → Int × Int) : Bool := decide (0 ≤ margin ∧ margin ≤ 1000 ∧ len ≤ 60) && allMB q len
def sB (margin : Int) (len : Nat) (q : Nat → Int × Int) : Nat := if sOk margin len q then cnt (fun i => betB margin (q i)) len else 0
def sW (margin : Int) (len : Nat) (q : Nat → Int × Int) : Nat := if sOk margin len q then cnt (fun i => wrsB margin (q i)) len else 0
def sE (margin : Int) (len : Nat) (q : Nat → Int × Int) : Int := if sOk margin len q then 0 else 1

theorem Signs_tot (a : Option Addr) (len cap : Nat) (q : Nat → Int × Int) (margin : Int) (hl : len ≤ 9223372036854775807) (w : World) (h : PairsAt w a len q) :
    Calls Try.prog 28 #[.slice a len cap, .int .i64 margin] w fun e w' => e = .returned (.tuple #[.int .i64 (sB margin len q : Nat), .int .i64 (sW margin len q : Nat), .int .i64 (sE margin len q)]) ∧ Below w.heap.size w w' := by
  by_cases hok : sOk margin len q = true
  · rw [show sB margin len q = _ from if_pos hok, show sW margin len q = _ from if_pos hok, show sE margin len q = 0 from if_pos hok]
    simp only [sOk, Bool.and_eq_true, decide_eq_true_eq] at hok
    exact Signs_in a len cap q margin hok.1.1 hok.1.2.1 hok.1.2.2 w h ((allMB_iff q len).1 hok.2)
  · rw [show sB margin len q = 0 from if_neg hok, show sW margin len q = 0 from if_neg hok, show sE margin len q = 1 from if_neg hok]
    simp only [sOk, Bool.and_eq_true, decide_eq_true_eq] at hok
    by_cases hr : 0 ≤ margin ∧ margin ≤ 1000 ∧ len ≤ 60
    · exact Signs_bad a len cap q margin hr.1 hr.2.1 hr.2.2 w h (fun hA => hok ⟨hr, (allMB_iff q len).2 hA⟩)
    · exact Signs_no a len cap margin hl (by omega) w

set_option maxRecDepth 100000 in
set_option maxHeartbeats 1000000 in
theorem Worse_tot (a : Option Addr) (len cap : Nat) (q : Nat → Int × Int) (margin num den : Int) (hl : len ≤ 9223372036854775807) (w : World) (h : PairsAt w a len q) :
    Calls Try.prog 30 #[.slice a len cap, .int .i64 margin, .agg #[.int .i64 num, .int .i64 den]] w fun e w' => e = .returned (.tuple #[.bool (if sOk margin len q then sgV ((sB margin len q : Nat) + (sW margin len q : Nat) : Int) (sW margin len q : Nat) num den else false), .int .i64 (if sOk margin len q then okE ((sB margin len q : Nat) + (sW margin len q : Nat) : Int) num den else 1)]) ∧ Below w.heap.size w w' := by
  have hb := cnt_le (fun i => betB margin (q i)) len
  have hw := cnt_le (fun i => wrsB margin (q i)) len
  by_cases hok : sOk margin len q = true
  · have hlen : len ≤ 60 := by
      have h2 := hok
      simp only [sOk, Bool.and_eq_true, decide_eq_true_eq] at h2
      exact h2.1.2.2
    have hbb : sB margin len q ≤ 60 := by rw [show sB margin len q = _ from if_pos hok]; omega
    have hww : sW margin len q ≤ 60 := by rw [show sW margin len q = _ from if_pos hok]; omega
    have HE : Hid (sE margin len q = 0) := if_pos hok
    rw [if_pos hok, if_pos hok]
    have HS := fun W hW => Signs_tot a len cap q margin hl W hW
    have HS := Lib.hid HS
    obtain ⟨b, hbq⟩ : ∃ b, sB margin len q = b := ⟨_, rfl⟩
    obtain ⟨v, hvq⟩ : ∃ v, sW margin len q = v := ⟨_, rfl⟩
    rw [hbq] at hbb
    rw [hvq] at hww
    have HB := Lib.hid hbq
    have HV := Lib.hid hvq
    have HH := Lib.hid h
    rw [hbq, hvq]
    clear hb hw hok hbq hvq h
    go_enter Try.func30, Try.ntmps30
    go_wp2_with fail
    refine (HS.out _ (HH.out.below ((Below.refl _ _).alloc (Nat.le_refl _) _))).mono ?_
    rw [HE.out, HB.out, HV.out]
    rintro e w1 ⟨rfl, hb1⟩
    have hc := (bcell hb1).1
    go_wp2_with fail
    refine (Significant_tot ((b : Int) + (v : Int)) v num den (by omega) (by omega) _).mono ?_
    rintro e w2 ⟨rfl, hb2⟩
    go_wp2_with fail
    go_ret2
    exact ⟨rfl, ((Below.refl _ _).alloc (Nat.le_refl _) _).trans ((hb1.trans (hb2.mono hb1.size)).mono (by simp))⟩
  · have HE : Hid (sE margin len q = 1) := if_neg hok
    have HB : Hid (sB margin len q = 0) := if_neg hok
    have HV : Hid (sW margin len q = 0) := if_neg hok
    rw [if_neg hok, if_neg hok]
    have HS := fun W hW => Signs_tot a len cap q margin hl W hW
    have HS := Lib.hid HS
    have HH := Lib.hid h
    clear hb hw hok h
    go_enter Try.func30, Try.ntmps30
    go_wp2_with fail
    refine (HS.out _ (HH.out.below ((Below.refl _ _).alloc (Nat.le_refl _) _))).mono ?_
    rw [HE.out, HB.out, HV.out]
    rintro e w1 ⟨rfl, hb1⟩
    go_wp2_with fail
    go_ret2
    exact ⟨rfl, ((Below.refl _ _).alloc (Nat.le_refl _) _).trans (hb1.mono (by simp))⟩

theorem refSigns_tot (a : Option Addr) (len cap : Nat) (q : Nat → Int × Int) (margin : Int) (hl : len ≤ 9223372036854775807) (w : World) (h : PairsAt w a len q) :
    Calls Try.prog 29 #[.slice a len cap, .int .i64 margin] w fun e w' => e = .returned (.tuple #[.int .i64 (sB margin len q : Nat), .int .i64 (sW margin len q : Nat), .int .i64 (sE margin len q)]) ∧ Below w.heap.size w w' := by
  by_cases hok : sOk margin len q = true
  · rw [show sB margin len q = _ from if_pos hok, show sW margin len q = _ from if_pos hok, show sE margin len q = 0 from if_pos hok]
    simp only [sOk, Bool.and_eq_true, decide_eq_true_eq] at hok
    exact refSigns_in a len cap q margin hok.1.1 hok.1.2.1 hok.1.2.2 w h ((allMB_iff q len).1 hok.2)
  · rw [show sB margin len q = 0 from if_neg hok, show sW margin len q = 0 from if_neg hok, show sE margin len q = 1 from if_neg hok]
    simp only [sOk, Bool.and_eq_true, decide_eq_true_eq] at hok
    by_cases hr : 0 ≤ margin ∧ margin ≤ 1000 ∧ len ≤ 60
    · exact refSigns_bad a len cap q margin hr.1 hr.2.1 hr.2.2 w h (fun hA => hok ⟨hr, (allMB_iff q len).2 hA⟩)
    · exact refSigns_no a len cap margin hl (by omega) w

set_option maxRecDepth 100000 in
set_option maxHeartbeats 1000000 in
theorem refWorse_tot (a : Option Addr) (len cap : Nat) (q : Nat → Int × Int) (margin num den : Int) (hl : len ≤ 9223372036854775807) (w : World) (h : PairsAt w a len q) :
    Calls Try.prog 31 #[.slice a len cap, .int .i64 margin, .agg #[.int .i64 num, .int .i64 den]] w fun e w' => e = .returned (.tuple #[.bool (if sOk margin len q then sgV ((sB margin len q : Nat) + (sW margin len q : Nat) : Int) (sW margin len q : Nat) num den else false), .int .i64 (if sOk margin len q then okE ((sB margin len q : Nat) + (sW margin len q : Nat) : Int) num den else 1)]) ∧ Below w.heap.size w w' := by
  have hb := cnt_le (fun i => betB margin (q i)) len
  have hw := cnt_le (fun i => wrsB margin (q i)) len
  by_cases hok : sOk margin len q = true
  · have hlen : len ≤ 60 := by
      have h2 := hok
      simp only [sOk, Bool.and_eq_true, decide_eq_true_eq] at h2
      exact h2.1.2.2
    have hbb : sB margin len q ≤ 60 := by rw [show sB margin len q = _ from if_pos hok]; omega
    have hww : sW margin len q ≤ 60 := by rw [show sW margin len q = _ from if_pos hok]; omega
    have HE : Hid (sE margin len q = 0) := if_pos hok
    rw [if_pos hok, if_pos hok]
    have HS := fun W hW => refSigns_tot a len cap q margin hl W hW
    have HS := Lib.hid HS
    obtain ⟨b, hbq⟩ : ∃ b, sB margin len q = b := ⟨_, rfl⟩
    obtain ⟨v, hvq⟩ : ∃ v, sW margin len q = v := ⟨_, rfl⟩
    rw [hbq] at hbb
    rw [hvq] at hww
    have HB := Lib.hid hbq
    have HV := Lib.hid hvq
    have HH := Lib.hid h
    rw [hbq, hvq]
    clear hb hw hok hbq hvq h
    go_enter Try.func31, Try.ntmps31
    go_wp2_with fail
    refine (HS.out _ (HH.out.below ((Below.refl _ _).alloc (Nat.le_refl _) _))).mono ?_
    rw [HE.out, HB.out, HV.out]
    rintro e w1 ⟨rfl, hb1⟩
    have hc := (bcell hb1).1
    go_wp2_with fail
    refine (refSignificant_tot ((b : Int) + (v : Int)) v num den (by omega) (by omega) _).mono ?_
    rintro e w2 ⟨rfl, hb2⟩
    go_wp2_with fail
    go_ret2
    exact ⟨rfl, ((Below.refl _ _).alloc (Nat.le_refl _) _).trans ((hb1.trans (hb2.mono hb1.size)).mono (by simp))⟩
  · have HE : Hid (sE margin len q = 1) := if_neg hok
    have HB : Hid (sB margin len q = 0) := if_neg hok
    have HV : Hid (sW margin len q = 0) := if_neg hok
    rw [if_neg hok, if_neg hok]
    have HS := fun W hW => refSigns_tot a len cap q margin hl W hW
    have HS := Lib.hid HS
    have HH := Lib.hid h
    clear hb hw hok h
    go_enter Try.func31, Try.ntmps31
    go_wp2_with fail
    refine (HS.out _ (HH.out.below ((Below.refl _ _).alloc (Nat.le_refl _) _))).mono ?_
    rw [HE.out, HB.out, HV.out]
    rintro e w1 ⟨rfl, hb1⟩
    go_wp2_with fail
    go_ret2
    exact ⟨rfl, ((Below.refl _ _).alloc (Nat.le_refl _) _).trans (hb1.mono (by simp))⟩
end Go.Proofs.Ytjlalilhmadmcaa
