/-
  The contracts of chapter 43 at any arguments: the program's functions and the reference's leave the same.
-/
import Derived.Test.YtjlalilhmadmcaaRefSig
import Derived.Test.YtjlalilhmadmcaaDrawInt
namespace Go.Proofs.Ytjlalilhmadmcaa
open Go.ChangeShapes Go.WideShapes Go.ChangeAt Go.RowKit

def lvB (num den : Int) : Bool := decide (1 ≤ den ∧ den ≤ 1000000 ∧ 0 ≤ num ∧ num ≤ den)
theorem lv_yes {num den : Int} (h : lvB num den = true) : 1 ≤ den ∧ den ≤ 1000000 ∧ 0 ≤ num ∧ num ≤ den := by simpa [lvB] using h
theorem lv_no {num den : Int} (h : ¬ lvB num den = true) : ¬ (1 ≤ den ∧ den ≤ 1000000 ∧ 0 ≤ num ∧ num ≤ den) := by simpa [lvB] using h
theorem valid_tot (num den : Int) (w : World) : Calls Try.prog 25 #[.agg #[.int .i64 num, .int .i64 den]] w fun e w' => e = .returned (.bool (lvB num den)) ∧ Below w.heap.size w w' := valid_any num den w
theorem refvalid_tot (num den : Int) (w : World) : Calls Try.prog 26 #[.agg #[.int .i64 num, .int .i64 den]] w fun e w' => e = .returned (.bool (lvB num den)) ∧ Below w.heap.size w w' := refvalid_any num den w

def shB (num den looks : Int) : Bool := decide (1 ≤ den ∧ den ≤ 1000000 ∧ 0 ≤ num ∧ num ≤ den ∧ 1 ≤ looks ∧ looks ≤ 8 ∧ den * looks ≤ 1000000)
def shN (num den looks : Int) : Int := if shB num den looks then num else 0
def shD (num den looks : Int) : Int := if shB num den looks then den * looks else 0
def shE (num den looks : Int) : Int := if shB num den looks then 0 else 1
theorem Share_tot (num den looks : Int) (l0 : -9223372036854775808 ≤ looks) (l9 : looks ≤ 9223372036854775807) (w : World) :
    Calls Try.prog 21 #[.agg #[.int .i64 num, .int .i64 den], .int .i64 looks] w fun e w' => e = .returned (.tuple #[.agg #[.int .i64 (shN num den looks), .int .i64 (shD num den looks)], .int .i64 (shE num den looks)]) ∧ Below w.heap.size w w' := by
  by_cases h : shB num den looks = true
  · have h' := h
    simp only [shB, decide_eq_true_eq] at h'
    obtain ⟨h1, h2, h3, h4, h5, h6, h7⟩ := h'
    rw [show shN num den looks = num from if_pos h, show shD num den looks = den * looks from if_pos h, show shE num den looks = 0 from if_pos h]
    exact Share_yes num den looks h1 h2 h3 h4 h5 h6 _ rfl h7 w
  · rw [show shN num den looks = 0 from if_neg h, show shD num den looks = 0 from if_neg h, show shE num den looks = 1 from if_neg h]
    exact Share_no num den looks l0 l9 (by simpa [shB] using h) w
theorem refShare_tot (num den looks : Int) (l0 : -9223372036854775808 ≤ looks) (l9 : looks ≤ 9223372036854775807) (w : World) :
    Calls Try.prog 22 #[.agg #[.int .i64 num, .int .i64 den], .int .i64 looks] w fun e w' => e = .returned (.tuple #[.agg #[.int .i64 (shN num den looks), .int .i64 (shD num den looks)], .int .i64 (shE num den looks)]) ∧ Below w.heap.size w w' := by
  by_cases h : shB num den looks = true
  · have h' := h
    simp only [shB, decide_eq_true_eq] at h'
    obtain ⟨h1, h2, h3, h4, h5, h6, h7⟩ := h'
    rw [show shN num den looks = num from if_pos h, show shD num den looks = den * looks from if_pos h, show shE num den looks = 0 from if_pos h]
    exact refShare_yes num den looks h1 h2 h3 h4 h5 h6 _ rfl h7 w
  · rw [show shN num den looks = 0 from if_neg h, show shD num den looks = 0 from if_neg h, show shE num den looks = 1 from if_neg h]
    exact refShare_no num den looks l0 l9 (by simpa [shB] using h) w

def okB (n num den : Int) : Bool := decide (0 ≤ n ∧ n ≤ 60 ∧ 1 ≤ den ∧ den ≤ 1000000 ∧ 0 ≤ num ∧ num ≤ den)
def sgV (n k num den : Int) : Bool := if okB n num den then sig n.toNat k.toNat num.toNat den.toNat else false
def thV (n num den : Int) : Int := if okB n num den then (thrOf n.toNat num.toNat den.toNat : Nat) else 0
def okE (n num den : Int) : Int := if okB n num den then 0 else 1
theorem Significant_tot (n k num den : Int) (hk0 : -9223372036854775808 ≤ k) (hk : k ≤ 9223372036854775807) (w : World) :
    Calls Try.prog 11 #[.int .i64 n, .int .i64 k, .agg #[.int .i64 num, .int .i64 den]] w fun e w' => e = .returned (.tuple #[.bool (sgV n k num den), .int .i64 (okE n num den)]) ∧ Below w.heap.size w w' := by
  by_cases h : okB n num den = true
  · have h' := h
    simp only [okB, decide_eq_true_eq] at h'
    obtain ⟨h1, h2, h3, h4, h5, h6⟩ := h'
    rw [show sgV n k num den = _ from if_pos h, show okE n num den = 0 from if_pos h]
    exact Significant_yes n h1 h2 k hk0 hk num den h3 h4 h5 h6 w
  · rw [show sgV n k num den = _ from if_neg h, show okE n num den = 1 from if_neg h]
    exact Significant_no n k num den (by simpa [okB] using h) w
theorem refSignificant_tot (n k num den : Int) (hk0 : -9223372036854775808 ≤ k) (hk : k ≤ 9223372036854775807) (w : World) :
    Calls Try.prog 23 #[.int .i64 n, .int .i64 k, .agg #[.int .i64 num, .int .i64 den]] w fun e w' => e = .returned (.tuple #[.bool (sgV n k num den), .int .i64 (okE n num den)]) ∧ Below w.heap.size w w' := by
  by_cases h : okB n num den = true
  · have h' := h
    simp only [okB, decide_eq_true_eq] at h'
    obtain ⟨h1, h2, h3, h4, h5, h6⟩ := h'
    rw [show sgV n k num den = _ from if_pos h, show okE n num den = 0 from if_pos h]
    exact refSignificant_yes n h1 h2 k hk0 hk num den h3 h4 h5 h6 w
  · rw [show sgV n k num den = _ from if_neg h, show okE n num den = 1 from if_neg h]
    exact refSignificant_no n k num den hk0 hk (by simpa [okB] using h) w
theorem Threshold_tot (n num den : Int) (w : World) :
    Calls Try.prog 14 #[.int .i64 n, .agg #[.int .i64 num, .int .i64 den]] w fun e w' => e = .returned (.tuple #[.int .i64 (thV n num den), .int .i64 (okE n num den)]) ∧ Below w.heap.size w w' := by
  by_cases h : okB n num den = true
  · have h' := h
    simp only [okB, decide_eq_true_eq] at h'
    obtain ⟨h1, h2, h3, h4, h5, h6⟩ := h'
    rw [show thV n num den = _ from if_pos h, show okE n num den = 0 from if_pos h]
    exact Threshold_yes n h1 h2 num den h3 h4 h5 h6 w
  · rw [show thV n num den = _ from if_neg h, show okE n num den = 1 from if_neg h]
    exact Threshold_no n num den (by simpa [okB] using h) w
theorem refThreshold_tot (n num den : Int) (w : World) :
    Calls Try.prog 24 #[.int .i64 n, .agg #[.int .i64 num, .int .i64 den]] w fun e w' => e = .returned (.tuple #[.int .i64 (thV n num den), .int .i64 (okE n num den)]) ∧ Below w.heap.size w w' := by
  by_cases h : okB n num den = true
  · have h' := h
    simp only [okB, decide_eq_true_eq] at h'
    obtain ⟨h1, h2, h3, h4, h5, h6⟩ := h'
    rw [show thV n num den = _ from if_pos h, show okE n num den = 0 from if_pos h]
    exact refThreshold_yes n h1 h2 num den h3 h4 h5 h6 w
  · rw [show thV n num den = _ from if_neg h, show okE n num den = 1 from if_neg h]
    exact refThreshold_no n num den (by simpa [okB] using h) w
end Go.Proofs.Ytjlalilhmadmcaa
