/-
  WALKS of the small functions of package token. (Filled in from a template of this repo.)
-/
import Derived.Test.YthcagbplolcbpaaDoorTkP
import Derived.Test.YthcagbplolcbpaaDoorWords
import Derived.Test.YthcagbplolcbpaaDoorDraw
import Derived.WalkSpells
namespace Go.Proofs.YthcagbplolcbpaaDoor
open Go.ChangeShapes Go.WideShapes Go.ChangeAt Go.RowKit
set_option linter.unusedVariables false
set_option linter.unusedSimpArgs false

set_option maxHeartbeats 1000000 in
theorem letter_n (n : Nat) (w : World) : Calls Tryd.prog 31 #[.int .u8 (n : Int)] w fun e w' => e = .returned (.bool (decide (97 ≤ n ∧ n ≤ 122) || decide (65 ≤ n ∧ n ≤ 90))) ∧ w' = w := by
  by_cases h1 : 97 ≤ n
  · by_cases h2 : n ≤ 122
    · have d1 : decide ((97 : Int) ≤ (n : Int)) = true := by rw [decide_eq_true_iff]; omega
      have d2 : decide ((n : Int) ≤ 122) = true := by rw [decide_eq_true_iff]; omega
      have HE : Hid ((decide (97 ≤ n ∧ n ≤ 122) || decide (65 ≤ n ∧ n ≤ 90)) = true) := Lib.hid (by simp [h1, h2])
      clear h1 h2
      go_enter Tryd.func31, Tryd.ntmps31
      go_wp2
      go_ret
      exact ⟨by rw [HE.out]; rfl, rfl⟩
    · have d1 : decide ((97 : Int) ≤ (n : Int)) = true := by rw [decide_eq_true_iff]; omega
      have d2 : decide ((n : Int) ≤ 122) = false := by rw [decide_eq_false_iff_not]; omega
      have d3 : decide ((65 : Int) ≤ (n : Int)) = true := by rw [decide_eq_true_iff]; omega
      have d4 : decide ((n : Int) ≤ 90) = false := by rw [decide_eq_false_iff_not]; omega
      have HE : Hid ((decide (97 ≤ n ∧ n ≤ 122) || decide (65 ≤ n ∧ n ≤ 90)) = false) := Lib.hid (by simp; omega)
      clear h1 h2
      go_enter Tryd.func31, Tryd.ntmps31
      go_wp2
      go_ret
      exact ⟨by rw [HE.out]; rfl, rfl⟩
  · have d1 : decide ((97 : Int) ≤ (n : Int)) = false := by rw [decide_eq_false_iff_not]; omega
    by_cases h3 : 65 ≤ n
    · have d3 : decide ((65 : Int) ≤ (n : Int)) = true := by rw [decide_eq_true_iff]; omega
      have HE : Hid ((decide (97 ≤ n ∧ n ≤ 122) || decide (65 ≤ n ∧ n ≤ 90)) = decide ((n : Int) ≤ 90)) := Lib.hid (by
        have : decide ((n : Int) ≤ 90) = decide (n ≤ 90) := by rw [decide_eq_decide]; omega
        rw [this]; simp [h1, h3])
      clear h1 h3
      go_enter Tryd.func31, Tryd.ntmps31
      go_wp2
      go_ret
      exact ⟨by rw [HE.out]; simp, rfl⟩
    · have d3 : decide ((65 : Int) ≤ (n : Int)) = false := by rw [decide_eq_false_iff_not]; omega
      have HE : Hid ((decide (97 ≤ n ∧ n ≤ 122) || decide (65 ≤ n ∧ n ≤ 90)) = false) := Lib.hid (by simp [h1, h3])
      clear h1 h3
      go_enter Tryd.func31, Tryd.ntmps31
      go_wp2
      go_ret
      exact ⟨by rw [HE.out]; rfl, rfl⟩
theorem letter_any (b : UInt8) (w : World) : Calls Tryd.prog 31 #[.int .u8 (b.toNat : Int)] w fun e w' => e = .returned (.bool (lt8 b)) ∧ w' = w := letter_n b.toNat w
theorem digit_n (n : Nat) (w : World) : Calls Tryd.prog 33 #[.int .u8 (n : Int)] w fun e w' => e = .returned (.bool (decide (48 ≤ n ∧ n ≤ 57))) ∧ w' = w := by
  by_cases h1 : 48 ≤ n
  · have d1 : decide ((48 : Int) ≤ (n : Int)) = true := by rw [decide_eq_true_iff]; omega
    have HE : Hid (decide (48 ≤ n ∧ n ≤ 57) = decide ((n : Int) ≤ 57)) := Lib.hid (by rw [decide_eq_decide]; omega)
    clear h1
    go_enter Tryd.func33, Tryd.ntmps33
    go_wp2
    go_ret
    exact ⟨by rw [HE.out]; simp, rfl⟩
  · have d1 : decide ((48 : Int) ≤ (n : Int)) = false := by rw [decide_eq_false_iff_not]; omega
    have HE : Hid (decide (48 ≤ n ∧ n ≤ 57) = false) := Lib.hid (by simp [h1])
    clear h1
    go_enter Tryd.func33, Tryd.ntmps33
    go_wp2
    go_ret
    exact ⟨by rw [HE.out]; rfl, rfl⟩
theorem digit_any (b : UInt8) (w : World) : Calls Tryd.prog 33 #[.int .u8 (b.toNat : Int)] w fun e w' => e = .returned (.bool (dg8 b)) ∧ w' = w := digit_n b.toNat w
theorem inner_any (b : UInt8) (w : World) : Calls Tryd.prog 32 #[.int .u8 (b.toNat : Int)] w fun e w' => e = .returned (.bool (in8 b)) ∧ w' = w := by
  have HL := Lib.hid (letter_any b)
  have HD := Lib.hid (digit_any b)
  cases h1 : lt8 b
  · cases h2 : dg8 b
    · have HE : Hid (in8 b = decide (b.toNat = 95)) := Lib.hid (by unfold in8; rw [h1, h2]; rfl)
      go_enter Tryd.func32, Tryd.ntmps32
      go_wp2_with fail
      refine (HL.out _).mono ?_
      rintro e w1 ⟨rfl, rfl⟩
      rw [h1]
      go_wp2_with fail
      refine (HD.out _).mono ?_
      rintro e w1 ⟨rfl, rfl⟩
      rw [h2]
      go_wp2_with fail
      go_ret
      refine ⟨?_, rfl⟩
      rw [HE.out]
      have : ((b.toNat : Int) == 95) = decide (b.toNat = 95) := by rw [Bool.eq_iff_iff]; simp; omega
      simp [this]
    · have HE : Hid (in8 b = true) := Lib.hid (by unfold in8; rw [h1, h2]; rfl)
      go_enter Tryd.func32, Tryd.ntmps32
      go_wp2_with fail
      refine (HL.out _).mono ?_
      rintro e w1 ⟨rfl, rfl⟩
      rw [h1]
      go_wp2_with fail
      refine (HD.out _).mono ?_
      rintro e w1 ⟨rfl, rfl⟩
      rw [h2]
      go_wp2_with fail
      go_ret
      exact ⟨by rw [HE.out]; rfl, rfl⟩
  · have HE : Hid (in8 b = true) := Lib.hid (by unfold in8; rw [h1]; rfl)
    go_enter Tryd.func32, Tryd.ntmps32
    go_wp2_with fail
    refine (HL.out _).mono ?_
    rintro e w1 ⟨rfl, rfl⟩
    rw [h1]
    go_wp2_with fail
    go_ret
    exact ⟨by rw [HE.out]; rfl, rfl⟩
/-- no end of line -/
def nl8 (b : UInt8) : Bool := !decide (b.toNat = 10)
theorem nonl_any (b : UInt8) (w : World) : Calls Tryd.prog 24 #[.int .u8 (b.toNat : Int)] w fun e w' => e = .returned (.bool (nl8 b)) ∧ w' = w := by
  have HE : Hid (nl8 b = ((b.toNat : Int) != 10)) := Lib.hid (by unfold nl8; rw [Bool.eq_iff_iff]; simp; omega)
  go_enter Tryd.func24, Tryd.ntmps24
  go_wp2
  go_ret
  exact ⟨by rw [HE.out]; rfl, rfl⟩
theorem run_inner (s : ByteArray) (hs : s.size ≤ 9223372036854775806) (w : World) : Calls Tryd.prog 23 #[.string s, .func (.func 32) #[] #[]] w fun e w' => e = .returned (.string (st (run in8 s.data.toList))) ∧ w' = w := by
  go_enter Tryd.func23, Tryd.ntmps23
  go_wp2_with fail
  go_loopw [8] (fun v8 wr => ∃ k : Nat, k ≤ s.size ∧ v8 = .int .i64 k ∧ wr = w ∧ Hid (∀ j, j < k → ∃ b, s.data.toList[j]? = some b ∧ in8 b = true)) (fun v _ => s.size - (intOf v).toNat)
  case atStart => exact ⟨0, by omega, rfl, rfl, Lib.hid (fun j hj => absurd hj (by omega))⟩
  case round =>
    obtain ⟨k, hk, rfl, rfl, HA⟩ := hrel
    by_cases hlt : k < s.size
    · have HG := Lib.hid (st_get s k hlt)
      go_wp2_with fail
      refine (inner_any _ _).mono ?_
      rintro e w1 ⟨rfl, rfl⟩
      obtain ⟨b, hb⟩ : ∃ b, s[k] = b := ⟨_, rfl⟩
      have HB := Lib.hid hb
      rw [hb] at HG ⊢
      clear hb
      cases hz : in8 b
      · have HZ := Lib.hid hz
        have HR := Lib.hid (run_at HA.out b HG.out hz)
        clear hz
        go_wp2_with fail
        go_ret
        exact ⟨by rw [HR.out, st_ext]; simp, rfl⟩
      · have HN : Hid (∀ j, j < k + 1 → ∃ b, s.data.toList[j]? = some b ∧ in8 b = true) := Lib.hid (fun j hj => by
          by_cases e : j = k
          · subst e; exact ⟨b, HG.out, hz⟩
          · exact HA.out j (by omega))
        clear hz
        go_wp2_with fail
        go_roundw
        case rel => exact ⟨k + 1, by omega, by go_num, by first | rfl | trivial, HN⟩
        case measure => simp [intOf]; omega
    · obtain rfl : k = s.size := by omega
      have HR := Lib.hid (run_all (p := in8) (l := s.data.toList) HA.out)
      go_wp2_with fail
      go_ret
      exact ⟨by rw [HR.out, st_data]; rfl, rfl⟩
theorem run_digit (s : ByteArray) (hs : s.size ≤ 9223372036854775806) (w : World) : Calls Tryd.prog 23 #[.string s, .func (.func 33) #[] #[]] w fun e w' => e = .returned (.string (st (run dg8 s.data.toList))) ∧ w' = w := by
  go_enter Tryd.func23, Tryd.ntmps23
  go_wp2_with fail
  go_loopw [8] (fun v8 wr => ∃ k : Nat, k ≤ s.size ∧ v8 = .int .i64 k ∧ wr = w ∧ Hid (∀ j, j < k → ∃ b, s.data.toList[j]? = some b ∧ dg8 b = true)) (fun v _ => s.size - (intOf v).toNat)
  case atStart => exact ⟨0, by omega, rfl, rfl, Lib.hid (fun j hj => absurd hj (by omega))⟩
  case round =>
    obtain ⟨k, hk, rfl, rfl, HA⟩ := hrel
    by_cases hlt : k < s.size
    · have HG := Lib.hid (st_get s k hlt)
      go_wp2_with fail
      refine (digit_any _ _).mono ?_
      rintro e w1 ⟨rfl, rfl⟩
      obtain ⟨b, hb⟩ : ∃ b, s[k] = b := ⟨_, rfl⟩
      have HB := Lib.hid hb
      rw [hb] at HG ⊢
      clear hb
      cases hz : dg8 b
      · have HZ := Lib.hid hz
        have HR := Lib.hid (run_at HA.out b HG.out hz)
        clear hz
        go_wp2_with fail
        go_ret
        exact ⟨by rw [HR.out, st_ext]; simp, rfl⟩
      · have HN : Hid (∀ j, j < k + 1 → ∃ b, s.data.toList[j]? = some b ∧ dg8 b = true) := Lib.hid (fun j hj => by
          by_cases e : j = k
          · subst e; exact ⟨b, HG.out, hz⟩
          · exact HA.out j (by omega))
        clear hz
        go_wp2_with fail
        go_roundw
        case rel => exact ⟨k + 1, by omega, by go_num, by first | rfl | trivial, HN⟩
        case measure => simp [intOf]; omega
    · obtain rfl : k = s.size := by omega
      have HR := Lib.hid (run_all (p := dg8) (l := s.data.toList) HA.out)
      go_wp2_with fail
      go_ret
      exact ⟨by rw [HR.out, st_data]; rfl, rfl⟩
theorem run_nonl (s : ByteArray) (hs : s.size ≤ 9223372036854775806) (w : World) : Calls Tryd.prog 23 #[.string s, .func (.func 24) #[] #[]] w fun e w' => e = .returned (.string (st (run nl8 s.data.toList))) ∧ w' = w := by
  go_enter Tryd.func23, Tryd.ntmps23
  go_wp2_with fail
  go_loopw [8] (fun v8 wr => ∃ k : Nat, k ≤ s.size ∧ v8 = .int .i64 k ∧ wr = w ∧ Hid (∀ j, j < k → ∃ b, s.data.toList[j]? = some b ∧ nl8 b = true)) (fun v _ => s.size - (intOf v).toNat)
  case atStart => exact ⟨0, by omega, rfl, rfl, Lib.hid (fun j hj => absurd hj (by omega))⟩
  case round =>
    obtain ⟨k, hk, rfl, rfl, HA⟩ := hrel
    by_cases hlt : k < s.size
    · have HG := Lib.hid (st_get s k hlt)
      go_wp2_with fail
      refine (nonl_any _ _).mono ?_
      rintro e w1 ⟨rfl, rfl⟩
      obtain ⟨b, hb⟩ : ∃ b, s[k] = b := ⟨_, rfl⟩
      have HB := Lib.hid hb
      rw [hb] at HG ⊢
      clear hb
      cases hz : nl8 b
      · have HZ := Lib.hid hz
        have HR := Lib.hid (run_at HA.out b HG.out hz)
        clear hz
        go_wp2_with fail
        go_ret
        exact ⟨by rw [HR.out, st_ext]; simp, rfl⟩
      · have HN : Hid (∀ j, j < k + 1 → ∃ b, s.data.toList[j]? = some b ∧ nl8 b = true) := Lib.hid (fun j hj => by
          by_cases e : j = k
          · subst e; exact ⟨b, HG.out, hz⟩
          · exact HA.out j (by omega))
        clear hz
        go_wp2_with fail
        go_roundw
        case rel => exact ⟨k + 1, by omega, by go_num, by first | rfl | trivial, HN⟩
        case measure => simp [intOf]; omega
    · obtain rfl : k = s.size := by omega
      have HR := Lib.hid (run_all (p := nl8) (l := s.data.toList) HA.out)
      go_wp2_with fail
      go_ret
      exact ⟨by rw [HR.out, st_data]; rfl, rfl⟩
end Go.Proofs.YthcagbplolcbpaaDoor
