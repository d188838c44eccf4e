/-
  PLAIN WORDS of chapter 3: letters, digits, words, signs, tokens of a text. No program in sight. (Filled in from a template of this repo.)
  WALKS of the small functions of package token. (Filled in from a template of this repo.)
  WALKS of Word and Sign. (Filled in from a template of this repo.)
  THE KIT's MOVE, the slot written out. (Filled in from a template of this repo.)
  WALK of token.next. (Filled in from a template of this repo.)
  PLAIN WORDS: the tokens of a text. No walk. (Filled in from a template of this repo.)
  WALK of token.Scan. (Filled in from a template of this repo.)
  PLAIN WORDS: texts several times, steps of a scan. (Filled in from a template of this repo.)
  WORDS: tokens in memory. (Filled in from a template of this repo.)
  PLAIN LAWS of scanning: tokens that were scanned once are scanned again, whatever stands between them. No walk. (Filled in from a template of this repo.)
-/
import Derived.Lib.Strings
import Derived.Test.YtpcdinelpfbpfaaDoorWords
import Derived.Test.YtpcdinelpfbpfaaDoorDraw
import Derived.WalkSpells
import Derived.OrdersHeld
import Derived.Deep.RegionLaw
import Derived.Test.YtpcdinelpfbpfaaDoorShelf
import Derived.BigQuiet
import Derived.Lib.AppendIntMem
import Derived.Lib.AtoiErrMem
import Derived.Laws.AppendOwn
import Derived.Lib.AppendStr
import Derived.Lib.BufferRead
import Derived.Laws.MakeOwn
namespace Go.Proofs.YtpcdinelpfbpfaaDoor
set_option linter.unusedVariables false

abbrev Bt := List UInt8
def lt8 (b : UInt8) : Bool := decide (97 ≤ b.toNat ∧ b.toNat ≤ 122) || decide (65 ≤ b.toNat ∧ b.toNat ≤ 90)
def dg8 (b : UInt8) : Bool := decide (48 ≤ b.toNat ∧ b.toNat ≤ 57)
def in8 (b : UInt8) : Bool := lt8 b || dg8 b || decide (b.toNat = 95)
def wordsL : List Bt := [[102, 117, 110, 99], [103, 108, 111, 98, 97, 108], [118, 97, 114], [105, 102], [101, 108, 115, 101], [119, 104, 105, 108, 101], [114, 101, 116, 117, 114, 110], [112, 114, 105, 110, 116], [99, 97, 108, 108], [114, 101, 97, 100]]
def signsL : List Bt := [[40], [41], [123], [125], [91], [93], [44], [59], [61], [43], [45], [42], [47], [37], [60], [60, 61], [61, 61], [33, 61], [38, 38], [124, 124], [33], [38]]
def isW (l : Bt) : Bool := wordsL.contains l
def isS (l : Bt) : Bool := signsL.contains l
abbrev st (l : Bt) : ByteArray := ⟨l.toArray⟩
theorem st_data (s : ByteArray) : st s.data.toList = s := by cases s; rfl
theorem st_size (l : Bt) : (st l).size = l.length := rfl
theorem st_len (s : ByteArray) : s.data.toList.length = s.size := rfl
theorem st_get (s : ByteArray) (k : Nat) (h : k < s.size) : s.data.toList[k]? = some s[k] := by
 have h2 : k < s.data.toList.length := h
 rw [List.getElem?_eq_getElem h2]
 rfl
theorem st_ext (s : ByteArray) (i j : Nat) : s.extract i j = st ((s.data.toList.take j).drop i) := by
 have h : (s.extract i j).data.toList = (s.data.toList.take j).drop i := by
  rw [ByteArray.data_extract, Array.toList_extract, List.extract_eq_take_drop, List.drop_take]
 rw [← h, st_data]
theorem st_inj {a b : Bt} (h : st a = st b) : a = b := by
 have := congrArg (fun s : ByteArray => s.data.toList) h
 simpa using this
def run (p : UInt8 → Bool) (l : Bt) : Bt := l.takeWhile p
theorem run_len (p : UInt8 → Bool) (l : Bt) : (run p l).length ≤ l.length := by
 induction l with
 | nil => exact Nat.le_refl _
 | cons x l ih =>
  unfold run at ih ⊢
  rw [List.takeWhile_cons]
  split
  ·simp; exact ih
  ·simp
theorem run_at {p : UInt8 → Bool} {l : Bt} {k : Nat} (h : ∀ j, j < k → ∃ b, l[j]? = some b ∧ p b = true) : ∀ b, l[k]? = some b → p b = false → run p l = l.take k := by
 induction k generalizing l with
 | zero =>
  intro b hb hp
  cases l with
  | nil => rfl
  | cons x l => simp at hb; subst hb; simp [run, hp]
 | succ k ih =>
  intro b hb hp
  cases l with
  | nil => simp at hb
  | cons x l =>
   obtain ⟨y, hy, hpy⟩ := h 0 (by omega)
   simp at hy
   subst hy
   have := ih (l := l) (fun j hj => by have := h (j + 1) (by omega); simpa using this) b (by simpa using hb) hp
   unfold run at this ⊢
   rw [List.takeWhile_cons, hpy, List.take_succ_cons, if_pos rfl, this]
theorem run_all {p : UInt8 → Bool} {l : Bt} (h : ∀ j, j < l.length → ∃ b, l[j]? = some b ∧ p b = true) : run p l = l := by
 induction l with
 | nil => rfl
 | cons x l ih =>
  obtain ⟨y, hy, hpy⟩ := h 0 (by simp)
  simp at hy
  subst hy
  have := ih (fun j hj => by have := h (j + 1) (by simp; omega); simpa using this)
  unfold run at this ⊢
  rw [List.takeWhile_cons, hpy, if_pos rfl, this]
end Go.Proofs.YtpcdinelpfbpfaaDoor
namespace Go.Proofs.YtpcdinelpfbpfaaDoor
open Go.ChangeShapes Go.WideShapes Go.ChangeAt Go.RowKit
set_option linter.unusedVariables false
set_option linter.unusedSimpArgs false

set_option maxHeartbeats 1000000 in
theorem letter_n (n : Nat) (w : World) : Calls Tryd.prog 32 #[.int .u8 (n : Int)] w fun e w' => e = .returned (.bool (decide (97 ≤ n ∧ n ≤ 122) || decide (65 ≤ n ∧ n ≤ 90))) ∧ w' = w := by
 by_cases h1 : 97 ≤ n
 ·by_cases h2 : n ≤ 122
  ·have d1 : decide ((97 : Int) ≤ (n : Int)) = true := by rw [decide_eq_true_iff]; omega
   have d2 : decide ((n : Int) ≤ 122) = true := by rw [decide_eq_true_iff]; omega
   have HE : Hid ((decide (97 ≤ n ∧ n ≤ 122) || decide (65 ≤ n ∧ n ≤ 90)) = true) := Lib.hid (by simp [h1, h2])
   clear h1 h2
   go_enter Tryd.func32, Tryd.ntmps32
   go_wp2
   go_ret
   exact ⟨by rw [HE.out]; rfl, rfl⟩
  ·have d1 : decide ((97 : Int) ≤ (n : Int)) = true := by rw [decide_eq_true_iff]; omega
   have d2 : decide ((n : Int) ≤ 122) = false := by rw [decide_eq_false_iff_not]; omega
   have d3 : decide ((65 : Int) ≤ (n : Int)) = true := by rw [decide_eq_true_iff]; omega
   have d4 : decide ((n : Int) ≤ 90) = false := by rw [decide_eq_false_iff_not]; omega
   have HE : Hid ((decide (97 ≤ n ∧ n ≤ 122) || decide (65 ≤ n ∧ n ≤ 90)) = false) := Lib.hid (by simp; omega)
   clear h1 h2
   go_enter Tryd.func32, Tryd.ntmps32
   go_wp2
   go_ret
   exact ⟨by rw [HE.out]; rfl, rfl⟩
 ·have d1 : decide ((97 : Int) ≤ (n : Int)) = false := by rw [decide_eq_false_iff_not]; omega
  by_cases h3 : 65 ≤ n
  ·have d3 : decide ((65 : Int) ≤ (n : Int)) = true := by rw [decide_eq_true_iff]; omega
   have HE : Hid ((decide (97 ≤ n ∧ n ≤ 122) || decide (65 ≤ n ∧ n ≤ 90)) = decide ((n : Int) ≤ 90)) := Lib.hid (by
    have : decide ((n : Int) ≤ 90) = decide (n ≤ 90) := by rw [decide_eq_decide]; omega
    rw [this]; simp [h1, h3])
   clear h1 h3
   go_enter Tryd.func32, Tryd.ntmps32
   go_wp2
   go_ret
   exact ⟨by rw [HE.out]; simp, rfl⟩
  ·have d3 : decide ((65 : Int) ≤ (n : Int)) = false := by rw [decide_eq_false_iff_not]; omega
   have HE : Hid ((decide (97 ≤ n ∧ n ≤ 122) || decide (65 ≤ n ∧ n ≤ 90)) = false) := Lib.hid (by simp [h1, h3])
   clear h1 h3
   go_enter Tryd.func32, Tryd.ntmps32
   go_wp2
   go_ret
   exact ⟨by rw [HE.out]; rfl, rfl⟩
theorem letter_any (b : UInt8) (w : World) : Calls Tryd.prog 32 #[.int .u8 (b.toNat : Int)] w fun e w' => e = .returned (.bool (lt8 b)) ∧ w' = w := letter_n b.toNat w
theorem digit_n (n : Nat) (w : World) : Calls Tryd.prog 35 #[.int .u8 (n : Int)] w fun e w' => e = .returned (.bool (decide (48 ≤ n ∧ n ≤ 57))) ∧ w' = w := by
 by_cases h1 : 48 ≤ n
 ·have d1 : decide ((48 : Int) ≤ (n : Int)) = true := by rw [decide_eq_true_iff]; omega
  have HE : Hid (decide (48 ≤ n ∧ n ≤ 57) = decide ((n : Int) ≤ 57)) := Lib.hid (by rw [decide_eq_decide]; omega)
  clear h1
  go_enter Tryd.func35, Tryd.ntmps35
  go_wp2
  go_ret
  exact ⟨by rw [HE.out]; simp, rfl⟩
 ·have d1 : decide ((48 : Int) ≤ (n : Int)) = false := by rw [decide_eq_false_iff_not]; omega
  have HE : Hid (decide (48 ≤ n ∧ n ≤ 57) = false) := Lib.hid (by simp [h1])
  clear h1
  go_enter Tryd.func35, Tryd.ntmps35
  go_wp2
  go_ret
  exact ⟨by rw [HE.out]; rfl, rfl⟩
theorem digit_any (b : UInt8) (w : World) : Calls Tryd.prog 35 #[.int .u8 (b.toNat : Int)] w fun e w' => e = .returned (.bool (dg8 b)) ∧ w' = w := digit_n b.toNat w
theorem inner_any (b : UInt8) (w : World) : Calls Tryd.prog 33 #[.int .u8 (b.toNat : Int)] w fun e w' => e = .returned (.bool (in8 b)) ∧ w' = w := by
 have HL := Lib.hid (letter_any b)
 have HD := Lib.hid (digit_any b)
 cases h1 : lt8 b
 ·cases h2 : dg8 b
  ·have HE : Hid (in8 b = decide (b.toNat = 95)) := Lib.hid (by unfold in8; rw [h1, h2]; rfl)
   go_enter Tryd.func33, Tryd.ntmps33
   go_wp2_with fail
   refine (HL.out _).mono ?_
   rintro e w1 ⟨rfl, rfl⟩
   rw [h1]
   go_wp2_with fail
   refine (HD.out _).mono ?_
   rintro e w1 ⟨rfl, rfl⟩
   rw [h2]
   go_wp2_with fail
   go_ret
   refine ⟨?_, rfl⟩
   rw [HE.out]
   have : ((b.toNat : Int) == 95) = decide (b.toNat = 95) := by rw [Bool.eq_iff_iff]; simp; omega
   simp [this]
  ·have HE : Hid (in8 b = true) := Lib.hid (by unfold in8; rw [h1, h2]; rfl)
   go_enter Tryd.func33, Tryd.ntmps33
   go_wp2_with fail
   refine (HL.out _).mono ?_
   rintro e w1 ⟨rfl, rfl⟩
   rw [h1]
   go_wp2_with fail
   refine (HD.out _).mono ?_
   rintro e w1 ⟨rfl, rfl⟩
   rw [h2]
   go_wp2_with fail
   go_ret
   exact ⟨by rw [HE.out]; rfl, rfl⟩
 ·have HE : Hid (in8 b = true) := Lib.hid (by unfold in8; rw [h1]; rfl)
  go_enter Tryd.func33, Tryd.ntmps33
  go_wp2_with fail
  refine (HL.out _).mono ?_
  rintro e w1 ⟨rfl, rfl⟩
  rw [h1]
  go_wp2_with fail
  go_ret
  exact ⟨by rw [HE.out]; rfl, rfl⟩
def nl8 (b : UInt8) : Bool := !decide (b.toNat = 10)
theorem nonl_any (b : UInt8) (w : World) : Calls Tryd.prog 22 #[.int .u8 (b.toNat : Int)] w fun e w' => e = .returned (.bool (nl8 b)) ∧ w' = w := by
 have HE : Hid (nl8 b = ((b.toNat : Int) != 10)) := Lib.hid (by unfold nl8; rw [Bool.eq_iff_iff]; simp; omega)
 go_enter Tryd.func22, Tryd.ntmps22
 go_wp2
 go_ret
 exact ⟨by rw [HE.out]; rfl, rfl⟩
theorem run_inner (s : ByteArray) (hs : s.size ≤ 9223372036854775806) (w : World) : Calls Tryd.prog 21 #[.string s, .func (.func 33) #[] #[]] w fun e w' => e = .returned (.string (st (run in8 s.data.toList))) ∧ w' = w := by
 go_enter Tryd.func21, Tryd.ntmps21
 go_wp2_with fail
 go_loopw [8] (fun v8 wr => ∃ k : Nat, k ≤ s.size ∧ v8 = .int .i64 k ∧ wr = w ∧ Hid (∀ j, j < k → ∃ b, s.data.toList[j]? = some b ∧ in8 b = true)) (fun v _ => s.size - (intOf v).toNat)
 case atStart => exact ⟨0, by omega, rfl, rfl, Lib.hid (fun j hj => absurd hj (by omega))⟩
 case round =>
  obtain ⟨k, hk, rfl, rfl, HA⟩ := hrel
  by_cases hlt : k < s.size
  ·have HG := Lib.hid (st_get s k hlt)
   go_wp2_with fail
   refine (inner_any _ _).mono ?_
   rintro e w1 ⟨rfl, rfl⟩
   obtain ⟨b, hb⟩ : ∃ b, s[k] = b := ⟨_, rfl⟩
   have HB := Lib.hid hb
   rw [hb] at HG ⊢
   clear hb
   cases hz : in8 b
   ·have HZ := Lib.hid hz
    have HR := Lib.hid (run_at HA.out b HG.out hz)
    clear hz
    go_wp2_with fail
    go_ret
    exact ⟨by rw [HR.out, st_ext]; simp, rfl⟩
   ·have HN : Hid (∀ j, j < k + 1 → ∃ b, s.data.toList[j]? = some b ∧ in8 b = true) := Lib.hid (fun j hj => by
     by_cases e : j = k
     ·subst e; exact ⟨b, HG.out, hz⟩
     ·exact HA.out j (by omega))
    clear hz
    go_wp2_with fail
    go_roundw
    case rel => exact ⟨k + 1, by omega, by go_num, by first | rfl | trivial, HN⟩
    case measure => simp [intOf]; omega
  ·obtain rfl : k = s.size := by omega
   have HR := Lib.hid (run_all (p := in8) (l := s.data.toList) HA.out)
   go_wp2_with fail
   go_ret
   exact ⟨by rw [HR.out, st_data]; rfl, rfl⟩
theorem run_digit (s : ByteArray) (hs : s.size ≤ 9223372036854775806) (w : World) : Calls Tryd.prog 21 #[.string s, .func (.func 35) #[] #[]] w fun e w' => e = .returned (.string (st (run dg8 s.data.toList))) ∧ w' = w := by
 go_enter Tryd.func21, Tryd.ntmps21
 go_wp2_with fail
 go_loopw [8] (fun v8 wr => ∃ k : Nat, k ≤ s.size ∧ v8 = .int .i64 k ∧ wr = w ∧ Hid (∀ j, j < k → ∃ b, s.data.toList[j]? = some b ∧ dg8 b = true)) (fun v _ => s.size - (intOf v).toNat)
 case atStart => exact ⟨0, by omega, rfl, rfl, Lib.hid (fun j hj => absurd hj (by omega))⟩
 case round =>
  obtain ⟨k, hk, rfl, rfl, HA⟩ := hrel
  by_cases hlt : k < s.size
  ·have HG := Lib.hid (st_get s k hlt)
   go_wp2_with fail
   refine (digit_any _ _).mono ?_
   rintro e w1 ⟨rfl, rfl⟩
   obtain ⟨b, hb⟩ : ∃ b, s[k] = b := ⟨_, rfl⟩
   have HB := Lib.hid hb
   rw [hb] at HG ⊢
   clear hb
   cases hz : dg8 b
   ·have HZ := Lib.hid hz
    have HR := Lib.hid (run_at HA.out b HG.out hz)
    clear hz
    go_wp2_with fail
    go_ret
    exact ⟨by rw [HR.out, st_ext]; simp, rfl⟩
   ·have HN : Hid (∀ j, j < k + 1 → ∃ b, s.data.toList[j]? = some b ∧ dg8 b = true) := Lib.hid (fun j hj => by
     by_cases e : j = k
     ·subst e; exact ⟨b, HG.out, hz⟩
     ·exact HA.out j (by omega))
    clear hz
    go_wp2_with fail
    go_roundw
    case rel => exact ⟨k + 1, by omega, by go_num, by first | rfl | trivial, HN⟩
    case measure => simp [intOf]; omega
  ·obtain rfl : k = s.size := by omega
   have HR := Lib.hid (run_all (p := dg8) (l := s.data.toList) HA.out)
   go_wp2_with fail
   go_ret
   exact ⟨by rw [HR.out, st_data]; rfl, rfl⟩
theorem run_nonl (s : ByteArray) (hs : s.size ≤ 9223372036854775806) (w : World) : Calls Tryd.prog 21 #[.string s, .func (.func 22) #[] #[]] w fun e w' => e = .returned (.string (st (run nl8 s.data.toList))) ∧ w' = w := by
 go_enter Tryd.func21, Tryd.ntmps21
 go_wp2_with fail
 go_loopw [8] (fun v8 wr => ∃ k : Nat, k ≤ s.size ∧ v8 = .int .i64 k ∧ wr = w ∧ Hid (∀ j, j < k → ∃ b, s.data.toList[j]? = some b ∧ nl8 b = true)) (fun v _ => s.size - (intOf v).toNat)
 case atStart => exact ⟨0, by omega, rfl, rfl, Lib.hid (fun j hj => absurd hj (by omega))⟩
 case round =>
  obtain ⟨k, hk, rfl, rfl, HA⟩ := hrel
  by_cases hlt : k < s.size
  ·have HG := Lib.hid (st_get s k hlt)
   go_wp2_with fail
   refine (nonl_any _ _).mono ?_
   rintro e w1 ⟨rfl, rfl⟩
   obtain ⟨b, hb⟩ : ∃ b, s[k] = b := ⟨_, rfl⟩
   have HB := Lib.hid hb
   rw [hb] at HG ⊢
   clear hb
   cases hz : nl8 b
   ·have HZ := Lib.hid hz
    have HR := Lib.hid (run_at HA.out b HG.out hz)
    clear hz
    go_wp2_with fail
    go_ret
    exact ⟨by rw [HR.out, st_ext]; simp, rfl⟩
   ·have HN : Hid (∀ j, j < k + 1 → ∃ b, s.data.toList[j]? = some b ∧ nl8 b = true) := Lib.hid (fun j hj => by
     by_cases e : j = k
     ·subst e; exact ⟨b, HG.out, hz⟩
     ·exact HA.out j (by omega))
    clear hz
    go_wp2_with fail
    go_roundw
    case rel => exact ⟨k + 1, by omega, by go_num, by first | rfl | trivial, HN⟩
    case measure => simp [intOf]; omega
  ·obtain rfl : k = s.size := by omega
   have HR := Lib.hid (run_all (p := nl8) (l := s.data.toList) HA.out)
   go_wp2_with fail
   go_ret
   exact ⟨by rw [HR.out, st_data]; rfl, rfl⟩
end Go.Proofs.YtpcdinelpfbpfaaDoor
namespace Go.Proofs.YtpcdinelpfbpfaaDoor
open Go.ChangeShapes Go.WideShapes Go.ChangeAt Go.RowKit
set_option linter.unusedVariables false
set_option linter.unusedSimpArgs false

theorem toList_bytes (s : ByteArray) : s.toList = s.data.toList := ByteArray.toList_eq s
set_option maxHeartbeats 1000000 in
theorem Word_any (s : ByteArray) (w : World) : Calls Tryd.prog 34 #[.string s] w fun e w' => e = .returned (.bool (isW s.data.toList)) ∧ w' = w := by
 rw [← toList_bytes]
 go_enter Tryd.func34, Tryd.ntmps34
 go_wp2
 all_goals first
  | (exfalso; simp_all; done)
  | (go_ret; refine ⟨?_, rfl⟩; simp_all [isW, wordsL])
set_option maxHeartbeats 1000000 in
theorem Sign_any (s : ByteArray) (w : World) : Calls Tryd.prog 38 #[.string s] w fun e w' => e = .returned (.bool (isS s.data.toList)) ∧ w' = w := by
 rw [← toList_bytes]
 go_enter Tryd.func38, Tryd.ntmps38
 go_wp2
 all_goals first
  | (exfalso; simp_all; done)
  | (go_ret; refine ⟨?_, rfl⟩; simp_all [isS, signsL])
theorem Word_st (l : Bt) (w : World) : Calls Tryd.prog 34 #[.string (st l)] w fun e w' => e = .returned (.bool (isW l)) ∧ w' = w := by
 have := Word_any (st l) w
 simpa using this
theorem Sign_st (l : Bt) (w : World) : Calls Tryd.prog 38 #[.string (st l)] w fun e w' => e = .returned (.bool (isS l)) ∧ w' = w := by
 have := Sign_any (st l) w
 simpa using this
end Go.Proofs.YtpcdinelpfbpfaaDoor
namespace Go.Proofs.YtpcdinelpfbpfaaDoor
open Go.ChangeShapes Go.WideShapes Go.ChangeAt Go.RowKit
set_option linter.unusedVariables false
section
variable {P : Program} {ops : Array Oper} {Q : Exit → Act → World → Prop} {md : Region.Mode} {S : World → Prop}
theorem wpAnyH_takeD {i : Nat} {oi : Oper} {d : Option Tmp} {v : Value} {fuel : Nat} {listed : Array Bool} {a : Act} {w : World} (hi : ops[i]? = some oi) (hd : oi.dst = d)
  (hs : Region.noSelect ops = true) (hf : Region.free md ops listed i = true) (hr : (Region.ready md ops listed).contains i = true)
  (hQ : ∀ c a w, Q (.panic c) (a.put d v) w → Q (.panic c) a w) (hy : YieldsIf P ops S oi v a) (hS : S w)
  (h : wpAnyH P md ops Q S fuel (listed.setIfInBounds i true) (a.put d v) w) : wpAnyH P md ops Q S (fuel + 1) listed a w := by
 subst hd; exact wpAnyH_take hi hs hf hr hQ hy hS h
theorem tkH (i d : Nat) {oi : Oper} {v : Value} {fuel : Nat} {listed : Array Bool} {a a2 : Act} {w : World} (h : wpAnyH P md ops Q S fuel (listed.setIfInBounds i true) a2 w)
  (hi : ops[i]? = some oi := by rfl) (hd : oi.dst = some d := by kernel_rfl) (hs : Region.noSelect ops = true := by kernel_rfl) (hf : Region.free md ops listed i = true := by kernel_rfl) (hr : (Region.ready md ops listed).contains i = true := by kernel_rfl)
  (hQ : ∀ c a w, Q (.panic c) (a.put (some d) v) w → Q (.panic c) a w := by exact fun _ _ _ h => h) (hw : Region.wanted oi (yielded ops a.tmps) = true := by kernel_rfl)
  (hy : ∀ w, S w → (execOp a.eval oi).run P w = .ok (.value v) w := by (intro w hSw; (try dsimp only at hSw); go_simp; try with_reducible rfl)) (hS : S w := by assumption) (ha : a.put (some d) v = a2 := by (first | (simp only [Act.put, List.setIfInBounds_toArray, List.set_cons_zero, List.set_cons_succ]; done) | (simp only [Act.put, List.setIfInBounds_toArray, List.set_cons_zero, List.set_cons_succ]; rfl) | rfl)) : wpAnyH P md ops Q S (fuel + 1) listed a w := by
 subst ha; exact wpAnyH_takeD hi hd hs hf hr hQ (Or.inl ⟨hw, hy⟩) hS h
theorem tkU (i d : Nat) {oi : Oper} {fuel : Nat} {listed : Array Bool} {a a2 : Act} {w : World} (h : wpAnyH P md ops Q S fuel (listed.setIfInBounds i true) a2 w)
  (hi : ops[i]? = some oi := by rfl) (hd : oi.dst = some d := by kernel_rfl) (hs : Region.noSelect ops = true := by kernel_rfl) (hf : Region.free md ops listed i = true := by kernel_rfl) (hr : (Region.ready md ops listed).contains i = true := by kernel_rfl)
  (hQ : ∀ c a w, Q (.panic c) (a.put (some d) undef) w → Q (.panic c) a w := by exact fun _ _ _ h => h) (hw : Region.wanted oi (yielded ops a.tmps) = false := by kernel_rfl) (hS : S w := by assumption) (ha : a.put (some d) undef = a2 := by (first | (simp only [Act.put, List.setIfInBounds_toArray, List.set_cons_zero, List.set_cons_succ]; done) | (simp only [Act.put, List.setIfInBounds_toArray, List.set_cons_zero, List.set_cons_succ]; rfl) | rfl)) : wpAnyH P md ops Q S (fuel + 1) listed a w := by
 subst ha; exact wpAnyH_takeD hi hd hs hf hr hQ (Or.inr ⟨hw, rfl⟩) hS h
theorem rdH (i : Nat) {o : Oper} {fuel : Nat} {listed : Array Bool} {a : Act} {w : World}
  (h : ∀ K' : Act → World → Prop, Shut (∀ a w, S w → (S w → wpAnyH P md ops Q S fuel (listed.setIfInBounds i true) a w) → K' a w) → if Region.wanted o (yielded ops a.tmps) = true then Oper.wp P o a w K' Q else K' (a.put o.dst undef) w)
  (hr : Region.ready md ops listed = [i] := by kernel_rfl) (ho : ops[i]? = some o := by rfl) : wpAnyH P md ops Q S (fuel + 1) listed a w := wpAnyH_ready hr (by simp) (AllReadyH.cons ho h AllReadyH.nil)
theorem goH {fuel : Nat} {listed : Array Bool} {a a2 : Act} {w : World} {K : Act → World → Prop} (hK : Shut (∀ a w, S w → (S w → wpAnyH P md ops Q S fuel listed a w) → K a w)) (hs : S w) (h : S w → wpAnyH P md ops Q S fuel listed a2 w) (ha : a = a2 := by (first | (simp only [Act.put, List.setIfInBounds_toArray, List.set_cons_zero, List.set_cons_succ]; done) | (simp only [Act.put, List.setIfInBounds_toArray, List.set_cons_zero, List.set_cons_succ]; rfl) | rfl)) : K a w := by
 subst ha; exact hK.out _ _ hs h
end
theorem grownBy_of_below {w w' : World} (h : Below w.heap.size w w') (r : Option Nat) : w.grownBy w' r := ⟨h.os, h.tape, h.output, h.size, fun k hk _ => h.block k hk⟩
theorem heap_lt {w : World} {k : Nat} {o : Obj} (h : w.heap[k]? = some o) : k < w.heap.size := (Array.getElem?_eq_some_iff.1 h).1
theorem cell_mk (w : World) (cs : Array Value) (t : TypeId) {b o : Nat} {v : Value} (hb : b = w.heap.size) (hv : cs[o]? = some v) : (w.alloc (.cells cs t)).cell? ⟨b, o, none⟩ = some v := by
 subst hb; rw [cell_of_row _ _ o _ _ _ (heap_alloc_new w _)]; exact hv
theorem cell_ml {w : World} (ob : Obj) {b o : Nat} {v : Value} (h : w.cell? ⟨b, o, none⟩ = some v) : (w.alloc ob).cell? ⟨b, o, none⟩ = some v :=
 (((Below.refl w.heap.size w).alloc (Nat.le_refl _) ob).cell (p := ⟨b, o, none⟩) (block_lt_of_cell h)).trans h
theorem own_below {w w' : World} {base e k n : Nat} {v : Value} {l : List Value} (h : w.ownsRow base e k v n l) (hb : Below w.heap.size w w') : w'.ownsRow base e k v n l :=
 h.kept (grownBy_of_below hb none) (by cases hq : v.ownBlock with | none => exact .inl rfl | some k => exact .inr (by simp))
theorem cell_setn {w : World} {b b' o o' : Nat} (v : Value) {u : Value} (hne : b ≠ b') (h : w.cell? ⟨b', o', none⟩ = some u) : (w.setCell ⟨b, o, none⟩ v).cell? ⟨b', o', none⟩ = some u :=
 (World.cell?_of_block (a := ⟨b', o', none⟩) (heap_setCell_other w ⟨b, o, none⟩ b' v (fun e => hne e.symm))).trans h
abbrev set4 (w : World) (b : Nat) (v0 v1 v2 v3 : Value) : World := (((w.setCell ⟨b, 0, none⟩ v0).setCell ⟨b, 1, none⟩ v1).setCell ⟨b, 2, none⟩ v2).setCell ⟨b, 3, none⟩ v3
theorem cell_set4 {w : World} {b b' o' : Nat} {v0 v1 v2 v3 u : Value} (hne : b ≠ b') (h : w.cell? ⟨b', o', none⟩ = some u) : (set4 w b v0 v1 v2 v3).cell? ⟨b', o', none⟩ = some u :=
 cell_setn _ hne (cell_setn _ hne (cell_setn _ hne (cell_setn _ hne h)))
theorem heap_set4 {w : World} {b : Nat} {u0 u1 u2 u3 v0 v1 v2 v3 : Value} {t : TypeId} (h : w.heap[b]? = some (.cells #[u0, u1, u2, u3] t (0, 0))) : (set4 w b v0 v1 v2 v3).heap[b]? = some (.cells #[v0, v1, v2, v3] t (0, 0)) :=
 heap_setCell_same _ b 3 _ _ v3 (heap_setCell_same _ b 2 _ _ v2 (heap_setCell_same _ b 1 _ _ v1 (heap_setCell_same _ b 0 _ _ v0 h)))
theorem below_set4 {B : Nat} {w0 w : World} {b : Nat} {v0 v1 v2 v3 : Value} (h : Below B w0 w) (hb : B ≤ b) : Below B w0 (set4 w b v0 v1 v2 v3) :=
 (((h.setCell (p := ⟨b, 0, none⟩) hb v0).setCell (p := ⟨b, 1, none⟩) hb v1).setCell (p := ⟨b, 2, none⟩) hb v2).setCell (p := ⟨b, 3, none⟩) hb v3
end Go.Proofs.YtpcdinelpfbpfaaDoor
namespace Go.Proofs.YtpcdinelpfbpfaaDoor
open Go.ChangeShapes Go.WideShapes Go.ChangeAt Go.RowKit
set_option linter.unusedVariables false
set_option linter.unusedSimpArgs false

structure Lad (w : World) : Prop where
 range : ∃ (tp : TypeId) (p : Value), w.var? Tryd.prog "strconv.ErrRange" = some #[.iface tp p]
 syn : ∃ (tp : TypeId) (p : Value), w.var? Tryd.prog "strconv.ErrSyntax" = some #[.iface tp p]
 tab : Lib.TabIs Tryd.prog w "internal/strconv.uint64pow10" .u64 Lib.pow10Tab
theorem g_range : Tryd.prog.globalNamed "strconv.ErrRange" = some 1 := by kernel_rfl
theorem g_syn : Tryd.prog.globalNamed "strconv.ErrSyntax" = some 0 := by kernel_rfl
theorem g_tab : Tryd.prog.globalNamed "internal/strconv.uint64pow10" = some 2 := by kernel_rfl
theorem var_lt {P : Program} {w : World} {n : String} {g : Nat} {cs : Array Value} (hg : P.globalNamed n = some g) (h : w.var? P n = some cs) : g < w.heap.size := by
 unfold World.var? at h
 rw [hg] at h
 simp only [Option.bind_some] at h
 split at h
 ·rename_i hh
  exact (Array.getElem?_eq_some_iff.1 hh).1
 ·cases h
theorem Lad.below {w w' : World} (h : Lad w) (hb : Below w.heap.size w w') : Lad w' := by
 obtain ⟨⟨t1, p1, h1⟩, ⟨t2, p2, h2⟩, h3⟩ := h
 exact ⟨⟨t1, p1, var?_below hb g_range (var_lt g_range h1) h1⟩, ⟨t2, p2, var?_below hb g_syn (var_lt g_syn h2) h2⟩, var?_below hb g_tab (var_lt g_tab h3) h3⟩
def nxI (l : Bt) : Int × Int × Bt × Bool :=
 match l with
 | [] => (4, 0, [], false)
 | b :: r =>
  if lt8 b then (if isW (run in8 l) then 3 else 1, 0, run in8 l, decide ((run in8 l).length ≤ 32))
  else if dg8 b then
   match Lib.atoiAll (run dg8 l) with
   | .ok v => (2, v, run dg8 l, (Lib.itoa v == run dg8 l) && decide ((run in8 l).length = (run dg8 l).length))
   | _ => (2, 0, run dg8 l, false)
  else if 1 < l.length ∧ isS (l.take 2) = true then (4, 0, l.take 2, true)
  else (4, 0, l.take 1, isS (l.take 1))
abbrev tkv (k n v : Int) (t : Bt) : Value := .agg #[.int .i64 k, .int .i64 n, .int .i64 v, .string (st t)]
def TkPost (l : Bt) (w : World) (e : Ending) (w' : World) : Prop := Below w.heap.size w w' ∧ ∃ (k v : Int) (t : Bt) (ok : Bool), e = .returned (.tuple #[tkv k 0 v t, .bool ok]) ∧ (nxI l = (k, v, t, ok) ∨ (ok = false ∧ (nxI l).2.2.2 = false))
theorem Atoi_any (t : Bt) (hl : t.length ≤ 281474976710656) (w : World) (hw : Lad w) : Calls Tryd.prog 36 #[.string (st t)] w fun e w' =>
  ((∃ v, Lib.atoiAll t = .ok v ∧ e = .returned (.tuple #[.int .i64 v, .nilIface])) ∨ (∃ (x : Int) (p : Value), (∀ v, Lib.atoiAll t ≠ .ok v) ∧ e = .returned (.tuple #[.int .i64 x, .iface 111 p]))) ∧ Below w.heap.size w w' := by
 have e0 : (st t).data.toList = t := by simp
 obtain ⟨tr, pr, hr⟩ := hw.range
 obtain ⟨ts, ps, hs⟩ := hw.syn
 cases h : Lib.atoiAll t
 ·rename_i v
  refine (Tryd.strconv_Atoi_ok (st t) (by show t.length ≤ _; omega) v (by rw [e0]; exact h) w).mono ?_
  rintro e w' ⟨rfl, hh⟩
  refine ⟨.inl ⟨v, rfl, rfl⟩, ?_⟩
  rcases hh with rfl | ⟨t', rfl⟩
  ·exact Below.refl _ _
  ·exact Lib.bytesWorld_below _ _ _
 ·refine (Tryd.strconv_Atoi_bad_var (st t) (by show t.length ≤ _; omega) (by rw [e0, h]; intro v e; cases e) (by rw [e0, h]; intro e; cases e) ts ps w hs).mono ?_
  rintro e w' ⟨N, rfl, _, _, hb⟩
  exact ⟨.inr ⟨_, _, (fun v e => by cases e), rfl⟩, hb⟩
 ·refine (Tryd.strconv_Atoi_range_var (st t) (by show t.length ≤ _; omega) (by rw [e0]; exact h) tr pr w hr).mono ?_
  rintro e w' ⟨N, rfl, _, _, hb⟩
  exact ⟨.inr ⟨_, _, (fun v e => by cases e), rfl⟩, hb⟩
theorem Itoa_any (v : Int) (h0 : -9223372036854775808 ≤ v) (h1 : v ≤ 9223372036854775807) (w : World) (hw : Lad w) : Calls Tryd.prog 37 #[.int .i64 v] w fun e w' => e = .returned (.string (st (Lib.itoa v))) ∧ Below w.heap.size w w' := by
 refine (Tryd.strconv_Itoa v h0 h1 w hw.tab).mono ?_
 rintro e w' ⟨rfl, k, os, rfl⟩
 exact ⟨rfl, Lib.below_grow _ _ (Nat.le_refl _) _ _⟩
set_option maxRecDepth 100000 in
set_option maxHeartbeats 4000000 in
theorem next_any (s : ByteArray) (hs : s.size ≤ 281474976710656) (h0 : 0 < s.size) (w : World) (hw : Lad w) : Calls Tryd.prog 23 #[.string s] w (TkPost s.data.toList w) := by
 have hg := st_get s 0 h0
 obtain ⟨b, hb⟩ : ∃ b, s[0] = b := ⟨_, rfl⟩
 rw [hb] at hg
 obtain ⟨r, hl⟩ : ∃ r, s.data.toList = b :: r := by
  cases h : s.data.toList with
  | nil => rw [h] at hg; simp at hg
  | cons x r => rw [h] at hg; simp at hg; subst hg; exact ⟨r, rfl⟩
 have HL := Lib.hid hl
 have HB := Lib.hid hb
 have HW := Lib.hid hw
 clear hg hw
 have HR1 : Hid (∀ W, Calls Tryd.prog 21 #[.string s, .func (.func 33) #[] #[]] W fun e w' => e = .returned (.string (st (run in8 s.data.toList))) ∧ w' = W) := Lib.hid (fun W => run_inner s (by omega) W)
 cases h1 : lt8 b
 ·have H1 := Lib.hid h1
  cases h2 : dg8 b
  ·have H2 := Lib.hid h2
   have h1s : (1 : Int) ≤ (s.size : Int) := by omega
   have hx2 : s.extract 0 2 = st (s.data.toList.take 2) := by rw [st_ext]; simp
   have hx1 : s.extract 0 1 = st (s.data.toList.take 1) := by rw [st_ext]; simp
   have HE : Hid (nxI s.data.toList = (if 1 < s.data.toList.length ∧ isS (s.data.toList.take 2) = true then (4, 0, s.data.toList.take 2, true) else (4, 0, s.data.toList.take 1, isS (s.data.toList.take 1)))) := Lib.hid (by
    rw [hl]; show (if lt8 b then _ else _) = _; rw [h1]; simp only [Bool.false_eq_true, if_false]; rw [h2]; simp only [Bool.false_eq_true, if_false])
   clear h1 h2 hl
   have hlen : s.data.toList.length = s.size := rfl
   rw [hlen] at HE
   obtain ⟨t2, ht2⟩ : ∃ t, s.data.toList.take 2 = t := ⟨_, rfl⟩
   obtain ⟨t1, ht1⟩ : ∃ t, s.data.toList.take 1 = t := ⟨_, rfl⟩
   rw [ht2] at hx2 HE
   rw [ht1] at hx1 HE
   clear ht1 ht2 hlen
   have HW2 : Hid (∀ W, W = w.alloc (.cells #[.int .i64 0, .int .i64 0, .int .i64 0, .string { data := #[] }] 56) → Below w.heap.size w W ∧ W.heap[w.heap.size]? = some (.cells #[.int .i64 0, .int .i64 0, .int .i64 0, .string { data := #[] }] 56 (0, 0))) := Lib.hid (fun W hW => by subst hW; exact ⟨(Below.refl _ _).alloc (Nat.le_refl _) _, heap_alloc_new w _⟩)
   by_cases hgo : 1 < s.size ∧ isS t2 = true
   ·obtain ⟨hz1, hz2⟩ := hgo
    have HZ2 := Lib.hid hz2
    have HE2 : Hid (nxI s.data.toList = (4, 0, t2, true)) := Lib.hid (by rw [HE.out, if_pos ⟨hz1, hz2⟩])
    have d1 : decide ((1 : Int) < (s.size : Int)) = true := by rw [decide_eq_true_iff]; omega
    clear hz2
    go_enter Tryd.func23, Tryd.ntmps23
    go_wp2_with fail
    refine (letter_any b _).mono ?_
    rintro e w1 ⟨rfl, rfl⟩
    rw [H1.out]
    go_wp2_with fail
    refine (digit_any b _).mono ?_
    rintro e w1 ⟨rfl, rfl⟩
    rw [H2.out]
    go_upto_region 11 with fail
    obtain ⟨wa, hwa⟩ : ∃ wa, wa = w.alloc (.cells #[.int .i64 0, .int .i64 0, .int .i64 0, .string { data := #[] }] 56) := ⟨_, rfl⟩
    rw [← hwa]
    obtain ⟨hba, hb2⟩ := HW2.out wa hwa
    obtain ⟨g2, hg2⟩ : ∃ g2, w.heap.size = g2 := ⟨_, rfl⟩
    rw [hg2] at hb2 ⊢
    have HBA := Lib.hid hba
    have HG := Lib.hid (Nat.le_of_eq hg2)
    have HB2 := Lib.hid hb2
    clear hwa hba hb2 hg2 HW2
    go_wp2_with fail
    refine (Sign_st t2 _).mono ?_
    rintro e w1 ⟨rfl, hww⟩
    subst hww
    rw [HZ2.out]
    have h2n := HB2.out
    have k0 := cell_of_row _ _ 0 _ _ _ h2n
    have k1 := cell_of_row _ _ 1 _ _ _ h2n
    have k2 := cell_of_row _ _ 2 _ _ _ h2n
    have k3 := cell_of_row _ _ 3 _ _ _ h2n
    have j0 := frozen_of_row _ g2 0 _ _ h2n
    have j1 := frozen_of_row _ g2 1 _ _ h2n
    have j2 := frozen_of_row _ g2 2 _ _ h2n
    have j3 := frozen_of_row _ g2 3 _ _ h2n
    have jl := heap_lt h2n
    go_wp2_with fail
    have hfin := heap_set4 (v0 := .int .i64 4) (v1 := .int .i64 0) (v2 := .int .i64 0) (v3 := .string (st t2)) h2n
    have hbel := below_set4 (v0 := .int .i64 4) (v1 := .int .i64 0) (v2 := .int .i64 0) (v3 := .string (st t2)) (HBA.out) HG.out
    have k0 := cell_of_row _ _ 0 _ _ _ hfin
    have k1 := cell_of_row _ _ 1 _ _ _ hfin
    have k2 := cell_of_row _ _ 2 _ _ _ hfin
    have k3 := cell_of_row _ _ 3 _ _ _ hfin
    have HBEL := Lib.hid hbel
    obtain ⟨wn, hwn⟩ : ∃ wn, set4 w1 g2 (.int .i64 4) (.int .i64 0) (.int .i64 0) (.string (st t2)) = wn := ⟨_, rfl⟩
    have hwn2 := hwn
    unfold set4 at hwn2
    rw [hwn2]
    rw [hwn] at HBEL k0 k1 k2 k3
    clear hwn hwn2 hfin hbel h2n j0 j1 j2 j3 jl
    refine bodyPost_ret (v := .tuple #[tkv 4 0 0 t2, .bool true]) (by simp [results, Tryd.results23, go_sem, k0, k1, k2, k3]) rfl ?_
    exact ⟨HBEL.out, 4, 0, t2, _, rfl, .inl HE2.out⟩
   ·have HE2 : Hid (nxI s.data.toList = (4, 0, t1, isS t1)) := Lib.hid (by rw [HE.out, if_neg hgo])
    by_cases hz1 : 1 < s.size
    ·have HZ2 : Hid (isS t2 = false) := Lib.hid (by cases h : isS t2; rfl; exact absurd ⟨hz1, h⟩ hgo)
     have d1 : decide ((1 : Int) < (s.size : Int)) = true := by rw [decide_eq_true_iff]; omega
     clear hgo
     go_enter Tryd.func23, Tryd.ntmps23
     go_wp2_with fail
     refine (letter_any b _).mono ?_
     rintro e w1 ⟨rfl, rfl⟩
     rw [H1.out]
     go_wp2_with fail
     refine (digit_any b _).mono ?_
     rintro e w1 ⟨rfl, rfl⟩
     rw [H2.out]
     go_upto_region 11 with fail
     obtain ⟨wa, hwa⟩ : ∃ wa, wa = w.alloc (.cells #[.int .i64 0, .int .i64 0, .int .i64 0, .string { data := #[] }] 56) := ⟨_, rfl⟩
     rw [← hwa]
     obtain ⟨hba, hb2⟩ := HW2.out wa hwa
     obtain ⟨g2, hg2⟩ : ∃ g2, w.heap.size = g2 := ⟨_, rfl⟩
     rw [hg2] at hb2 ⊢
     have HBA := Lib.hid hba
     have HG := Lib.hid (Nat.le_of_eq hg2)
     have HB2 := Lib.hid hb2
     clear hwa hba hb2 hg2 HW2
     go_wp2_with fail
     refine (Sign_st t2 _).mono ?_
     rintro e w1 ⟨rfl, hww⟩
     subst hww
     rw [HZ2.out]
     go_upto_region 13 with fail
     refine wp_region_held_drew (S := (fun _ => True)) (by kernel_rfl) trivial (fun hHeld => ?_)
     refine tkH 0 70 ?_
     refine tkH 1 71 ?_
     refine tkH 2 72 ?_
     refine tkH 3 73 ?_
     refine tkH 4 74 ?_
     refine rdH 5 fun K hK => ?_
     go_simp
     refine (Sign_st t1 _).mono ?_
     rintro e wz ⟨rfl, hwz⟩
     refine goH hK trivial fun hHeld => ?_
     clear hK K
     refine rdH 6 fun K hK => ?_
     have h2n : wz.heap[g2]? = some (.cells #[.int .i64 0, .int .i64 0, .int .i64 0, .string { data := #[] }] 56 (0, 0)) := by rw [hwz]; exact HB2.out
     have hbz : Below w.heap.size w wz := by rw [hwz]; exact HBA.out.drew
     have HBZ := Lib.hid hbz
     clear hwz hbz
     have k0 := cell_of_row _ _ 0 _ _ _ h2n
     have k1 := cell_of_row _ _ 1 _ _ _ h2n
     have k2 := cell_of_row _ _ 2 _ _ _ h2n
     have k3 := cell_of_row _ _ 3 _ _ _ h2n
     have j0 := frozen_of_row _ g2 0 _ _ h2n
     have j1 := frozen_of_row _ g2 1 _ _ h2n
     have j2 := frozen_of_row _ g2 2 _ _ h2n
     have j3 := frozen_of_row _ g2 3 _ _ h2n
     have jl := heap_lt h2n
     go_simp
     refine goH hK trivial fun hHeld => ?_
     clear hK K
     refine tkH 7 3 ?_
     refine wpAnyH_done (by kernel_rfl) ?_ _
     (try simp only [Act.put, List.setIfInBounds_toArray, List.set_cons_zero, List.set_cons_succ])
     have hfin := heap_set4 (v0 := .int .i64 4) (v1 := .int .i64 0) (v2 := .int .i64 0) (v3 := .string (st t1)) h2n
     have hbel := below_set4 (v0 := .int .i64 4) (v1 := .int .i64 0) (v2 := .int .i64 0) (v3 := .string (st t1)) (HBZ.out) HG.out
     have k0 := cell_of_row _ _ 0 _ _ _ hfin
     have k1 := cell_of_row _ _ 1 _ _ _ hfin
     have k2 := cell_of_row _ _ 2 _ _ _ hfin
     have k3 := cell_of_row _ _ 3 _ _ _ hfin
     have HBEL := Lib.hid hbel
     obtain ⟨wn, hwn⟩ : ∃ wn, set4 wz g2 (.int .i64 4) (.int .i64 0) (.int .i64 0) (.string (st t1)) = wn := ⟨_, rfl⟩
     have hwn2 := hwn
     unfold set4 at hwn2
     rw [hwn2]
     rw [hwn] at HBEL k0 k1 k2 k3
     clear hwn hwn2 hfin hbel h2n j0 j1 j2 j3 jl
     go_wp2_with fail
     refine bodyPost_ret (v := .tuple #[tkv 4 0 0 t1, .bool (isS t1)]) (by simp [results, Tryd.results23, go_sem, k0, k1, k2, k3]) rfl ?_
     exact ⟨HBEL.out, 4, 0, t1, _, rfl, .inl HE2.out⟩
    ·have d1 : decide ((1 : Int) < (s.size : Int)) = false := by rw [decide_eq_false_iff_not]; omega
     clear hgo
     go_enter Tryd.func23, Tryd.ntmps23
     go_wp2_with fail
     refine (letter_any b _).mono ?_
     rintro e w1 ⟨rfl, rfl⟩
     rw [H1.out]
     go_wp2_with fail
     refine (digit_any b _).mono ?_
     rintro e w1 ⟨rfl, rfl⟩
     rw [H2.out]
     go_upto_region 11 with fail
     obtain ⟨wa, hwa⟩ : ∃ wa, wa = w.alloc (.cells #[.int .i64 0, .int .i64 0, .int .i64 0, .string { data := #[] }] 56) := ⟨_, rfl⟩
     rw [← hwa]
     obtain ⟨hba, hb2⟩ := HW2.out wa hwa
     obtain ⟨g2, hg2⟩ : ∃ g2, w.heap.size = g2 := ⟨_, rfl⟩
     rw [hg2] at hb2 ⊢
     have HBA := Lib.hid hba
     have HG := Lib.hid (Nat.le_of_eq hg2)
     have HB2 := Lib.hid hb2
     clear hwa hba hb2 hg2 HW2
     go_upto_region 13 with fail
     refine wp_region_held_drew (S := (fun _ => True)) (by kernel_rfl) trivial (fun hHeld => ?_)
     refine tkH 0 70 ?_
     refine tkH 1 71 ?_
     refine tkH 2 72 ?_
     refine tkH 3 73 ?_
     refine tkH 4 74 ?_
     refine rdH 5 fun K hK => ?_
     go_simp
     refine (Sign_st t1 _).mono ?_
     rintro e wz ⟨rfl, hwz⟩
     refine goH hK trivial fun hHeld => ?_
     clear hK K
     refine rdH 6 fun K hK => ?_
     have h2n : wz.heap[g2]? = some (.cells #[.int .i64 0, .int .i64 0, .int .i64 0, .string { data := #[] }] 56 (0, 0)) := by rw [hwz]; exact HB2.out
     have hbz : Below w.heap.size w wz := by rw [hwz]; exact HBA.out.drew
     have HBZ := Lib.hid hbz
     clear hwz hbz
     have k0 := cell_of_row _ _ 0 _ _ _ h2n
     have k1 := cell_of_row _ _ 1 _ _ _ h2n
     have k2 := cell_of_row _ _ 2 _ _ _ h2n
     have k3 := cell_of_row _ _ 3 _ _ _ h2n
     have j0 := frozen_of_row _ g2 0 _ _ h2n
     have j1 := frozen_of_row _ g2 1 _ _ h2n
     have j2 := frozen_of_row _ g2 2 _ _ h2n
     have j3 := frozen_of_row _ g2 3 _ _ h2n
     have jl := heap_lt h2n
     go_simp
     refine goH hK trivial fun hHeld => ?_
     clear hK K
     refine tkH 7 3 ?_
     refine wpAnyH_done (by kernel_rfl) ?_ _
     (try simp only [Act.put, List.setIfInBounds_toArray, List.set_cons_zero, List.set_cons_succ])
     have hfin := heap_set4 (v0 := .int .i64 4) (v1 := .int .i64 0) (v2 := .int .i64 0) (v3 := .string (st t1)) h2n
     have hbel := below_set4 (v0 := .int .i64 4) (v1 := .int .i64 0) (v2 := .int .i64 0) (v3 := .string (st t1)) (HBZ.out) HG.out
     have k0 := cell_of_row _ _ 0 _ _ _ hfin
     have k1 := cell_of_row _ _ 1 _ _ _ hfin
     have k2 := cell_of_row _ _ 2 _ _ _ hfin
     have k3 := cell_of_row _ _ 3 _ _ _ hfin
     have HBEL := Lib.hid hbel
     obtain ⟨wn, hwn⟩ : ∃ wn, set4 wz g2 (.int .i64 4) (.int .i64 0) (.int .i64 0) (.string (st t1)) = wn := ⟨_, rfl⟩
     have hwn2 := hwn
     unfold set4 at hwn2
     rw [hwn2]
     rw [hwn] at HBEL k0 k1 k2 k3
     clear hwn hwn2 hfin hbel h2n j0 j1 j2 j3 jl
     go_wp2_with fail
     refine bodyPost_ret (v := .tuple #[tkv 4 0 0 t1, .bool (isS t1)]) (by simp [results, Tryd.results23, go_sem, k0, k1, k2, k3]) rfl ?_
     exact ⟨HBEL.out, 4, 0, t1, _, rfl, .inl HE2.out⟩
  ·have H2 := Lib.hid h2
   have HR2 : Hid (∀ W, Calls Tryd.prog 21 #[.string s, .func (.func 35) #[] #[]] W fun e w' => e = .returned (.string (st (run dg8 s.data.toList))) ∧ w' = W) := Lib.hid (fun W => run_digit s (by omega) W)
   have hrl : (run dg8 s.data.toList).length ≤ s.size := run_len _ _
   have HE : Hid (nxI s.data.toList = (match Lib.atoiAll (run dg8 s.data.toList) with
    | .ok v => (2, v, run dg8 s.data.toList, (Lib.itoa v == run dg8 s.data.toList) && decide ((run in8 s.data.toList).length = (run dg8 s.data.toList).length))
    | _ => (2, 0, run dg8 s.data.toList, false))) := Lib.hid (by
     rw [hl]; show (if lt8 b then _ else _) = _; rw [h1]; simp only [Bool.false_eq_true, if_false]; rw [h2]; simp only [if_true])
   clear h1 h2 hl
   have HRL := Lib.hid hrl
   obtain ⟨t, ht⟩ : ∃ t, run dg8 s.data.toList = t := ⟨_, rfl⟩
   obtain ⟨u, hu⟩ : ∃ u, run in8 s.data.toList = u := ⟨_, rfl⟩
   rw [ht] at HR2 HE hrl HRL
   rw [hu] at HR1 HE
   clear ht hu
   have HAT := Lib.hid (fun W (hW : Lad W) => Atoi_any t (by omega) W hW)
   clear hrl
   go_enter Tryd.func23, Tryd.ntmps23
   go_wp2_with fail
   refine (letter_any b _).mono ?_
   rintro e w1 ⟨rfl, rfl⟩
   rw [H1.out]
   go_wp2_with fail
   refine (digit_any b _).mono ?_
   rintro e w1 ⟨rfl, rfl⟩
   rw [H2.out]
   go_wp2_with fail
   refine (HR2.out _).mono ?_
   rintro e w1 ⟨rfl, rfl⟩
   go_upto_region 8 with fail
   have HZ : Hid (∀ W, W = ((w.alloc (.cells #[.int .i64 0, .int .i64 0, .int .i64 0, .string { data := #[] }] 56)).alloc (.cells #[.int .i64 2, .int .i64 0, .int .i64 0, .string (st t)] 56)) → Below w.heap.size w W ∧ W.heap[w.heap.size]? = some (.cells #[.int .i64 0, .int .i64 0, .int .i64 0, .string { data := #[] }] 56 (0, 0)) ∧ W.heap[w.heap.size + 1]? = some (.cells #[.int .i64 2, .int .i64 0, .int .i64 0, .string (st t)] 56 (0, 0))) := Lib.hid (fun W hW => by
    subst hW
    refine ⟨((Below.refl _ _).alloc (Nat.le_refl _) _).alloc (by simp) _, ?_, ?_⟩
    ·rw [Below.heap_alloc _ _ _ (by simp)]; exact heap_alloc_new w _
    ·have := heap_alloc_new (w.alloc (.cells #[.int .i64 0, .int .i64 0, .int .i64 0, .string { data := #[] }] 56)) (.cells #[.int .i64 2, .int .i64 0, .int .i64 0, .string (st t)] 56)
     simpa using this)
   obtain ⟨wa, hwa⟩ : ∃ wa, wa = ((w.alloc (.cells #[.int .i64 0, .int .i64 0, .int .i64 0, .string { data := #[] }] 56)).alloc (.cells #[.int .i64 2, .int .i64 0, .int .i64 0, .string (st t)] 56)) := ⟨_, rfl⟩
   rw [← hwa]
   obtain ⟨hba, hb2, hb5⟩ := HZ.out wa hwa
   obtain ⟨g5, hg5⟩ : ∃ g5, w.heap.size + 1 = g5 := ⟨_, rfl⟩
   obtain ⟨g2, hg2⟩ : ∃ g2, w.heap.size = g2 := ⟨_, rfl⟩
   rw [hg5] at hb5
   rw [hg2] at hb2
   rw [hg5]
   try rw [hg2]
   have HBA := Lib.hid hba
   have HG : Hid (w.heap.size ≤ g2 ∧ w.heap.size ≤ g5 ∧ g2 ≠ g5) := Lib.hid (by omega)
   have HB2 := Lib.hid hb2
   have HB5 := Lib.hid hb5
   have HLA := Lib.hid (HW.out.below hba)
   have c3 := cell_of_row _ _ 3 _ _ _ hb5
   have cl := heap_lt hb5
   clear hwa hba hb2 hb5 hg5 hg2 HZ
   go_wp2_with fail
   refine (HAT.out wa HLA.out).mono ?_
   rintro e w3 ⟨hat, hb3⟩
   have HBB := Lib.hid (HBA.out.trans (hb3.mono HBA.out.size))
   have h5 : w3.heap[g5]? = _ := (hb3.block g5 cl).trans HB5.out
   have h2 : w3.heap[g2]? = _ := (hb3.block g2 (heap_lt HB2.out)).trans HB2.out
   clear hb3 c3 cl HB5 HB2
   obtain ⟨e0, e1, e2, e3⟩ : w3.cell? ⟨g5, 0, none⟩ = some (.int .i64 2) ∧ w3.cell? ⟨g5, 1, none⟩ = some (.int .i64 0) ∧ w3.cell? ⟨g5, 2, none⟩ = some (.int .i64 0) ∧ w3.cell? ⟨g5, 3, none⟩ = some (.string (st t)) := ⟨cell_of_row _ _ 0 _ _ _ h5, cell_of_row _ _ 1 _ _ _ h5, cell_of_row _ _ 2 _ _ _ h5, cell_of_row _ _ 3 _ _ _ h5⟩
   have z0 := frozen_of_row w3 g5 2 _ _ h5
   have g5l := heap_lt h5
   rcases hat with ⟨v, hv, rfl⟩ | ⟨v, p, hno, rfl⟩
   ·have HV := Lib.hid hv
    clear hv
    have h5' := heap_setCell_same w3 g5 2 _ _ (.int .i64 v) h5
    have h2' : (w3.setCell ⟨g5, 2, none⟩ (.int .i64 v)).heap[g2]? = _ := (heap_setCell_other w3 ⟨g5, 2, none⟩ g2 (.int .i64 v) (fun e => HG.out.2.2 e)).trans h2
    have HBC : Hid (Below w.heap.size w (w3.setCell ⟨g5, 2, none⟩ (.int .i64 v))) := Lib.hid (HBB.out.setCell (by have := HG.out; show w.heap.size ≤ g5; omega) _)
    go_upto_region 10 with fail
    obtain ⟨wb, hwb⟩ : ∃ wb, w3.setCell ⟨g5, 2, none⟩ (.int .i64 v) = wb := ⟨_, rfl⟩
    rw [hwb] at h5' h2' HBC ⊢
    have hbv := Lib.atoiAll_bounds HV.out
    have HIT : Hid (∀ W, Below wb.heap.size wb W → Calls Tryd.prog 37 #[.int .i64 v] W fun e w' => e = .returned (.string (st (Lib.itoa v))) ∧ Below W.heap.size W w') := Lib.hid (fun W hW => Itoa_any v hbv.1 hbv.2 W ((HW.out.below HBC.out).below hW))
    replace e0 := cell_of_row _ _ 0 _ _ _ h5'
    replace e1 := cell_of_row _ _ 1 _ _ _ h5'
    replace e2 := cell_of_row _ _ 2 _ _ _ h5'
    replace e3 := cell_of_row _ _ 3 _ _ _ h5'
    replace g5l := heap_lt h5'
    have H2B := Lib.hid h2'
    clear hwb h5 h2 h5' h2' z0 hbv HBB
    clear w3
    obtain ⟨z, hz⟩ : ∃ z : Bool, (Lib.itoa v == t) = z := ⟨_, rfl⟩
    have HZZ := Lib.hid hz
    cases z
    ·refine wp_region_held_drew (S := (fun w' => w'.cell? ⟨g5, 0, none⟩ = some (.int .i64 2) ∧ w'.cell? ⟨g5, 1, none⟩ = some (.int .i64 0) ∧ w'.cell? ⟨g5, 2, none⟩ = some (.int .i64 v) ∧ w'.cell? ⟨g5, 3, none⟩ = some (.string (st t)))) (by kernel_rfl) ⟨e0, e1, e2, e3⟩ (fun hHeld => ?_)
     refine tkH 0 39 ?_
     refine tkH 1 40 ?_
     refine tkH 2 41 ?_
     refine tkH 3 42 ?_
     refine tkH 4 43 ?_
     refine tkH 6 45 ?_
     refine tkH 7 46 ?_
     refine rdH 5 fun K hK => ?_
     go_simp
     refine (HIT.out _ (Below.refl _ _).drew).mono ?_
     rintro e w8 ⟨rfl, hb8⟩
     have hb9 := (Below.refl wb.heap.size wb).drew.trans (hb8.mono (Nat.le_refl _))
     have HB9 := Lib.hid hb9
     refine goH hK ⟨(hb9.cell (p := ⟨g5, 0, none⟩) g5l).trans e0, (hb9.cell (p := ⟨g5, 1, none⟩) g5l).trans e1, (hb9.cell (p := ⟨g5, 2, none⟩) g5l).trans e2, (hb9.cell (p := ⟨g5, 3, none⟩) g5l).trans e3⟩ fun hHeld => ?_
     clear hK K hb8 hb9
     refine tkH 8 47 ?_
     refine tkH 9 48 ?_
     refine tkH 10 49 ?_
     refine tkU 11 50 ?_
     refine tkU 14 53 ?_
     refine tkU 15 54 ?_
     refine tkU 16 55 ?_
     refine tkU 12 51 ?_
     refine tkU 13 52 ?_
     refine tkU 17 56 ?_
     refine tkH 18 57 ?_
     refine rdH 19 fun K hK => ?_
     have h2n : w8.heap[g2]? = some (.cells #[.int .i64 0, .int .i64 0, .int .i64 0, .string { data := #[] }] 56 (0, 0)) := (HB9.out.block g2 (heap_lt H2B.out)).trans H2B.out
     have k0 := cell_of_row _ _ 0 _ _ _ h2n
     have k1 := cell_of_row _ _ 1 _ _ _ h2n
     have k2 := cell_of_row _ _ 2 _ _ _ h2n
     have k3 := cell_of_row _ _ 3 _ _ _ h2n
     have j0 := frozen_of_row _ g2 0 _ _ h2n
     have j1 := frozen_of_row _ g2 1 _ _ h2n
     have j2 := frozen_of_row _ g2 2 _ _ h2n
     have j3 := frozen_of_row _ g2 3 _ _ h2n
     have jl := heap_lt h2n
     go_simp
     refine goH hK ⟨cell_set4 HG.out.2.2 ((HB9.out.cell (p := ⟨g5, 0, none⟩) g5l).trans e0), cell_set4 HG.out.2.2 ((HB9.out.cell (p := ⟨g5, 1, none⟩) g5l).trans e1), cell_set4 HG.out.2.2 ((HB9.out.cell (p := ⟨g5, 2, none⟩) g5l).trans e2), cell_set4 HG.out.2.2 ((HB9.out.cell (p := ⟨g5, 3, none⟩) g5l).trans e3)⟩ fun hHeld => ?_
     clear hK K
     refine tkH 20 3 ?_
     refine wpAnyH_done (by kernel_rfl) ?_ _
     (try simp only [Act.put, List.setIfInBounds_toArray, List.set_cons_zero, List.set_cons_succ])
     have hfin := heap_set4 (v0 := .int .i64 2) (v1 := .int .i64 0) (v2 := .int .i64 v) (v3 := .string (st t)) h2n
     have hbel := below_set4 (v0 := .int .i64 2) (v1 := .int .i64 0) (v2 := .int .i64 v) (v3 := .string (st t)) (HBC.out.trans (HB9.out.mono HBC.out.size)) HG.out.1
     have k0 := cell_of_row _ _ 0 _ _ _ hfin
     have k1 := cell_of_row _ _ 1 _ _ _ hfin
     have k2 := cell_of_row _ _ 2 _ _ _ hfin
     have k3 := cell_of_row _ _ 3 _ _ _ hfin
     have HBEL := Lib.hid hbel
     obtain ⟨wn, hwn⟩ : ∃ wn, set4 w8 g2 (.int .i64 2) (.int .i64 0) (.int .i64 v) (.string (st t)) = wn := ⟨_, rfl⟩
     have hwn2 := hwn
     unfold set4 at hwn2
     rw [hwn2]
     rw [hwn] at HBEL k0 k1 k2 k3
     clear hwn hwn2 hfin hbel h2n j0 j1 j2 j3 jl hHeld
     go_wp2_with fail
     refine bodyPost_ret (v := .tuple #[tkv 2 0 v t, .bool false]) (by simp [results, Tryd.results23, go_sem, k0, k1, k2, k3]; try (first | omega | (rw [Bool.eq_iff_iff]; simp; omega) | (rw [Bool.eq_iff_iff]; simp))) rfl ?_
     exact ⟨HBEL.out, 2, v, t, _, rfl, .inl (by rw [HE.out, HV.out]; simp [HZZ.out])⟩
    ·refine wp_region_held_drew (S := (fun w' => w'.cell? ⟨g5, 0, none⟩ = some (.int .i64 2) ∧ w'.cell? ⟨g5, 1, none⟩ = some (.int .i64 0) ∧ w'.cell? ⟨g5, 2, none⟩ = some (.int .i64 v) ∧ w'.cell? ⟨g5, 3, none⟩ = some (.string (st t)))) (by kernel_rfl) ⟨e0, e1, e2, e3⟩ (fun hHeld => ?_)
     refine tkH 0 39 ?_
     refine tkH 1 40 ?_
     refine tkH 2 41 ?_
     refine tkH 3 42 ?_
     refine tkH 4 43 ?_
     refine tkH 6 45 ?_
     refine tkH 7 46 ?_
     refine rdH 5 fun K hK => ?_
     go_simp
     refine (HIT.out _ (Below.refl _ _).drew).mono ?_
     rintro e w8 ⟨rfl, hb8⟩
     have hb9 := (Below.refl wb.heap.size wb).drew.trans (hb8.mono (Nat.le_refl _))
     have HB9 := Lib.hid hb9
     refine goH hK ⟨(hb9.cell (p := ⟨g5, 0, none⟩) g5l).trans e0, (hb9.cell (p := ⟨g5, 1, none⟩) g5l).trans e1, (hb9.cell (p := ⟨g5, 2, none⟩) g5l).trans e2, (hb9.cell (p := ⟨g5, 3, none⟩) g5l).trans e3⟩ fun hHeld => ?_
     clear hK K hb8 hb9
     refine tkH 8 47 ?_
     refine tkH 9 48 ?_
     refine tkH 10 49 ?_
     refine tkH 11 50 ?_
     refine tkH 14 53 ?_
     refine tkH 15 54 ?_
     refine tkH 16 55 ?_
     refine rdH 12 fun K hK => ?_
     go_simp
     refine (HR1.out _).mono ?_
     rintro e wz ⟨rfl, rfl⟩
     refine goH hK (by assumption) fun hHeld => ?_
     clear hK K
     refine tkH 13 52 ?_
     refine tkH 17 56 ?_
     refine tkH 18 57 ?_
     refine rdH 19 fun K hK => ?_
     have h2n : wz.heap[g2]? = some (.cells #[.int .i64 0, .int .i64 0, .int .i64 0, .string { data := #[] }] 56 (0, 0)) := (HB9.out.block g2 (heap_lt H2B.out)).trans H2B.out
     have k0 := cell_of_row _ _ 0 _ _ _ h2n
     have k1 := cell_of_row _ _ 1 _ _ _ h2n
     have k2 := cell_of_row _ _ 2 _ _ _ h2n
     have k3 := cell_of_row _ _ 3 _ _ _ h2n
     have j0 := frozen_of_row _ g2 0 _ _ h2n
     have j1 := frozen_of_row _ g2 1 _ _ h2n
     have j2 := frozen_of_row _ g2 2 _ _ h2n
     have j3 := frozen_of_row _ g2 3 _ _ h2n
     have jl := heap_lt h2n
     go_simp
     refine goH hK ⟨cell_set4 HG.out.2.2 ((HB9.out.cell (p := ⟨g5, 0, none⟩) g5l).trans e0), cell_set4 HG.out.2.2 ((HB9.out.cell (p := ⟨g5, 1, none⟩) g5l).trans e1), cell_set4 HG.out.2.2 ((HB9.out.cell (p := ⟨g5, 2, none⟩) g5l).trans e2), cell_set4 HG.out.2.2 ((HB9.out.cell (p := ⟨g5, 3, none⟩) g5l).trans e3)⟩ fun hHeld => ?_
     clear hK K
     refine tkH 20 3 ?_
     refine wpAnyH_done (by kernel_rfl) ?_ _
     (try simp only [Act.put, List.setIfInBounds_toArray, List.set_cons_zero, List.set_cons_succ])
     have hfin := heap_set4 (v0 := .int .i64 2) (v1 := .int .i64 0) (v2 := .int .i64 v) (v3 := .string (st t)) h2n
     have hbel := below_set4 (v0 := .int .i64 2) (v1 := .int .i64 0) (v2 := .int .i64 v) (v3 := .string (st t)) (HBC.out.trans (HB9.out.mono HBC.out.size)) HG.out.1
     have k0 := cell_of_row _ _ 0 _ _ _ hfin
     have k1 := cell_of_row _ _ 1 _ _ _ hfin
     have k2 := cell_of_row _ _ 2 _ _ _ hfin
     have k3 := cell_of_row _ _ 3 _ _ _ hfin
     have HBEL := Lib.hid hbel
     obtain ⟨wn, hwn⟩ : ∃ wn, set4 wz g2 (.int .i64 2) (.int .i64 0) (.int .i64 v) (.string (st t)) = wn := ⟨_, rfl⟩
     have hwn2 := hwn
     unfold set4 at hwn2
     rw [hwn2]
     rw [hwn] at HBEL k0 k1 k2 k3
     clear hwn hwn2 hfin hbel h2n j0 j1 j2 j3 jl hHeld
     go_wp2_with fail
     refine bodyPost_ret (v := .tuple #[tkv 2 0 v t, .bool (decide (u.length = t.length))]) (by simp [results, Tryd.results23, go_sem, k0, k1, k2, k3]; try (first | omega | (rw [Bool.eq_iff_iff]; simp; omega) | (rw [Bool.eq_iff_iff]; simp))) rfl ?_
     exact ⟨HBEL.out, 2, v, t, _, rfl, .inl (by rw [HE.out, HV.out]; simp [HZZ.out])⟩
   ·have HV : Hid (nxI s.data.toList = (2, 0, t, false)) := Lib.hid (by
     rw [HE.out]
     cases h : Lib.atoiAll t
     ·rename_i v; exact absurd h (hno v)
     ·rfl
     ·rfl)
    clear hno
    have h5' := heap_setCell_same w3 g5 2 _ _ (.int .i64 v) h5
    have h2' : (w3.setCell ⟨g5, 2, none⟩ (.int .i64 v)).heap[g2]? = _ := (heap_setCell_other w3 ⟨g5, 2, none⟩ g2 (.int .i64 v) (fun e => HG.out.2.2 e)).trans h2
    have HBC : Hid (Below w.heap.size w (w3.setCell ⟨g5, 2, none⟩ (.int .i64 v))) := Lib.hid (HBB.out.setCell (by have := HG.out; show w.heap.size ≤ g5; omega) _)
    go_upto_region 10 with fail
    obtain ⟨wb, hwb⟩ : ∃ wb, w3.setCell ⟨g5, 2, none⟩ (.int .i64 v) = wb := ⟨_, rfl⟩
    rw [hwb] at h5' h2' HBC ⊢
    replace e0 := cell_of_row _ _ 0 _ _ _ h5'
    replace e1 := cell_of_row _ _ 1 _ _ _ h5'
    replace e2 := cell_of_row _ _ 2 _ _ _ h5'
    replace e3 := cell_of_row _ _ 3 _ _ _ h5'
    replace g5l := heap_lt h5'
    have H2B := Lib.hid h2'
    clear hwb h5 h2 h5' h2' z0 HBB
    clear w3
    refine wp_region_held_drew (S := (fun w' => w'.cell? ⟨g5, 0, none⟩ = some (.int .i64 2) ∧ w'.cell? ⟨g5, 1, none⟩ = some (.int .i64 0) ∧ w'.cell? ⟨g5, 2, none⟩ = some (.int .i64 v) ∧ w'.cell? ⟨g5, 3, none⟩ = some (.string (st t)))) (by kernel_rfl) ⟨e0, e1, e2, e3⟩ (fun hHeld => ?_)
    refine tkH 0 39 ?_
    refine tkH 1 40 ?_
    refine tkH 2 41 ?_
    refine tkH 3 42 ?_
    refine tkU 4 43 ?_
    refine tkU 6 45 ?_
    refine tkU 7 46 ?_
    refine tkU 5 44 ?_
    refine tkU 8 47 ?_
    refine tkH 9 48 ?_
    refine tkH 10 49 ?_
    refine tkU 11 50 ?_
    refine tkU 14 53 ?_
    refine tkU 15 54 ?_
    refine tkU 16 55 ?_
    refine tkU 12 51 ?_
    refine tkU 13 52 ?_
    refine tkU 17 56 ?_
    refine tkH 18 57 ?_
    have hby : Below wb.heap.size wb wb.drew := (Below.refl _ _).drew
    obtain ⟨wy, hwy⟩ : ∃ wy, wb.drew = wy := ⟨_, rfl⟩
    rw [hwy] at hby hHeld ⊢
    have HBY := Lib.hid hby
    clear hwy hby
    refine rdH 19 fun K hK => ?_
    have h2n : wy.heap[g2]? = some (.cells #[.int .i64 0, .int .i64 0, .int .i64 0, .string { data := #[] }] 56 (0, 0)) := (HBY.out.block g2 (heap_lt H2B.out)).trans H2B.out
    have k0 := cell_of_row _ _ 0 _ _ _ h2n
    have k1 := cell_of_row _ _ 1 _ _ _ h2n
    have k2 := cell_of_row _ _ 2 _ _ _ h2n
    have k3 := cell_of_row _ _ 3 _ _ _ h2n
    have j0 := frozen_of_row _ g2 0 _ _ h2n
    have j1 := frozen_of_row _ g2 1 _ _ h2n
    have j2 := frozen_of_row _ g2 2 _ _ h2n
    have j3 := frozen_of_row _ g2 3 _ _ h2n
    have jl := heap_lt h2n
    go_simp
    refine goH hK ⟨cell_set4 HG.out.2.2 ((HBY.out.cell (p := ⟨g5, 0, none⟩) g5l).trans e0), cell_set4 HG.out.2.2 ((HBY.out.cell (p := ⟨g5, 1, none⟩) g5l).trans e1), cell_set4 HG.out.2.2 ((HBY.out.cell (p := ⟨g5, 2, none⟩) g5l).trans e2), cell_set4 HG.out.2.2 ((HBY.out.cell (p := ⟨g5, 3, none⟩) g5l).trans e3)⟩ fun hHeld => ?_
    clear hK K
    refine tkH 20 3 ?_
    refine wpAnyH_done (by kernel_rfl) ?_ _
    (try simp only [Act.put, List.setIfInBounds_toArray, List.set_cons_zero, List.set_cons_succ])
    have hfin := heap_set4 (v0 := .int .i64 2) (v1 := .int .i64 0) (v2 := .int .i64 v) (v3 := .string (st t)) h2n
    have hbel := below_set4 (v0 := .int .i64 2) (v1 := .int .i64 0) (v2 := .int .i64 v) (v3 := .string (st t)) (HBC.out.trans (HBY.out.mono HBC.out.size)) HG.out.1
    have k0 := cell_of_row _ _ 0 _ _ _ hfin
    have k1 := cell_of_row _ _ 1 _ _ _ hfin
    have k2 := cell_of_row _ _ 2 _ _ _ hfin
    have k3 := cell_of_row _ _ 3 _ _ _ hfin
    have HBEL := Lib.hid hbel
    obtain ⟨wn, hwn⟩ : ∃ wn, set4 wy g2 (.int .i64 2) (.int .i64 0) (.int .i64 v) (.string (st t)) = wn := ⟨_, rfl⟩
    have hwn2 := hwn
    unfold set4 at hwn2
    rw [hwn2]
    rw [hwn] at HBEL k0 k1 k2 k3
    clear hwn hwn2 hfin hbel h2n j0 j1 j2 j3 jl hHeld
    go_wp2_with fail
    refine bodyPost_ret (v := .tuple #[tkv 2 0 v t, .bool false]) (by simp [results, Tryd.results23, go_sem, k0, k1, k2, k3]; try (first | omega | (rw [Bool.eq_iff_iff]; simp; omega) | (rw [Bool.eq_iff_iff]; simp))) rfl ?_
    exact ⟨HBEL.out, 2, v, t, _, rfl, .inr ⟨rfl, by rw [HV.out]⟩⟩
 ·have HP : Hid (∀ W (e : Ending), Below w.heap.size w W → e = .returned (.tuple #[tkv (if isW (run in8 s.data.toList) then 3 else 1) 0 0 (run in8 s.data.toList), .bool (decide ((run in8 s.data.toList).length ≤ 32))]) → TkPost s.data.toList w e W) := Lib.hid (fun W e hb he => by
   have e1 : nxI s.data.toList = (if isW (run in8 s.data.toList) then 3 else 1, 0, run in8 s.data.toList, decide ((run in8 s.data.toList).length ≤ 32)) := by
    rw [hl]; show (if lt8 b then _ else _) = _; rw [h1, if_pos rfl]
   exact ⟨hb, _, _, _, _, he, .inl e1⟩)
  have H1 := Lib.hid h1
  clear h1 hl
  obtain ⟨t, ht⟩ : ∃ t, run in8 s.data.toList = t := ⟨_, rfl⟩
  rw [ht] at HP HR1
  clear ht
  go_enter Tryd.func23, Tryd.ntmps23
  go_wp2_with fail
  refine (letter_any b _).mono ?_
  rintro e w1 ⟨rfl, rfl⟩
  rw [H1.out]
  go_wp2_with fail
  refine (HR1.out _).mono ?_
  rintro e w1 ⟨rfl, rfl⟩
  go_wp2_with fail
  refine (Word_st t _).mono ?_
  rintro e w1 ⟨rfl, rfl⟩
  cases hW : isW t
  ·rw [hW] at HP
   clear hW
   go_upto_region 5 with fail
   go_region
   all_goals
    go_wp2
    refine bodyPost_ret (v := .tuple #[tkv 1 0 0 t, .bool (decide (t.length ≤ 32))]) (by simp [results, Tryd.results23, go_sem]; try omega) rfl ?_
    refine HP.out _ _ ?_ (by simp; try omega)
    first
     | exact ((Below.refl _ _).alloc (Nat.le_refl _) _).drew.alloc (by simp) _
     | exact (((Below.refl _ _).alloc (Nat.le_refl _) _).alloc (by simp) _).drew
     | exact (((Below.refl _ _).alloc (Nat.le_refl _) _).alloc (by simp) _)
  ·rw [hW] at HP
   clear hW
   go_upto_region 5 with fail
   go_region
   all_goals
    go_wp2
    refine bodyPost_ret (v := .tuple #[tkv 3 0 0 t, .bool (decide (t.length ≤ 32))]) (by simp [results, Tryd.results23, go_sem]; try omega) rfl ?_
    refine HP.out _ _ ?_ (by simp; try omega)
    first
     | exact ((Below.refl _ _).alloc (Nat.le_refl _) _).drew.alloc (by simp) _
     | exact (((Below.refl _ _).alloc (Nat.le_refl _) _).alloc (by simp) _).drew
     | exact (((Below.refl _ _).alloc (Nat.le_refl _) _).alloc (by simp) _)
end Go.Proofs.YtpcdinelpfbpfaaDoor
namespace Go.Proofs.YtpcdinelpfbpfaaDoor
open Go.ChangeShapes Go.WideShapes Go.ChangeAt Go.RowKit
set_option linter.unusedVariables false
set_option linter.unusedSimpArgs false

structure Tk where
 k : Int
 n : Int
 v : Int
 t : Bt
deriving DecidableEq
abbrev tkc (x : Tk) : List Value := [.int .i64 x.k, .int .i64 x.n, .int .i64 x.v, .string (st x.t)]
def tkcs (l : List Tk) : List Value := l.flatMap tkc
theorem tkcs_len (l : List Tk) : (tkcs l).length = l.length * 4 := by
 induction l with
 | nil => rfl
 | cons s l ih => unfold tkcs at ih ⊢; rw [List.flatMap_cons, List.length_append, ih]; show 4 + _ = (l.length + 1) * 4; omega
theorem tkcs_push (l : List Tk) (x : Tk) : tkcs l ++ tkc x = tkcs (l ++ [x]) := by unfold tkcs; simp
theorem tkcs_get (l : List Tk) (j : Nat) (s : Tk) (h : l[j]? = some s) : (tkcs l)[j * 4]? = some (.int .i64 s.k) ∧ (tkcs l)[j * 4 + 1]? = some (.int .i64 s.n) ∧ (tkcs l)[j * 4 + 2]? = some (.int .i64 s.v) ∧ (tkcs l)[j * 4 + 3]? = some (.string (st s.t)) := by
 induction l generalizing j with
 | nil => simp at h
 | cons x l ih =>
  cases j with
  | zero => simp at h; subst h; exact ⟨rfl, rfl, rfl, rfl⟩
  | succ j =>
   have := ih j (by simpa using h)
   have e1 : (j + 1) * 4 = j * 4 + 1 + 1 + 1 + 1 := by omega
   rw [e1]
   exact this
theorem tkcs_one (l : List Tk) : ∀ u ∈ tkcs l, u.oneCell' = true := by
 intro u hu
 unfold tkcs at hu
 rw [List.mem_flatMap] at hu
 obtain ⟨s, _, hs⟩ := hu
 simp at hs
 rcases hs with rfl | rfl | rfl | rfl <;> rfl
inductive Sc where
 | skip (k : Nat) (d : Int)
 | tok (x : Tk)
 | bad
def stepI (ln : Int) (b : UInt8) (r : Bt) : Sc :=
 if b.toNat = 10 then .skip 1 1
 else if b.toNat = 32 ∨ b.toNat = 9 then .skip 1 0
 else if b.toNat = 35 then .skip (run nl8 (b :: r)).length 0
 else if (nxI (b :: r)).2.2.2 = true then .tok ⟨(nxI (b :: r)).1, ln, (nxI (b :: r)).2.1, (nxI (b :: r)).2.2.1⟩
 else .bad
def scI : Nat → List Tk → Bt → Int → Option (List Tk) × Int
 | _, acc, [], ln => (some (acc ++ [⟨0, ln, 0, []⟩]), 0)
 | 0, _, _ :: _, ln => (none, ln)
 | f + 1, acc, b :: r, ln =>
  match stepI ln b r with
  | .skip k d => scI f acc ((b :: r).drop k) (ln + d)
  | .tok x => scI f (acc ++ [x]) ((b :: r).drop x.t.length) ln
  | .bad => (none, ln)
theorem scI_nil (f : Nat) (acc : List Tk) (ln : Int) : scI f acc [] ln = (some (acc ++ [⟨0, ln, 0, []⟩]), 0) := by cases f <;> rfl
theorem nl_pos (b : UInt8) (r : Bt) (h : b.toNat ≠ 10) : 1 ≤ (run nl8 (b :: r)).length := by
 unfold run
 rw [List.takeWhile_cons, show nl8 b = true by unfold nl8; simp [h], if_pos rfl]
 simp
theorem nx_pos {b : UInt8} {r : Bt} (h : (nxI (b :: r)).2.2.2 = true) : 1 ≤ (nxI (b :: r)).2.2.1.length := by
 have key : ∀ p : UInt8 → Bool, p b = true → 1 ≤ (run p (b :: r)).length := fun p hp => by
  unfold run
  rw [List.takeWhile_cons, hp, if_pos rfl]
  simp
 unfold nxI at h ⊢
 dsimp only at h ⊢
 by_cases h1 : lt8 b = true
 ·rw [if_pos h1] at h ⊢
  exact key in8 (by unfold in8; rw [h1]; rfl)
 ·rw [if_neg h1] at h ⊢
  by_cases h2 : dg8 b = true
  ·rw [if_pos h2] at h ⊢
   have := key dg8 h2
   cases h3 : Lib.atoiAll (run dg8 (b :: r)) <;> first | exact this | (simp at h)
  ·rw [if_neg h2] at h ⊢
   by_cases h3 : 1 < (b :: r).length ∧ isS ((b :: r).take 2) = true
   ·rw [if_pos h3] at h ⊢
    simp [List.length_take]
   ·rw [if_neg h3] at h ⊢
    simp
def scan (l : Bt) : Option (List Tk) × Int := scI l.length [] l 1
theorem scI_fuel : ∀ (f g : Nat) (acc : List Tk) (l : Bt) (ln : Int), l.length ≤ f → l.length ≤ g → scI f acc l ln = scI g acc l ln := by
 intro f
 induction f with
 | zero =>
  intro g acc l ln h1 h2
  cases l with
  | nil => rw [scI_nil, scI_nil]
  | cons b r => simp at h1
 | succ f ih =>
  intro g acc l ln h1 h2
  cases l with
  | nil => rw [scI_nil, scI_nil]
  | cons b r =>
   cases g with
   | zero => simp at h2
   | succ g =>
    simp only [List.length_cons] at h1 h2
    show (match stepI ln b r with | .skip k d => _ | .tok x => _ | .bad => _) = (match stepI ln b r with | .skip k d => _ | .tok x => _ | .bad => _)
    cases hst : stepI ln b r with
    | skip k d =>
     have hk : 1 ≤ k := by
      unfold stepI at hst
      split at hst
      ·injection hst with e1 e2; omega
      ·rename_i hb
       split at hst
       ·injection hst with e1 e2; omega
       ·split at hst
        ·injection hst with e1 e2; subst e1; exact nl_pos b r hb
        ·split at hst <;> cases hst
     exact ih g acc _ _ (by rw [List.length_drop, List.length_cons]; omega) (by rw [List.length_drop, List.length_cons]; omega)
    | tok x =>
     have hk : 1 ≤ x.t.length := by
      unfold stepI at hst
      split at hst
      ·cases hst
      ·split at hst
       ·cases hst
       ·split at hst
        ·cases hst
        ·split at hst
         ·rename_i hok; injection hst with e1; subst e1; exact nx_pos hok
         ·cases hst
     exact ih g _ _ _ (by rw [List.length_drop, List.length_cons]; omega) (by rw [List.length_drop, List.length_cons]; omega)
    | bad => rfl
theorem step_pos {ln : Int} {b : UInt8} {r : Bt} {k : Nat} {d : Int} (hst : stepI ln b r = .skip k d) : 1 ≤ k := by
 unfold stepI at hst
 split at hst
 ·injection hst with e1 e2; omega
 ·rename_i hb
  split at hst
  ·injection hst with e1 e2; omega
  ·split at hst
   ·injection hst with e1 e2; subst e1; exact nl_pos b r hb
   ·split at hst <;> cases hst
theorem nx_le (l : Bt) : (nxI l).2.2.1.length ≤ l.length := by
 cases l with
 | nil => simp [nxI]
 | cons b r =>
  unfold nxI
  dsimp only
  by_cases h1 : lt8 b = true
  ·rw [if_pos h1]; exact run_len _ _
  ·rw [if_neg h1]
   by_cases h2 : dg8 b = true
   ·rw [if_pos h2]
    cases h3 : Lib.atoiAll (run dg8 (b :: r)) <;> exact run_len _ _
   ·rw [if_neg h2]
    by_cases h3 : 1 < (b :: r).length ∧ isS ((b :: r).take 2) = true
    ·rw [if_pos h3]; simp only [List.length_take]; omega
    ·rw [if_neg h3]; simp only [List.length_take]; omega
theorem sc_skip {x y : ByteArray} {acc : List Tk} {ln d : Int} {b : UInt8} {r : Bt} {k : Nat} (hx : x.data.toList = b :: r) (hst : stepI ln b r = .skip k d) (hy : y.data.toList = (b :: r).drop k) :
  scI x.size acc x.data.toList ln = scI y.size acc y.data.toList (ln + d) := by
 have hk := step_pos hst
 have e1 : x.size = r.length + 1 := by rw [← st_len, hx]; rfl
 have e2 : y.size = r.length + 1 - k := by rw [← st_len, hy, List.length_drop]; rfl
 rw [e1, hx]
 show (match stepI ln b r with | .skip k d => _ | .tok x => _ | .bad => _) = _
 rw [hst]
 show scI r.length acc ((b :: r).drop k) (ln + d) = _
 rw [← hy]
 exact scI_fuel _ _ _ _ _ (by rw [st_len]; omega) (by rw [st_len]; omega)
theorem sc_tok {x y : ByteArray} {acc : List Tk} {ln : Int} {b : UInt8} {r : Bt} {z : Tk} (hx : x.data.toList = b :: r) (hst : stepI ln b r = .tok z) (hk : 1 ≤ z.t.length) (hy : y.data.toList = (b :: r).drop z.t.length) :
  scI x.size acc x.data.toList ln = scI y.size (acc ++ [z]) y.data.toList ln := by
 have e1 : x.size = r.length + 1 := by rw [← st_len, hx]; rfl
 have e2 : y.size = r.length + 1 - z.t.length := by rw [← st_len, hy, List.length_drop]; rfl
 rw [e1, hx]
 show (match stepI ln b r with | .skip k d => _ | .tok x => _ | .bad => _) = _
 rw [hst]
 show scI r.length (acc ++ [z]) ((b :: r).drop z.t.length) ln = _
 rw [← hy]
 exact scI_fuel _ _ _ _ _ (by rw [st_len]; omega) (by rw [st_len]; omega)
theorem sc_bad {x : ByteArray} {acc : List Tk} {ln : Int} {b : UInt8} {r : Bt} (hx : x.data.toList = b :: r) (hst : stepI ln b r = .bad) : scI x.size acc x.data.toList ln = (none, ln) := by
 have e1 : x.size = r.length + 1 := by rw [← st_len, hx]; rfl
 rw [e1, hx]
 show (match stepI ln b r with | .skip k d => _ | .tok x => _ | .bad => _) = _
 rw [hst]
theorem ext_end (x : ByteArray) (k : Nat) : (x.extract k x.size).data.toList = x.data.toList.drop k := by
 rw [st_ext]
 simp
 rw [List.take_of_length_le (by rw [st_len]; exact Nat.le_refl _)]
end Go.Proofs.YtpcdinelpfbpfaaDoor
namespace Go.Proofs.YtpcdinelpfbpfaaDoor
open Go.ChangeShapes Go.WideShapes Go.ChangeAt Go.RowKit
set_option linter.unusedVariables false
set_option linter.unusedSimpArgs false

theorem Tryd.infoTok : (Tryd.prog.info? 56).map (fun i => (i.zero, i.size, i.bytes)) = some (some (.agg #[.int .i64 0, .int .i64 0, .int .i64 0, .string ⟨#[]⟩]), 4, 40) := by kernel_rfl
def strLen : Value → Nat
 | .string b => b.size
 | _ => 0
def ScanPost (l : Bt) (w : World) (e : Ending) (w' : World) : Prop := Below w.heap.size w w' ∧
 ((65536 < l.length ∧ e = .returned (.tuple #[.slice none 0 0, .int .i64 0, .int .i64 5])) ∨
  (l.length ≤ 65536 ∧ (scan l).1 = none ∧ e = .returned (.tuple #[.slice none 0 0, .int .i64 (scan l).2, .int .i64 6])) ∨
  (l.length ≤ 65536 ∧ ∃ (ts : List Tk) (v : Value), (scan l).1 = some ts ∧ e = .returned (.tuple #[v, .int .i64 0, .int .i64 0]) ∧ w'.ownsRow w.heap.size 56 4 v ts.length (tkcs ts)))
set_option maxRecDepth 100000 in
set_option maxHeartbeats 4000000 in
theorem Scan_any (s : ByteArray) (hs : s.size ≤ 281474976710656) (w : World) (hw : Lad w) : Calls Tryd.prog 13 #[.string s] w (ScanPost s.data.toList w) := by
 have HW := Lib.hid hw
 clear hw
 by_cases hbig : 65536 < s.size
 ·have d0 : decide ((65536 : Int) < (s.size : Int)) = true := by rw [decide_eq_true_iff]; omega
  have HBG := Lib.hid hbig
  clear hbig
  go_enter Tryd.func13, Tryd.ntmps13
  go_wp2_with fail
  refine bodyPost_ret (v := .tuple #[.slice none 0 0, .int .i64 0, .int .i64 5]) (by simp [results, Tryd.results13, go_sem]) rfl ?_
  exact ⟨Below.refl _ _, .inl ⟨HBG.out, rfl⟩⟩
 have d0 : decide ((65536 : Int) < (s.size : Int)) = false := by rw [decide_eq_false_iff_not]; omega
 have hs2 : s.size ≤ 65536 := by omega
 have HFIN : Hid (∀ (e : Ending) (w' : World), Below w.heap.size w w' → (((scan s.data.toList).1 = none ∧ e = .returned (.tuple #[.slice none 0 0, .int .i64 (scan s.data.toList).2, .int .i64 6])) ∨ (∃ (ts : List Tk) (v : Value), (scan s.data.toList).1 = some ts ∧ e = .returned (.tuple #[v, .int .i64 0, .int .i64 0]) ∧ w'.ownsRow w.heap.size 56 4 v ts.length (tkcs ts))) → ScanPost s.data.toList w e w') := Lib.hid (fun e w' hb h => ⟨hb, by
  rcases h with h | h
  ·exact .inr (.inl ⟨hs2, h⟩)
  ·exact .inr (.inr ⟨hs2, h⟩)⟩)
 clear hbig
 obtain ⟨i0, hi0, hz0, hz1, hz2⟩ := info_parts Tryd.infoTok
 have HI := Lib.hid hi0
 have HZ0 := Lib.hid hz0
 have HZ1 := Lib.hid hz1
 have HZ2 := Lib.hid hz2
 clear hi0 hz0 hz1 hz2
 go_enter Tryd.func13, Tryd.ntmps13
 go_upto_region 4 with fail
 go_loopw [0, 2, 3] (fun v0 v2 v3 wr => ∃ (x : ByteArray) (ln : Int) (acc : List Tk), v0 = .string x ∧ v3 = .int .i64 ln ∧ x.size ≤ s.size ∧ 1 ≤ ln ∧ ln + x.size ≤ 65537 ∧ acc.length + x.size ≤ 65536 ∧ Hid (scan s.data.toList = scI x.size acc x.data.toList ln) ∧ Hid (Below w.heap.size w wr ∧ wr.ownsRow w.heap.size 56 4 v2 acc.length (tkcs acc))) (fun v0 _ _ _ => strLen v0)
 case atStart => exact ⟨s, 1, [], rfl, rfl, by omega, by omega, by omega, by simp; omega, Lib.hid rfl, Lib.hid ⟨Below.refl _ _, World.ownsRow_nil _ _ _ _⟩⟩
 case round =>
  obtain ⟨x, ln, acc, rfl, rfl, hx, hl1, hl2, hac, HS, HR⟩ := hrel
  cases hx0 : x.data.toList with
  | nil =>
   have hemp : x.toList.isEmpty = true := by rw [toList_bytes, hx0]; rfl
   have HE : Hid (scan s.data.toList = (some (acc ++ [⟨0, ln, 0, []⟩]), 0)) := Lib.hid (by rw [HS.out, hx0, scI_nil])
   have HOA := Lib.hid (HR.out.2.alloc (.cells #[.int .i64 0, .int .i64 ln, .int .i64 0, .string ⟨#[]⟩] 56))
   have hbA := HR.out.1.alloc HR.out.1.size (.cells #[.int .i64 0, .int .i64 ln, .int .i64 0, .string ⟨#[]⟩] 56)
   have HBA := Lib.hid hbA
   have hsz := HR.out.1.size
   clear hx0 hbA
   go_wp2_with (at_builtin; refine wpList_append_own _ rfl _ _ _ rfl w.heap.size 56 i0 _ 4 40 Tryd.underlying47 HI.out HZ0.out HZ1.out HZ2.out rfl (by omega) _ _ _ rfl HOA.out ⟨wr.heap.size, 0, none⟩ 1 1 [.int .i64 0, .int .i64 ln, .int .i64 0, .string ⟨#[]⟩] rfl rfl (World.news_of_block (cs := #[.int .i64 0, .int .i64 ln, .int .i64 0, .string ⟨#[]⟩]) (t := 56) (fr := (0, 0)) (heap_alloc_new wr _)) (by simp [Value.oneCell']) (by unfold maxLen; omega) (by omega) (by simp; omega) ?_; intro v' w9 hown9 hgrow9 _; have HO9 := Lib.hid hown9; have HG9 := Lib.hid hgrow9; clear hown9 hgrow9)
   refine bodyPost_ret (v := .tuple #[v', .int .i64 0, .int .i64 0]) (by simp [results, Tryd.results13, go_sem]) rfl ?_
   refine HFIN.out _ _ (HBA.out.grown HG9.out HBA.out.size (fun k hk => (HOA.out.lt k hk).1)) (.inr ⟨acc ++ [⟨0, ln, 0, []⟩], v', by rw [HE.out], rfl, ?_⟩)
   have := HO9.out
   rw [← tkcs_push]
   simpa using this
  | cons b r =>
   have hxs : x.size = r.length + 1 := by rw [← st_len, hx0]; rfl
   have hpos : 0 < x.size := by omega
   have hemp : x.toList.isEmpty = false := by rw [toList_bytes, hx0]; rfl
   have hb0 : x[0] = b := by
    have := st_get x 0 hpos
    rw [hx0] at this
    simp at this
    exact this.symm
   have HX0 := Lib.hid hx0
   have HSK : Hid (∀ (y : ByteArray) (k : Nat) (d l2 : Int), l2 = ln + d → y = x.extract k x.size → k ≤ x.size → stepI ln b r = .skip k d → 0 ≤ d → d ≤ 1 → (∃ (x_1 : ByteArray) (ln_1 : Int) (acc : List Tk), Value.string y = .string x_1 ∧ Value.int .i64 l2 = .int .i64 ln_1 ∧ x_1.size ≤ s.size ∧ 1 ≤ ln_1 ∧ ln_1 + x_1.size ≤ 65537 ∧ acc.length + x_1.size ≤ 65536 ∧ Hid (scan s.data.toList = scI x_1.size acc x_1.data.toList ln_1) ∧ Hid (Below w.heap.size w wr ∧ wr.ownsRow w.heap.size 56 4 u2 acc.length (tkcs acc))) ∧ strLen (.string y) < x.size) := Lib.hid (fun y k d l2 hl hy hk hst hd0 hd1 => by
    subst hl
    have hyl : y.data.toList = (b :: r).drop k := by rw [hy, ext_end, HX0.out]
    have hk1 := step_pos hst
    have hys : y.size = x.size - k := by rw [← st_len, hyl, List.length_drop]; simp; omega
    refine ⟨⟨y, ln + d, acc, rfl, rfl, by omega, by omega, by omega, by omega, Lib.hid ?_, HR⟩, by show y.size < _; omega⟩
    rw [HS.out]
    exact sc_skip HX0.out hst hyl)
   clear hxs
   by_cases h10 : b.toNat = 10
   ·have d10 : ((b.toNat : Int) == 10) = true := by rw [beq_iff_eq]; omega
    have HST : Hid (stepI ln b r = .skip 1 1) := Lib.hid (by unfold stepI; rw [if_pos h10])
    clear h10 hx0
    go_wp2_with fail
    exact HSK.out _ 1 1 _ (by first | rfl | simp) rfl (by omega) HST.out (by omega) (by omega)
   have d10 : ((b.toNat : Int) == 10) = false := by rw [beq_eq_false_iff_ne]; omega
   by_cases h32 : b.toNat = 32
   ·have d32 : ((b.toNat : Int) == 32) = true := by rw [beq_iff_eq]; omega
    have HST : Hid (stepI ln b r = .skip 1 0) := Lib.hid (by unfold stepI; rw [if_neg h10, if_pos (.inl h32)])
    clear h10 h32 hx0
    go_wp2_with fail
    exact HSK.out _ 1 0 _ (by simp) rfl (by omega) HST.out (by omega) (by omega)
   have d32 : ((b.toNat : Int) == 32) = false := by rw [beq_eq_false_iff_ne]; omega
   by_cases h9 : b.toNat = 9
   ·have d9 : ((b.toNat : Int) == 9) = true := by rw [beq_iff_eq]; omega
    have HST : Hid (stepI ln b r = .skip 1 0) := Lib.hid (by unfold stepI; rw [if_neg h10, if_pos (.inr h9)])
    clear h10 h32 h9 hx0
    go_wp2_with fail
    exact HSK.out _ 1 0 _ (by simp) rfl (by omega) HST.out (by omega) (by omega)
   have d9 : ((b.toNat : Int) == 9) = false := by rw [beq_eq_false_iff_ne]; omega
   by_cases h35 : b.toNat = 35
   ·have d35 : ((b.toNat : Int) == 35) = true := by rw [beq_iff_eq]; omega
    have HST : Hid (stepI ln b r = .skip (run nl8 x.data.toList).length 0) := Lib.hid (by unfold stepI; rw [if_neg h10, if_neg (by omega), if_pos h35, hx0])
    have hrl := run_len nl8 x.data.toList
    rw [st_len] at hrl
    clear h10 h32 h9 h35 hx0
    go_wp2_with fail
    refine (run_nonl x (by omega) _).mono ?_
    rintro e w1 ⟨rfl, hw1⟩
    subst hw1
    obtain ⟨t, ht⟩ : ∃ t, run nl8 x.data.toList = t := ⟨_, rfl⟩
    rw [ht] at HST hrl ⊢
    clear ht
    go_wp2_with fail
    exact HSK.out _ _ 0 _ (by simp) rfl hrl HST.out (by omega) (by omega)
   have d35 : ((b.toNat : Int) == 35) = false := by rw [beq_eq_false_iff_ne]; omega
   have HST : Hid (stepI ln b r = if (nxI (b :: r)).2.2.2 = true then .tok ⟨(nxI (b :: r)).1, ln, (nxI (b :: r)).2.1, (nxI (b :: r)).2.2.1⟩ else .bad) := Lib.hid (by unfold stepI; rw [if_neg h10, if_neg (by omega), if_neg h35])
   clear h10 h32 h9 h35 hx0
   go_wp2_with fail
   refine (next_any x (by omega) hpos _ (HW.out.below HR.out.1)).mono ?_
   rintro e w1 ⟨hb1, k, v, t, ok, rfl, hnx⟩
   rw [HX0.out] at hnx
   have hsz := HR.out.1.size
   have HB1 := Lib.hid (HR.out.1.trans (hb1.mono HR.out.1.size))
   have HO1 := Lib.hid (own_below HR.out.2 hb1)
   clear hb1
   cases ok
   ·have HBAD : Hid (scan s.data.toList = (none, ln)) := Lib.hid (by
     rw [HS.out]
     refine sc_bad HX0.out ?_
     rw [HST.out, if_neg]
     rcases hnx with h | ⟨_, h⟩ <;> rw [h] <;> simp)
    clear hnx
    go_wp2_with fail
    refine bodyPost_ret (v := .tuple #[.slice none 0 0, .int .i64 ln, .int .i64 6]) (by simp [results, Tryd.results13, go_sem]) rfl ?_
    exact HFIN.out _ _ (HB1.out.alloc HB1.out.size _) (.inl ⟨by rw [HBAD.out], by rw [HBAD.out]⟩)
   ·have hnx2 : nxI (b :: r) = (k, v, t, true) := by
     rcases hnx with h | ⟨h, _⟩
     ·exact h
     ·cases h
    have HST2 : Hid (stepI ln b r = .tok ⟨k, ln, v, t⟩) := Lib.hid (by rw [HST.out, hnx2]; simp)
    have ht1 : 1 ≤ t.length := by have := nx_pos (b := b) (r := r) (by rw [hnx2]); rw [hnx2] at this; exact this
    have ht2 : t.length ≤ x.size := by have := nx_le (b :: r); rw [hnx2, ← HX0.out, st_len] at this; exact this
    clear hnx hnx2
    have hsz1 := HB1.out.size
    go_upto_region 10 with fail
    obtain ⟨w2, hw2⟩ : ∃ w2, w2 = (w1.alloc (.cells #[.int .i64 k, .int .i64 ln, .int .i64 v, .string (st t)] 56)) := ⟨_, rfl⟩
    rw [← hw2]
    have hbb : Below w1.heap.size w1 w2 := by rw [hw2]; exact (Below.refl _ _).alloc (Nat.le_refl _) _
    have hblk : w2.heap[w1.heap.size]? = some (.cells #[.int .i64 k, .int .i64 ln, .int .i64 v, .string (st t)] 56 (0, 0)) := by rw [hw2]; exact heap_alloc_new w1 _
    have HB2 := Lib.hid (HB1.out.trans (hbb.mono HB1.out.size))
    have HO2 := Lib.hid (own_below HO1.out hbb)
    have HNG : Hid (∀ q, u2.ownBlock = some q → q ≠ w1.heap.size) := Lib.hid (fun q hq => by have := (HO1.out.lt q hq).2; omega)
    have HBL := Lib.hid hblk
    have c0 := cell_of_row _ _ 0 _ _ _ hblk
    have c1 := cell_of_row _ _ 1 _ _ _ hblk
    have c2 := cell_of_row _ _ 2 _ _ _ hblk
    have c3 := cell_of_row _ _ 3 _ _ _ hblk
    have cl := heap_lt hblk
    obtain ⟨g5, hg5⟩ : ∃ g5, w1.heap.size = g5 := ⟨_, rfl⟩
    rw [hg5] at HNG HBL c0 c1 c2 c3 cl ⊢
    clear hw2 hbb hblk hg5 hsz1
    have HOA := Lib.hid (HO2.out.alloc (.cells #[.int .i64 k, .int .i64 ln, .int .i64 v, .string (st t)] 56))
    have HBA := Lib.hid (HB2.out.alloc HB2.out.size (.cells #[.int .i64 k, .int .i64 ln, .int .i64 v, .string (st t)] 56))
    have HBLA : Hid ((w2.alloc (.cells #[.int .i64 k, .int .i64 ln, .int .i64 v, .string (st t)] 56)).heap[g5]? = some (.cells #[.int .i64 k, .int .i64 ln, .int .i64 v, .string (st t)] 56 (0, 0))) := Lib.hid ((Below.heap_alloc w2 _ g5 cl).trans HBL.out)
    have hsz2 := HB2.out.size
    clear HB1 HO1
    clear w1
    go_upto_region 11 with (at_builtin; refine wpList_append_own _ rfl _ _ _ rfl w.heap.size 56 i0 _ 4 40 Tryd.underlying47 HI.out HZ0.out HZ1.out HZ2.out rfl (by omega) _ _ _ rfl HOA.out ⟨w2.heap.size, 0, none⟩ 1 1 [.int .i64 k, .int .i64 ln, .int .i64 v, .string (st t)] rfl rfl (World.news_of_block (cs := #[.int .i64 k, .int .i64 ln, .int .i64 v, .string (st t)]) (t := 56) (fr := (0, 0)) (heap_alloc_new w2 _)) (by simp [Value.oneCell']) (by unfold maxLen; omega) (by omega) (by simp; omega) ?_; intro v' w9 hown9 hgrow9 _; have HO9 := Lib.hid hown9; have HG9 := Lib.hid hgrow9; clear hown9 hgrow9)
    have h9 : w9.heap[g5]? = _ := (HG9.out.block g5 (heap_lt HBLA.out) (fun e => HNG.out g5 e.symm rfl)).trans HBLA.out
    have HB9 := Lib.hid (HBA.out.grown HG9.out HBA.out.size (fun k hk => (HOA.out.lt k hk).1))
    clear c0 c1 c2 c3 cl
    have c3 := cell_of_row _ _ 3 _ _ _ h9
    have cl := heap_lt h9
    clear h9
    have ht2' : (t.length : Int) ≤ (x.size : Int) := by omega
    go_wp2_with fail
    have hyl := ext_end x t.length
    have hys : (x.extract t.length x.size).size = x.size - t.length := by rw [← st_len, hyl, List.length_drop, st_len]
    refine ⟨⟨x.extract t.length x.size, ln, acc ++ [⟨k, ln, v, t⟩], rfl, rfl, by omega, by omega, by omega, by simp; omega, Lib.hid ?_, Lib.hid ⟨HB9.out, ?_⟩⟩, by show (x.extract t.length x.size).size < x.size; rw [hys]; omega⟩
    ·rw [HS.out]
     exact sc_tok HX0.out HST2.out ht1 (by rw [hyl, HX0.out])
    ·have := HO9.out
     rw [← tkcs_push]
     simpa using this
end Go.Proofs.YtpcdinelpfbpfaaDoor
namespace Go.Proofs.YtpcdinelpfbpfaaDoor
open Go.ChangeShapes Go.WideShapes Go.ChangeAt Go.RowKit
set_option linter.unusedVariables false
set_option linter.unusedSimpArgs false

theorem Tryd.infoByte : (Tryd.prog.info? 5).map (fun i => (i.zero, i.size, i.bytes)) = some (some (.int .u8 0), 1, 1) := by kernel_rfl
def rep (l : Bt) : Nat → Bt
 | 0 => []
 | n + 1 => rep l n ++ l
theorem rep_len (l : Bt) (n : Nat) : (rep l n).length = n * l.length := by
 induction n with
 | zero => simp [rep]
 | succ n ih => simp [rep, ih, Nat.add_mul]
abbrev bcs (l : Bt) : List Value := Lib.strCells (st l)
theorem bcs_len (l : Bt) : (bcs l).length = l.length := Lib.strCells_length _
theorem bcs_app (a b : Bt) : bcs a ++ bcs b = bcs (a ++ b) := by simp [Lib.strCells]
theorem bcs_get {l : Bt} {j : Nat} (h : j < l.length) : (bcs l)[j]? = some (.int .u8 (l[j].toNat : Int)) := by simp [Lib.strCells, h]
theorem step_digits {ln : Int} {b : UInt8} {r : Bt} {v : Int} (h10 : b.toNat ≠ 10) (h1 : lt8 b = false) (h2 : dg8 b = true) (ha : Lib.atoiAll (run dg8 (b :: r)) = .ok v) (hi : Lib.itoa v = run dg8 (b :: r)) (hl : (run in8 (b :: r)).length = (run dg8 (b :: r)).length) :
  stepI ln b r = .tok ⟨2, ln, v, run dg8 (b :: r)⟩ := by
 have hb : 48 ≤ b.toNat ∧ b.toNat ≤ 57 := by unfold dg8 at h2; simpa using h2
 have hn : nxI (b :: r) = (2, v, run dg8 (b :: r), true) := by
  show (if lt8 b then _ else _) = _
  rw [h1]
  simp only [Bool.false_eq_true, if_false]
  rw [h2]
  simp only [if_true]
  rw [ha]
  show (2, v, run dg8 (b :: r), (Lib.itoa v == run dg8 (b :: r)) && decide ((run in8 (b :: r)).length = (run dg8 (b :: r)).length)) = _
  rw [hi, hl]
  simp
 unfold stepI
 rw [if_neg h10, if_neg (by omega), if_neg (by omega), hn]
 simp
theorem scI_skip {f : Nat} {acc : List Tk} {b : UInt8} {r : Bt} {ln d : Int} {k : Nat} (h : stepI ln b r = .skip k d) : scI (f + 1) acc (b :: r) ln = scI f acc ((b :: r).drop k) (ln + d) := by
 show (match stepI ln b r with | .skip k d => _ | .tok x => _ | .bad => _) = _
 rw [h]
theorem scI_tok {f : Nat} {acc : List Tk} {b : UInt8} {r : Bt} {ln : Int} {x : Tk} (h : stepI ln b r = .tok x) : scI (f + 1) acc (b :: r) ln = scI f (acc ++ [x]) ((b :: r).drop x.t.length) ln := by
 show (match stepI ln b r with | .skip k d => _ | .tok x => _ | .bad => _) = _
 rw [h]
theorem scI_bad {f : Nat} {acc : List Tk} {b : UInt8} {r : Bt} {ln : Int} (h : stepI ln b r = .bad) : scI (f + 1) acc (b :: r) ln = (none, ln) := by
 show (match stepI ln b r with | .skip k d => _ | .tok x => _ | .bad => _) = _
 rw [h]
theorem awake_scan : scan [120, 60, 61, 49, 48] = (some [⟨1, 1, 0, [120]⟩, ⟨4, 1, 0, [60, 61]⟩, ⟨2, 1, 10, [49, 48]⟩, ⟨0, 1, 0, []⟩], 0) := by
 have s1 : stepI 1 120 [60, 61, 49, 48] = .tok ⟨1, 1, 0, [120]⟩ := by rfl
 have s2 : stepI 1 60 [61, 49, 48] = .tok ⟨4, 1, 0, [60, 61]⟩ := by rfl
 have s3 : stepI 1 49 [48] = .tok ⟨2, 1, 10, [49, 48]⟩ := step_digits (by decide) (by decide) (by decide) (by decide) (by simp [Lib.itoa, Lib.decDigits]; decide) (by decide)
 show scI 5 [] [120, 60, 61, 49, 48] 1 = _
 rw [scI_tok s1]
 show scI 4 _ [60, 61, 49, 48] 1 = _
 rw [scI_tok s2]
 show scI 3 _ [49, 48] 1 = _
 rw [scI_tok s3]
 rfl
end Go.Proofs.YtpcdinelpfbpfaaDoor
namespace Go.Proofs.YtpcdinelpfbpfaaDoor
open Go.ChangeShapes Go.WideShapes Go.ChangeAt Go.RowKit
set_option linter.unusedVariables false
set_option linter.unusedSimpArgs false

def Tks (w : World) (a : Option Addr) (ts : List Tk) : Prop := ∀ j x, ts[j]? = some x → ∃ b off, a = some ⟨b, off, none⟩ ∧ b < w.heap.size ∧
 w.cell? ⟨b, off + j * 4, none⟩ = some (.int .i64 x.k) ∧ w.cell? ⟨b, off + j * 4 + 1, none⟩ = some (.int .i64 x.n) ∧ w.cell? ⟨b, off + j * 4 + 2, none⟩ = some (.int .i64 x.v) ∧ w.cell? ⟨b, off + j * 4 + 3, none⟩ = some (.string (st x.t))
theorem Tks.of_own {w : World} {base n : Nat} {e : TypeId} {v : Value} {ts : List Tk} (h : w.ownsRow base e 4 v n (tkcs ts)) :
  ∃ a cap, v = .slice a n cap ∧ ts.length = n ∧ n ≤ cap ∧ cap ≤ maxLen ∧ Tks w a ts ∧ ∀ x, a = some x → base ≤ x.block := by
 obtain ⟨a, cap, rfl, h1, h2, h3, h4, h5⟩ := Cells.of_own h
 rw [tkcs_len] at h1
 refine ⟨a, cap, rfl, by omega, h2, h3, fun j s hj => ?_, h5⟩
 obtain ⟨g1, g2, g3, g4⟩ := tkcs_get ts j s hj
 obtain ⟨b, off, e1, hb, hc⟩ := h4 (fun e => by rw [e] at g1; simp at g1)
 exact ⟨b, off, e1, hb, hc _ _ g1, by rw [Nat.add_assoc]; exact hc _ _ g2, by rw [Nat.add_assoc]; exact hc _ _ g3, by rw [Nat.add_assoc]; exact hc _ _ g4⟩
theorem Tks.below {w w' : World} {a : Option Addr} {ts : List Tk} (h : Tks w a ts) (hb : Below w.heap.size w w') : Tks w' a ts := fun j x hj => by
 obtain ⟨b, off, e, hlt, h1, h2, h3, h4⟩ := h j x hj
 exact ⟨b, off, e, by have := hb.size; omega, (hb.cell (p := ⟨b, off + j * 4, none⟩) hlt).trans h1, (hb.cell (p := ⟨b, off + j * 4 + 1, none⟩) hlt).trans h2, (hb.cell (p := ⟨b, off + j * 4 + 2, none⟩) hlt).trans h3, (hb.cell (p := ⟨b, off + j * 4 + 3, none⟩) hlt).trans h4⟩
end Go.Proofs.YtpcdinelpfbpfaaDoor
namespace Go.Proofs.YtpcdinelpfbpfaaDoor
set_option linter.unusedVariables false
set_option linter.unusedSimpArgs false

def scF (acc : List Tk) (l : Bt) (ln : Int) : Option (List Tk) × Int := scI l.length acc l ln
theorem scF_nil (acc : List Tk) (ln : Int) : scF acc [] ln = (some (acc ++ [⟨0, ln, 0, []⟩]), 0) := scI_nil _ _ _
theorem scF_skip {acc : List Tk} {b : UInt8} {r : Bt} {ln d : Int} {k : Nat} (h : stepI ln b r = .skip k d) : scF acc (b :: r) ln = scF acc ((b :: r).drop k) (ln + d) := by
 show scI (r.length + 1) acc (b :: r) ln = _
 rw [scI_skip h]
 have := step_pos h
 exact scI_fuel _ _ _ _ _ (by rw [List.length_drop, List.length_cons]; omega) (Nat.le_refl _)
theorem step_tok {ln : Int} {b : UInt8} {r : Bt} {x : Tk} (h : stepI ln b r = .tok x) : b.toNat ≠ 10 ∧ b.toNat ≠ 32 ∧ b.toNat ≠ 9 ∧ b.toNat ≠ 35 ∧ nxI (b :: r) = (x.k, x.v, x.t, true) ∧ x.n = ln := by
 unfold stepI at h
 split at h
 ·cases h
 ·split at h
  ·cases h
  ·split at h
   ·cases h
   ·split at h
    ·rename_i h1 h2 h3 h4
     injection h with h
     subst h
     refine ⟨h1, by omega, by omega, h3, ?_, rfl⟩
     rw [← h4]
    ·cases h
theorem step_of {ln : Int} {b : UInt8} {r : Bt} {k v : Int} {t : Bt} (h1 : b.toNat ≠ 10) (h2 : b.toNat ≠ 32) (h3 : b.toNat ≠ 9) (h4 : b.toNat ≠ 35) (h : nxI (b :: r) = (k, v, t, true)) : stepI ln b r = .tok ⟨k, ln, v, t⟩ := by
 unfold stepI
 rw [if_neg h1, if_neg (by omega), if_neg h4, h]
 rfl
theorem scF_tok {acc : List Tk} {b : UInt8} {r : Bt} {ln : Int} {x : Tk} (h : stepI ln b r = .tok x) : scF acc (b :: r) ln = scF (acc ++ [x]) ((b :: r).drop x.t.length) ln := by
 show scI (r.length + 1) acc (b :: r) ln = _
 rw [scI_tok h]
 obtain ⟨_, _, _, _, h5, _⟩ := step_tok h
 have := nx_pos (b := b) (r := r) (by rw [h5])
 rw [h5] at this
 exact scI_fuel _ _ _ _ _ (by rw [List.length_drop, List.length_cons]; dsimp only at this; omega) (Nat.le_refl _)
theorem scF_bad {acc : List Tk} {b : UInt8} {r : Bt} {ln : Int} (h : stepI ln b r = .bad) : scF acc (b :: r) ln = (none, ln) := scI_bad h
theorem scan_F (l : Bt) : scan l = scF [] l 1 := rfl
theorem nx_digits2 {b : UInt8} {r : Bt} (h1 : lt8 b = false) (h2 : dg8 b = true) : nxI (b :: r) = (match Lib.atoiAll (run dg8 (b :: r)) with
  | .ok v => (2, v, run dg8 (b :: r), (Lib.itoa v == run dg8 (b :: r)) && decide ((run in8 (b :: r)).length = (run dg8 (b :: r)).length))
  | _ => (2, 0, run dg8 (b :: r), false)) := by
 show (if lt8 b then _ else _) = _
 rw [h1]; simp only [Bool.false_eq_true, if_false]; rw [h2]; simp only [if_true]
 all_goals (cases Lib.atoiAll (run dg8 (b :: r)) <;> rfl)
def sepH (r : Bt) : Prop := ∀ c r2, r = c :: r2 → c.toNat = 32 ∨ c.toNat = 10 ∨ c.toNat = 9
def TokOk (x : Tk) : Prop := ∃ ln b r, stepI ln b r = .tok x
theorem run_app {p : UInt8 → Bool} {t r : Bt} (h : ∀ c ∈ t, p c = true) : run p (t ++ r) = t ++ run p r := by
 unfold run
 induction t with
 | nil => rfl
 | cons c t ih =>
  rw [List.cons_append, List.takeWhile_cons, if_pos (h c (by simp)), ih (fun d hd => h d (by simp [hd]))]
  rfl
theorem run_stop {p : UInt8 → Bool} {r : Bt} (h : ∀ c r2, r = c :: r2 → p c = false) : run p r = [] := by
 unfold run
 cases r with
 | nil => rfl
 | cons c r => rw [List.takeWhile_cons, if_neg (by rw [h c r rfl]; simp)]
theorem run_mem {p : UInt8 → Bool} {l : Bt} : ∀ c ∈ run p l, p c = true := by
 unfold run
 induction l with
 | nil => simp
 | cons x l ih =>
  intro c hc
  rw [List.takeWhile_cons] at hc
  split at hc
  ·rename_i hx
   rw [List.mem_cons] at hc
   rcases hc with rfl | hc
   ·exact hx
   ·exact ih c hc
  ·cases hc
theorem dg_in {c : UInt8} (h : dg8 c = true) : in8 c = true := by unfold in8; rw [h]; simp
theorem sep_in {r : Bt} (h : sepH r) : ∀ c r2, r = c :: r2 → in8 c = false := by
 intro c r2 e
 have := h c r2 e
 unfold in8 lt8 dg8
 simp
 omega
theorem sep_dg {r : Bt} (h : sepH r) : ∀ c r2, r = c :: r2 → dg8 c = false := by
 intro c r2 e
 have := h c r2 e
 unfold dg8
 simp
 omega
theorem isS_two {b c : UInt8} (h : isS [b, c] = true) : c = 61 ∨ c = 38 ∨ c = 124 := by
 simp [isS, signsL] at h
 rcases h with ⟨_, h⟩ | ⟨_, h⟩ | ⟨_, h⟩ | ⟨_, h⟩ | ⟨_, h⟩ <;> simp [h]
theorem sep_two {b : UInt8} {r : Bt} (h : sepH r) : ¬ (1 < (b :: r).length ∧ isS ((b :: r).take 2) = true) := by
 intro ⟨h1, h2⟩
 cases r with
 | nil => simp at h1
 | cons c r =>
  have h3 := h c r rfl
  have h4 := isS_two (b := b) (c := c) h2
  rcases h4 with rfl | rfl | rfl <;> simp at h3
theorem nx_again {b : UInt8} {l : Bt} {k v : Int} {t : Bt} (h : nxI (b :: l) = (k, v, t, true)) (r : Bt) (hr : sepH r) : ∃ tt, t = b :: tt ∧ nxI (t ++ r) = (k, v, t, true) := by
 by_cases h1 : lt8 b = true
 ·have hin : in8 b = true := by unfold in8; rw [h1]; rfl
  have e0 : nxI (b :: l) = (if isW (run in8 (b :: l)) then 3 else 1, 0, run in8 (b :: l), decide ((run in8 (b :: l)).length ≤ 32)) := by
   show (if lt8 b then _ else _) = _
   rw [if_pos h1]
  rw [e0] at h
  injection h with ek h
  injection h with ev h
  injection h with et eo
  have hb : ∃ tt, t = b :: tt := by
   rw [← et]
   unfold run
   rw [List.takeWhile_cons, if_pos hin]
   exact ⟨_, rfl⟩
  obtain ⟨tt, htt⟩ := hb
  refine ⟨tt, htt, ?_⟩
  have hall : ∀ c ∈ t, in8 c = true := by rw [← et]; exact run_mem
  have hrun : run in8 (t ++ r) = t := by rw [run_app hall, run_stop (sep_in hr), List.append_nil]
  rw [et] at ek eo
  have e1 : nxI (t ++ r) = (if isW (run in8 (t ++ r)) then 3 else 1, 0, run in8 (t ++ r), decide ((run in8 (t ++ r)).length ≤ 32)) := by
   rw [htt, List.cons_append]
   show (if lt8 b then _ else _) = _
   rw [if_pos h1]
  rw [e1, hrun, eo, ek, ev]
 by_cases h2 : dg8 b = true
 ·have e0 : nxI (b :: l) = _ := nx_digits2 (by simpa using h1) h2
  have hb : ∃ tt, run dg8 (b :: l) = b :: tt := by
   unfold run
   rw [List.takeWhile_cons, if_pos h2]
   exact ⟨_, rfl⟩
  rw [e0] at h
  cases ha : Lib.atoiAll (run dg8 (b :: l))
  case ok z =>
   rw [ha] at h
   injection h with ek h
   injection h with ev h
   injection h with et eo
   obtain ⟨tt, htt⟩ := hb
   rw [et] at htt ha eo
   refine ⟨tt, htt, ?_⟩
   have hall : ∀ c ∈ t, dg8 c = true := by rw [← et]; exact run_mem
   have hrun : run dg8 (t ++ r) = t := by rw [run_app hall, run_stop (sep_dg hr), List.append_nil]
   have hrin : run in8 (t ++ r) = t := by rw [run_app (fun c hc => dg_in (hall c hc)), run_stop (sep_in hr), List.append_nil]
   have e1 := nx_digits2 (b := b) (r := tt ++ r) (by simpa using h1) h2
   rw [← List.cons_append, ← htt, hrun, ha, hrin] at e1
   rw [Bool.and_eq_true] at eo
   rw [e1]
   simp only [eo.1, decide_true, Bool.and_true]
   rw [ek, ev]
  all_goals (rw [ha] at h; injection h with _ h; injection h with _ h; injection h with _ h; cases h)
 by_cases h3 : 1 < (b :: l).length ∧ isS ((b :: l).take 2) = true
 ·have e0 : nxI (b :: l) = (4, 0, (b :: l).take 2, true) := by
   show (if lt8 b then _ else _) = _
   rw [if_neg h1, if_neg h2, if_pos h3]
  rw [e0] at h
  injection h with ek h
  injection h with ev h
  injection h with et eo
  cases l with
  | nil => simp at h3
  | cons c l =>
   have htt : t = [b, c] := et.symm
   subst htt
   refine ⟨[c], rfl, ?_⟩
   show (if lt8 b then _ else _) = _
   rw [if_neg h1, if_neg h2, if_pos ⟨by simp, h3.2⟩, ← ek, ← ev]
   rfl
 ·have e0 : nxI (b :: l) = (4, 0, (b :: l).take 1, isS ((b :: l).take 1)) := by
   show (if lt8 b then _ else _) = _
   rw [if_neg h1, if_neg h2, if_neg h3]
  rw [e0] at h
  injection h with ek h
  injection h with ev h
  injection h with et eo
  have htt : t = [b] := et.symm
  subst htt
  refine ⟨[], rfl, ?_⟩
  show (if lt8 b then _ else _) = _
  rw [if_neg h1, if_neg h2, if_neg (show ¬ (1 < ([b] ++ r).length ∧ isS (([b] ++ r).take 2) = true) from sep_two (b := b) hr), ← ek, ← ev]
  show (4, 0, [b], isS [b]) = _
  rw [show isS [b] = true from eo]
theorem TokOk.step {x : Tk} (h : TokOk x) (r : Bt) (hr : sepH r) (acc : List Tk) (ln : Int) : scF acc (x.t ++ r) ln = scF (acc ++ [{ x with n := ln }]) r ln := by
 obtain ⟨ln0, b, l, hst⟩ := h
 obtain ⟨h1, h2, h3, h4, h5, _⟩ := step_tok hst
 obtain ⟨tt, htt, hn⟩ := nx_again h5 r hr
 rw [htt, List.cons_append] at hn
 have hs := step_of (ln := ln) h1 h2 h3 h4 hn
 rw [htt, List.cons_append, scF_tok hs]
 show scF (acc ++ [⟨x.k, ln, x.v, b :: tt⟩]) ((b :: (tt ++ r)).drop (b :: tt).length) ln = _
 rw [← List.cons_append, List.drop_left]
theorem TokOk.kind {x : Tk} (h : TokOk x) : x.k = 1 ∨ x.k = 2 ∨ x.k = 3 ∨ x.k = 4 := by
 obtain ⟨ln0, b, l, hst⟩ := h
 obtain ⟨_, _, _, _, h5, _⟩ := step_tok hst
 unfold nxI at h5
 dsimp only at h5
 split at h5
 ·injection h5 with e _
  split at e <;> omega
 ·split at h5
  ·split at h5 <;> (injection h5 with e _; omega)
  ·split at h5 <;> (injection h5 with e _; omega)
theorem TokOk.pos {x : Tk} (h : TokOk x) : 1 ≤ x.t.length := by
 obtain ⟨ln0, b, l, hst⟩ := h
 obtain ⟨_, _, _, _, h5, _⟩ := step_tok hst
 have := nx_pos (b := b) (r := l) (by rw [h5])
 rw [h5] at this
 exact this
def tkLen (c : Nat) : List Tk → Nat
 | [] => 0
 | x :: l => x.t.length + c + tkLen c l
theorem tkLen_app (c : Nat) (a b : List Tk) : tkLen c (a ++ b) = tkLen c a + tkLen c b := by
 induction a with
 | nil => simp [tkLen]
 | cons x a ih => simp only [List.cons_append, tkLen, ih]; omega
theorem scF_toks : ∀ (n : Nat) (acc : List Tk) (l : Bt) (ln : Int) (ts : List Tk) (y : Int), l.length ≤ n → scF acc l ln = (some ts, y) →
  ∃ ys ln2, ts = acc ++ (ys ++ [⟨0, ln2, 0, []⟩]) ∧ y = 0 ∧ (∀ x ∈ ys, TokOk x) ∧ tkLen 0 ys ≤ l.length := by
 intro n
 induction n with
 | zero =>
  intro acc l ln ts y hn h
  have : l = [] := List.length_eq_zero_iff.1 (by omega)
  subst this
  rw [scF_nil] at h
  injection h with h1 h2
  injection h1 with h1
  exact ⟨[], ln, by rw [← h1]; rfl, h2.symm, by simp, by simp [tkLen]⟩
 | succ n ih =>
  intro acc l ln ts y hn h
  cases l with
  | nil =>
   rw [scF_nil] at h
   injection h with h1 h2
   injection h1 with h1
   exact ⟨[], ln, by rw [← h1]; rfl, h2.symm, by simp, by simp [tkLen]⟩
  | cons b r =>
   simp only [List.length_cons] at hn
   cases hst : stepI ln b r with
   | skip k d =>
    have hk := step_pos hst
    rw [scF_skip hst] at h
    have hl : ((b :: r).drop k).length ≤ n := by rw [List.length_drop, List.length_cons]; omega
    obtain ⟨ys, ln2, e1, e2, e3, e4⟩ := ih _ _ _ _ _ hl h
    exact ⟨ys, ln2, e1, e2, e3, by rw [List.length_drop] at e4; omega⟩
   | tok x =>
    have hok : TokOk x := ⟨_, _, _, hst⟩
    have hk := hok.pos
    have hle := nx_le (b :: r)
    rw [(step_tok hst).2.2.2.2.1] at hle
    dsimp only at hle
    rw [scF_tok hst] at h
    have hl : ((b :: r).drop x.t.length).length ≤ n := by rw [List.length_drop, List.length_cons]; omega
    obtain ⟨ys, ln2, e1, e2, e3, e4⟩ := ih _ _ _ _ _ hl h
    refine ⟨x :: ys, ln2, by rw [e1]; simp, e2, ?_, ?_⟩
    ·intro z hz
     rw [List.mem_cons] at hz
     rcases hz with rfl | hz
     ·exact hok
     ·exact e3 z hz
    ·rw [List.length_drop] at e4
     simp only [tkLen]
     omega
   | bad => rw [scF_bad hst] at h; cases h
theorem scan_toks {l : Bt} {ts : List Tk} {y : Int} (h : scan l = (some ts, y)) : ∃ ys ln2, ts = ys ++ [⟨0, ln2, 0, []⟩] ∧ y = 0 ∧ (∀ x ∈ ys, TokOk x) ∧ tkLen 0 ys ≤ l.length := by
 obtain ⟨ys, ln2, e1, e2⟩ := scF_toks l.length [] l 1 ts y (Nat.le_refl _) h
 exact ⟨ys, ln2, by simpa using e1, e2⟩
def unl (l : List Tk) : List (Int × Int × Bt) := l.map fun x => (x.k, x.v, x.t)
def joinB : List Tk → Bt
 | [] => []
 | [x] => x.t
 | x :: l => x.t ++ (32 :: joinB l)
theorem joinB_len (l : List Tk) : (joinB l).length ≤ tkLen 1 l := by
 induction l with
 | nil => simp [joinB]
 | cons x l ih =>
  cases l with
  | nil => simp [joinB, tkLen]
  | cons y l =>
   show (x.t ++ (32 :: joinB (y :: l))).length ≤ x.t.length + 1 + tkLen 1 (y :: l)
   rw [List.length_append, List.length_cons]
   omega
theorem sepH_32 (r : Bt) : sepH (32 :: r) := by intro c r2 e; injection e with e _; subst e; exact .inl rfl
theorem sepH_nil : sepH [] := by intro c r2 e; cases e
theorem scF_32 (acc : List Tk) (r : Bt) (ln : Int) : scF acc (32 :: r) ln = scF acc r ln := by
 have hs : stepI ln 32 r = .skip 1 0 := by unfold stepI; rw [if_neg (by decide), if_pos (.inl (by decide))]
 rw [scF_skip hs, Int.add_zero]
 rfl
theorem scF_9 (acc : List Tk) (r : Bt) (ln : Int) : scF acc (9 :: r) ln = scF acc r ln := by
 have hs : stepI ln 9 r = .skip 1 0 := by unfold stepI; rw [if_neg (by decide), if_pos (.inr (by decide))]
 rw [scF_skip hs, Int.add_zero]
 rfl
theorem scF_10 (acc : List Tk) (r : Bt) (ln : Int) : scF acc (10 :: r) ln = scF acc r (ln + 1) := by
 have hs : stepI ln 10 r = .skip 1 1 := by unfold stepI; rw [if_pos (by decide)]
 rw [scF_skip hs]
 rfl
theorem scF_joinB (l : List Tk) (h : ∀ x ∈ l, TokOk x) : ∀ (acc : List Tk) (ln : Int), ∃ ys, scF acc (joinB l) ln = (some (acc ++ (ys ++ [⟨0, ln, 0, []⟩])), 0) ∧ unl ys = unl l := by
 induction l with
 | nil => intro acc ln; exact ⟨[], scF_nil _ _, rfl⟩
 | cons x l ih =>
  intro acc ln
  have hx := h x (by simp)
  cases l with
  | nil =>
   refine ⟨[{ x with n := ln }], ?_, rfl⟩
   have := hx.step [] sepH_nil acc ln
   rw [List.append_nil, scF_nil] at this
   show scF acc x.t ln = _
   rw [this]; simp
  | cons y l =>
   obtain ⟨ys, h1, h2⟩ := ih (fun z hz => h z (by simp [hz])) (acc ++ [{ x with n := ln }]) ln
   refine ⟨{ x with n := ln } :: ys, ?_, ?_⟩
   ·show scF acc (x.t ++ (32 :: joinB (y :: l))) ln = _
    rw [hx.step _ (sepH_32 _), scF_32, h1]
    simp
   ·unfold unl at h2 ⊢
    rw [List.map_cons, h2]
    rfl
theorem back_law {l : Bt} {ts : List Tk} {y : Int} (h : scan l = (some ts, y)) : ∃ ys ln2, ts = ys ++ [⟨0, ln2, 0, []⟩] ∧ (∀ x ∈ ys, TokOk x) ∧ (joinB ys).length ≤ 2 * l.length ∧ ∃ zs, scan (joinB ys) = (some zs, 0) ∧ unl zs = unl ts := by
 obtain ⟨ys, ln2, e1, _, e3, e4⟩ := scan_toks h
 obtain ⟨zs, h1, h2⟩ := scF_joinB ys e3 [] 1
 refine ⟨ys, ln2, e1, e3, ?_, zs ++ [⟨0, 1, 0, []⟩], by rw [scan_F, h1]; rfl, ?_⟩
 ·refine Nat.le_trans (joinB_len ys) ?_
  have key : ∀ zs : List Tk, (∀ x ∈ zs, TokOk x) → tkLen 1 zs ≤ 2 * tkLen 0 zs := by
   intro zs
   induction zs with
   | nil => simp [tkLen]
   | cons x zs ih =>
    intro hz
    have h1 := (hz x (by simp)).pos
    have h2 := ih (fun z hz2 => hz z (by simp [hz2]))
    simp only [tkLen]
    omega
  have := key ys e3
  omega
 ·rw [e1]
  unfold unl at h2 ⊢
  rw [List.map_append, List.map_append, h2]
  rfl
inductive Gap where
 | note
 | two
 | tab
def Gap.bt : Gap → Bt
 | .note => [32, 35, 32, 97, 32, 99, 111, 109, 109, 101, 110, 116, 59, 32, 120, 32, 61, 32, 49, 10]
 | .two => [10, 10]
 | .tab => [9, 32]
def Gap.ln : Gap → Int
 | .note => 1
 | .two => 2
 | .tab => 0
theorem Gap.sep (g : Gap) (r : Bt) : sepH (g.bt ++ r) := by
 cases g <;> (intro c r2 e; injection e with e _; subst e; simp [Gap.bt])
theorem Gap.len (g : Gap) : g.bt.length ≤ 20 := by cases g <;> decide
theorem Gap.skip (g : Gap) (acc : List Tk) (r : Bt) (ln : Int) : scF acc (g.bt ++ r) ln = scF acc r (ln + g.ln) := by
 cases g
 ·show scF acc (32 :: 35 :: ([32, 97, 32, 99, 111, 109, 109, 101, 110, 116, 59, 32, 120, 32, 61, 32, 49] ++ (10 :: r))) ln = _
  rw [scF_32]
  have hrun : run nl8 (35 :: ([32, 97, 32, 99, 111, 109, 109, 101, 110, 116, 59, 32, 120, 32, 61, 32, 49] ++ (10 :: r))) = [35, 32, 97, 32, 99, 111, 109, 109, 101, 110, 116, 59, 32, 120, 32, 61, 32, 49] := by
   rw [← List.cons_append, run_app (by decide), run_stop (by intro c r2 e; injection e with e _; subst e; decide), List.append_nil]
  have hs : stepI ln 35 ([32, 97, 32, 99, 111, 109, 109, 101, 110, 116, 59, 32, 120, 32, 61, 32, 49] ++ (10 :: r)) = .skip 18 0 := by
   unfold stepI
   rw [if_neg (by decide), if_neg (by decide), if_pos (by decide), hrun]
   rfl
  rw [scF_skip hs, Int.add_zero]
  show scF acc (10 :: r) ln = _
  rw [scF_10]
  rfl
 ·show scF acc (10 :: 10 :: r) ln = _
  rw [scF_10, scF_10, Int.add_assoc]
  rfl
 ·show scF acc (9 :: 32 :: r) ln = _
  rw [scF_9, scF_32]
  show _ = scF acc r (ln + 0)
  rw [Int.add_zero]
def gapB : List (Tk × Gap) → Bt
 | [] => []
 | x :: l => x.1.t ++ (x.2.bt ++ gapB l)
def gapL : Int → List (Tk × Gap) → List Int
 | _, [] => []
 | ln, x :: l => ln :: gapL (ln + x.2.ln) l
def gapE : Int → List (Tk × Gap) → Int
 | ln, [] => ln
 | ln, x :: l => gapE (ln + x.2.ln) l
def gapT : Int → List (Tk × Gap) → List Tk
 | _, [] => []
 | ln, x :: l => { x.1 with n := ln } :: gapT (ln + x.2.ln) l
theorem gap_scan (l : List (Tk × Gap)) (h : ∀ x ∈ l, TokOk x.1) : ∀ (acc : List Tk) (ln : Int), scF acc (gapB l) ln = (some (acc ++ (gapT ln l ++ [⟨0, gapE ln l, 0, []⟩])), 0) := by
 induction l with
 | nil => intro acc ln; exact scF_nil _ _
 | cons x l ih =>
  intro acc ln
  show scF acc (x.1.t ++ (x.2.bt ++ gapB l)) ln = _
  rw [(h x (by simp)).step _ (x.2.sep _), x.2.skip, ih (fun z hz => h z (by simp [hz]))]
  simp [gapT, gapE]
theorem gapT_unl (l : List (Tk × Gap)) : ∀ ln, unl (gapT ln l) = unl (l.map (·.1)) := by
 induction l with
 | nil => intro ln; rfl
 | cons x l ih =>
  intro ln
  have := ih (ln + x.2.ln)
  unfold unl at this ⊢
  simp only [gapT, List.map_cons] at this ⊢
  rw [this]
theorem gapT_ln (l : List (Tk × Gap)) : ∀ ln, (gapT ln l).map (·.n) = gapL ln l := by
 induction l with
 | nil => intro ln; rfl
 | cons x l ih => intro ln; simp only [gapT, gapL, List.map_cons, ih]
theorem gapB_len (l : List (Tk × Gap)) : (gapB l).length ≤ tkLen 20 (l.map (·.1)) := by
 induction l with
 | nil => simp [gapB]
 | cons x l ih =>
  have := x.2.len
  simp only [gapB, List.length_append, List.map_cons, tkLen]
  omega
theorem gapB_snoc (l : List (Tk × Gap)) (x : Tk × Gap) : gapB (l ++ [x]) = gapB l ++ (x.1.t ++ x.2.bt) := by
 induction l with
 | nil => simp [gapB]
 | cons y l ih => simp only [List.cons_append, gapB, ih, List.append_assoc]
theorem gapE_snoc (l : List (Tk × Gap)) (x : Tk × Gap) : ∀ ln, gapE ln (l ++ [x]) = gapE ln l + x.2.ln := by
 induction l with
 | nil => intro ln; rfl
 | cons y l ih => intro ln; exact ih _
theorem gapL_snoc (l : List (Tk × Gap)) (x : Tk × Gap) : ∀ ln, gapL ln (l ++ [x]) = gapL ln l ++ [gapE ln l] := by
 induction l with
 | nil => intro ln; rfl
 | cons y l ih => intro ln; simp only [List.cons_append, gapL, gapE, ih]
end Go.Proofs.YtpcdinelpfbpfaaDoor
