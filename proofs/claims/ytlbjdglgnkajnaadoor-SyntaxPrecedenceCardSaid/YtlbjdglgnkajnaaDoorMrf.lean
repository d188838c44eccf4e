/-
  WALKS of the small functions of the reference's scanner. (Filled in from a template of this repo.)
  PLAIN WORDS: what digits mean, by strconv's way and by the reference's; no walk. (Filled in from a template of this repo.)
  WALKS: number and Name of the reference's scanner. (Filled in from a template of this repo.)
  WALK: next of the reference's scanner. (Filled in from a template of this repo.)
  WALK: next of the reference's scanner, at digits and signs. (Filled in from a template of this repo.)
  WALK: Scan of the reference. (Filled in from a template of this repo.)
-/
import Derived.Test.YtlbjdglgnkajnaaDoorMtk
import Derived.Lib.AtoiAllCases
import Derived.Lib.ItoaMem
import Derived.Deep.CutBlock
import Derived.Deep.CutRange
import Derived.Laws.AppendOwn
namespace Go.Proofs.YtlbjdglgnkajnaaDoor
open Go.ChangeShapes Go.WideShapes Go.ChangeAt Go.RowKit
set_option linter.unusedVariables false
set_option linter.unusedSimpArgs false

set_option maxHeartbeats 1000000 in
theorem rletter_n (n : Nat) (w : World) : Calls Tryd.prog 53 #[.int .u8 (n : Int)] w fun e w' => e = .returned (.bool (decide (97 ≤ n ∧ n ≤ 122) || decide (65 ≤ n ∧ n ≤ 90))) ∧ w' = w := by
  by_cases h1 : 97 ≤ n
  · by_cases h2 : n ≤ 122
    · have d1 : decide ((97 : Int) ≤ (n : Int)) = true := by rw [decide_eq_true_iff]; omega
      have d2 : decide ((n : Int) ≤ 122) = true := by rw [decide_eq_true_iff]; omega
      have HE : Hid ((decide (97 ≤ n ∧ n ≤ 122) || decide (65 ≤ n ∧ n ≤ 90)) = true) := Lib.hid (by simp [h1, h2])
      clear h1 h2
      go_enter Tryd.func53, Tryd.ntmps53
      go_wp2
      go_ret
      exact ⟨by rw [HE.out]; rfl, rfl⟩
    · have d1 : decide ((97 : Int) ≤ (n : Int)) = true := by rw [decide_eq_true_iff]; omega
      have d2 : decide ((n : Int) ≤ 122) = false := by rw [decide_eq_false_iff_not]; omega
      have d3 : decide ((65 : Int) ≤ (n : Int)) = true := by rw [decide_eq_true_iff]; omega
      have d4 : decide ((n : Int) ≤ 90) = false := by rw [decide_eq_false_iff_not]; omega
      have HE : Hid ((decide (97 ≤ n ∧ n ≤ 122) || decide (65 ≤ n ∧ n ≤ 90)) = false) := Lib.hid (by simp; omega)
      clear h1 h2
      go_enter Tryd.func53, Tryd.ntmps53
      go_wp2
      go_ret
      exact ⟨by rw [HE.out]; rfl, rfl⟩
  · have d1 : decide ((97 : Int) ≤ (n : Int)) = false := by rw [decide_eq_false_iff_not]; omega
    by_cases h3 : 65 ≤ n
    · have d3 : decide ((65 : Int) ≤ (n : Int)) = true := by rw [decide_eq_true_iff]; omega
      have HE : Hid ((decide (97 ≤ n ∧ n ≤ 122) || decide (65 ≤ n ∧ n ≤ 90)) = decide ((n : Int) ≤ 90)) := Lib.hid (by
        have : decide ((n : Int) ≤ 90) = decide (n ≤ 90) := by rw [decide_eq_decide]; omega
        rw [this]; simp [h1, h3])
      clear h1 h3
      go_enter Tryd.func53, Tryd.ntmps53
      go_wp2
      go_ret
      exact ⟨by rw [HE.out]; simp, rfl⟩
    · have d3 : decide ((65 : Int) ≤ (n : Int)) = false := by rw [decide_eq_false_iff_not]; omega
      have HE : Hid ((decide (97 ≤ n ∧ n ≤ 122) || decide (65 ≤ n ∧ n ≤ 90)) = false) := Lib.hid (by simp [h1, h3])
      clear h1 h3
      go_enter Tryd.func53, Tryd.ntmps53
      go_wp2
      go_ret
      exact ⟨by rw [HE.out]; rfl, rfl⟩
theorem rletter_any (b : UInt8) (w : World) : Calls Tryd.prog 53 #[.int .u8 (b.toNat : Int)] w fun e w' => e = .returned (.bool (lt8 b)) ∧ w' = w := rletter_n b.toNat w
theorem rdigit_n (n : Nat) (w : World) : Calls Tryd.prog 54 #[.int .u8 (n : Int)] w fun e w' => e = .returned (.bool (decide (48 ≤ n ∧ n ≤ 57))) ∧ w' = w := by
  by_cases h1 : 48 ≤ n
  · have d1 : decide ((48 : Int) ≤ (n : Int)) = true := by rw [decide_eq_true_iff]; omega
    have HE : Hid (decide (48 ≤ n ∧ n ≤ 57) = decide ((n : Int) ≤ 57)) := Lib.hid (by rw [decide_eq_decide]; omega)
    clear h1
    go_enter Tryd.func54, Tryd.ntmps54
    go_wp2
    go_ret
    exact ⟨by rw [HE.out]; simp, rfl⟩
  · have d1 : decide ((48 : Int) ≤ (n : Int)) = false := by rw [decide_eq_false_iff_not]; omega
    have HE : Hid (decide (48 ≤ n ∧ n ≤ 57) = false) := Lib.hid (by simp [h1])
    clear h1
    go_enter Tryd.func54, Tryd.ntmps54
    go_wp2
    go_ret
    exact ⟨by rw [HE.out]; rfl, rfl⟩
theorem rdigit_any (b : UInt8) (w : World) : Calls Tryd.prog 54 #[.int .u8 (b.toNat : Int)] w fun e w' => e = .returned (.bool (dg8 b)) ∧ w' = w := rdigit_n b.toNat w
/-- the cells of a list of strings -/
abbrev strs (ls : List Bt) : List Value := ls.map (fun l => Value.string (st l))
theorem strs_get (ls : List Bt) (j : Nat) (h : j < ls.length) : (strs ls)[j]? = some (.string (st (ls.getD j []))) := by simp [List.getD, h]
theorem strs_ne (ls : List Bt) (j : Nat) (h : j < ls.length) : strs ls ≠ [] := by
  intro e; have := congrArg List.length e; simp at this; subst this; simp at h
theorem strs_one (ls : List Bt) : ∀ v ∈ strs ls, v.oneCell' = true := by intro v hv; simp at hv; obtain ⟨z, _, rfl⟩ := hv; rfl
theorem Cells.str {w : World} {a : Option Addr} {ls : List Bt} (h : Cells w a (strs ls)) (j : Nat) (hj : j < ls.length) :
    ∃ b off, a = some ⟨b, off, none⟩ ∧ b < w.heap.size ∧ ∀ i, i < ls.length → w.cell? ⟨b, off + i, none⟩ = some (.string (st (ls.getD i []))) := by
  obtain ⟨b, off, e, hb, hc⟩ := h (strs_ne ls j hj)
  exact ⟨b, off, e, hb, fun i hi => hc i _ (strs_get ls i hi)⟩
theorem contains_at {ls : List Bt} {s : Bt} {k : Nat} (hk : k < ls.length) (h : ls.getD k [] = s) : ls.contains s = true := by
  have e : ls[k] = s := by simpa [List.getD, hk] using h
  simp only [List.contains_iff_mem]
  exact e ▸ List.getElem_mem hk
theorem contains_none {ls : List Bt} {s : Bt} (h : ∀ j, j < ls.length → ls.getD j [] ≠ s) : ls.contains s = false := by
  cases hc : ls.contains s
  · rfl
  · rw [List.contains_iff_mem] at hc
    obtain ⟨j, hj, e⟩ := List.getElem_of_mem hc
    exact absurd (by simpa [List.getD, hj] using e) (h j hj)
set_option maxHeartbeats 1000000 in
theorem in_any (s : Bt) (ls : List Bt) (n cap : Nat) (a : Option Addr) (hn : n = ls.length) (hN : n ≤ maxLen) (w : World) (H : Cells w a (strs ls)) :
    Calls Tryd.prog 69 #[.string (st s), .slice a n cap] w fun e w' => e = .returned (.bool (ls.contains s)) ∧ w' = w := by
  have hN' : n ≤ 9223372036854775807 := hN
  have HN := Lib.hid hn
  clear hn hN
  go_enter Tryd.func69, Tryd.ntmps69
  go_wp2_with fail
  go_loopw [5] (fun v5 wr => ∃ k : Nat, k ≤ n ∧ v5 = .int .i64 k ∧ wr = w ∧ Hid (∀ j, j < k → ls.getD j [] ≠ s)) (fun v _ => n - (intOf v).toNat)
  case atStart => exact ⟨0, by omega, rfl, rfl, Lib.hid (fun j hj => absurd hj (by omega))⟩
  case round =>
    obtain ⟨k, hk, rfl, rfl, HA⟩ := hrel
    by_cases hlt : k < n
    · have hkl : k < ls.length := HN.out ▸ hlt
      obtain ⟨b, off, rfl, hb, hc⟩ := H.str k hkl
      have hc1 := hc k hkl
      have HK := Lib.hid hkl
      clear hkl
      by_cases hz : ls.getD k [] = s
      · have HE := Lib.hid (contains_at HK.out hz)
        rw [hz] at hc1
        clear hz hc
        go_wp2_with fail
        go_ret
        exact ⟨by rw [HE.out]; rfl, rfl⟩
      · have HZ := Lib.hid hz
        obtain ⟨x, hx⟩ : ∃ x, ls.getD k [] = x := ⟨_, rfl⟩
        have HX := Lib.hid hx
        rw [hx] at hc1 hz
        have hne : (x == s) = false := by
          rw [beq_eq_false_iff_ne]; exact hz
        have HM : Hid (∀ j, j < k + 1 → ls.getD j [] ≠ s) := Lib.hid (fun j hj => by
          by_cases e : j = k
          · subst e; exact HZ.out
          · exact HA.out j (by omega))
        clear hx hz hc
        go_wp2_with fail
        go_roundw
        case rel => exact ⟨k + 1, by omega, by go_num, by first | rfl | trivial, HM⟩
        case measure => simp [intOf]; omega
    · obtain rfl : k = n := by omega
      have HE := Lib.hid (contains_none (ls := ls) (s := s) (fun j hj => HA.out j (by rw [HN.out]; exact hj)))
      go_wp2_with fail
      go_ret
      exact ⟨by rw [HE.out]; rfl, rfl⟩
theorem Cells.fresh (w : World) (xs : List Value) (t : TypeId) : Cells (w.alloc (.cells xs.toArray t)) (some ⟨w.heap.size, 0, none⟩) xs := by
  intro _
  refine ⟨w.heap.size, 0, rfl, by simp, fun j u hj => ?_⟩
  rw [Nat.zero_add, World.cell?_alloc_new]
  simpa using hj
theorem below_alloc (w : World) (o : Obj) : Below w.heap.size w (w.alloc o) := (Below.refl _ _).alloc (Nat.le_refl _) _
set_option maxHeartbeats 1000000 in
theorem RWord_any (s : Bt) (w : World) : Calls Tryd.prog 55 #[.string (st s)] w fun e w' => e = .returned (.bool (isW s)) ∧ Below w.heap.size w w' := by
  go_enter Tryd.func55, Tryd.ntmps55
  go_wp2_with fail
  refine (in_any s wordsL 10 10 _ rfl (by decide) _ (Cells.fresh w (strs wordsL) _)).mono ?_
  rintro e w1 ⟨rfl, rfl⟩
  rw [show wordsL.contains s = isW s from rfl]
  go_wp2_with fail
  go_ret
  exact ⟨rfl, below_alloc _ _⟩
set_option maxHeartbeats 1000000 in
theorem RSign_any (s : Bt) (w : World) : Calls Tryd.prog 58 #[.string (st s)] w fun e w' => e = .returned (.bool (isS s)) ∧ Below w.heap.size w w' := by
  go_enter Tryd.func58, Tryd.ntmps58
  go_wp2_with fail
  refine (in_any s signsL 22 22 _ rfl (by decide) _ (Cells.fresh w (strs signsL) _)).mono ?_
  rintro e w1 ⟨rfl, rfl⟩
  rw [show signsL.contains s = isS s from rfl]
  go_wp2_with fail
  go_ret
  exact ⟨rfl, below_alloc _ _⟩
end Go.Proofs.YtlbjdglgnkajnaaDoor
namespace Go.Proofs.YtlbjdglgnkajnaaDoor
set_option linter.unusedVariables false
set_option linter.unusedSimpArgs false

def decF (a : Nat) (l : Bt) : Nat := l.foldl (fun a c => 10 * a + (c.toNat - 48)) a
def decN (l : Bt) : Nat := decF 0 l
theorem decF_nil (a : Nat) : decF a [] = a := rfl
theorem decF_cons (a : Nat) (c : UInt8) (l : Bt) : decF a (c :: l) = decF (10 * a + (c.toNat - 48)) l := by unfold decF; simp only [List.foldl_cons]
theorem decF_push (a : Nat) (l : Bt) (c : UInt8) : decF a (l ++ [c]) = 10 * decF a l + (c.toNat - 48) := by unfold decF; simp only [List.foldl_append, List.foldl_cons, List.foldl_nil]
theorem decF_ge (a : Nat) (l : Bt) : a ≤ decF a l := by
  induction l generalizing a with
  | nil => exact Nat.le_refl _
  | cons c l ih =>
    rw [decF_cons]
    exact Nat.le_trans (show a ≤ 10 * a + (c.toNat - 48) by omega) (ih _)
theorem decN_take_le (l : Bt) (k : Nat) : decN (l.take k) ≤ decN l := by
  have h : decN l = decF (decN (l.take k)) (l.drop k) := by
    unfold decN decF
    rw [← List.foldl_append, List.take_append_drop]
  rw [h]; exact decF_ge _ _
theorem decN_take_succ (l : Bt) (k : Nat) (c : UInt8) (h : l[k]? = some c) : decN (l.take (k + 1)) = 10 * decN (l.take k) + (c.toNat - 48) := by
  have : l.take (k + 1) = l.take k ++ [c] := by rw [List.take_add_one, h]; rfl
  rw [this]; exact decF_push _ _ _
def allD (l : Bt) : Prop := ∀ c ∈ l, 48 ≤ c.toNat ∧ c.toNat ≤ 57
theorem parseU_dec (l : Bt) (a : Nat) (hd : allD l) : Lib.parseUint10 a l = if decF a l < 18446744073709551616 ∨ l = [] then .ok (decF a l) else .range := by
  induction l generalizing a with
  | nil => simp [Lib.parseUint10, decF_nil]
  | cons c l ih =>
    have hc := hd c (by simp)
    have hl : allD l := fun x hx => hd x (by simp [hx])
    rw [Lib.parseUint10, if_pos hc, decF_cons]
    have e : a * 10 + (c.toNat - 48) = 10 * a + (c.toNat - 48) := by omega
    have g := decF_ge (10 * a + (c.toNat - 48)) l
    rw [e]
    by_cases h1 : 1844674407370955162 ≤ a
    · rw [if_pos h1, if_neg (by simp; omega)]
    · rw [if_neg h1]
      by_cases h2 : 18446744073709551616 ≤ 10 * a + (c.toNat - 48)
      · rw [if_pos h2, if_neg (by simp; omega)]
      · rw [if_neg h2, ih _ hl]
        by_cases h3 : l = []
        · subst h3; simp [decF_nil]; omega
        · simp [h3]
theorem atoi_dec (l : Bt) (hd : allD l) (hne : l ≠ []) : Lib.atoiAll l = if decN l < 9223372036854775808 then .ok (decN l : Int) else .range := by
  cases l with
  | nil => exact absurd rfl hne
  | cons c r =>
    have hc := hd c (by simp)
    rw [Lib.atoiAll_plain c r (by omega) (by omega)]
    unfold Lib.parseMag
    rw [if_neg (by simp), parseU_dec _ _ hd, ← show decN (c :: r) = decF 0 (c :: r) from rfl]
    by_cases h : decN (c :: r) < 18446744073709551616
    · rw [if_pos (Or.inl h)]
      unfold Lib.signless
      by_cases h2 : decN (c :: r) < 9223372036854775808
      · rw [if_pos h2]; simp only; rw [if_neg (by omega)]
      · rw [if_neg h2]; simp only; rw [if_pos (by omega)]
    · rw [if_neg (fun e => e.elim h (fun e => by cases e)), if_neg (by omega)]; rfl
theorem decN_pos (c : UInt8) (r : Bt) (h : 49 ≤ c.toNat) : 1 ≤ decN (c :: r) := by
  have := decF_ge (10 * 0 + (c.toNat - 48)) r
  show 1 ≤ decF 0 (c :: r)
  rw [decF_cons]; omega
theorem of_dig (c : UInt8) (h : 48 ≤ c.toNat) : UInt8.ofNat (48 + (c.toNat - 48)) = c := by
  rw [show 48 + (c.toNat - 48) = c.toNat by omega]
  exact UInt8.ofNat_toNat
theorem decDigits_dec (l : Bt) : allD l → ∀ (c : UInt8) (r : Bt), l = c :: r → (49 ≤ c.toNat ∨ r = []) → Lib.decDigits (decN l) = l := by
  have key : ∀ (n : Nat) (l : Bt), l.length = n → allD l → ∀ (c : UInt8) (r : Bt), l = c :: r → (49 ≤ c.toNat ∨ r = []) → Lib.decDigits (decN l) = l := by
    intro n
    induction n with
    | zero => intro l hl _ c r e; subst e; simp at hl
    | succ n ih =>
      intro l hl hd c r e hz
      rcases List.eq_nil_or_concat l with rfl | ⟨l', x, rfl⟩
      · cases e
      · rw [List.concat_eq_append] at *
        have hx := hd x (by simp)
        have e2 : decN (l' ++ [x]) = 10 * decN l' + (x.toNat - 48) := decF_push _ _ _
        cases l' with
        | nil =>
          rw [e2]
          show Lib.decDigits (10 * 0 + (x.toNat - 48)) = [x]
          rw [Lib.decDigits, dif_pos (by omega), Nat.mul_zero, Nat.zero_add, of_dig x hx.1]
        | cons c' r' =>
          have hh : c' = c ∧ r' ++ [x] = r := by simpa using e
          obtain ⟨rfl, rfl⟩ := hh
          have h49 : 49 ≤ c'.toNat := hz.resolve_right (by simp)
          have hp := decN_pos c' r' h49
          have h3 := ih (c' :: r') (by simp at hl; simp; omega) (fun y hy => hd y (List.mem_append_left _ hy)) c' r' rfl (.inl h49)
          rw [e2, Lib.decDigits, dif_neg (by omega)]
          rw [show (10 * decN (c' :: r') + (x.toNat - 48)) / 10 = decN (c' :: r') by omega, h3, show (10 * decN (c' :: r') + (x.toNat - 48)) % 10 = x.toNat - 48 by omega, of_dig x hx.1]
  exact key _ l rfl
theorem decDigits_head (u : Nat) : 1 ≤ u → ∃ c r, Lib.decDigits u = c :: r ∧ 49 ≤ c.toNat := by
  induction u using Nat.strongRecOn with
  | _ u ih =>
    intro h1
    by_cases h : u < 10
    · refine ⟨_, [], Lib.decDigits_one h, ?_⟩
      rw [UInt8.toNat_ofNat']; omega
    · obtain ⟨c, r, e, hc⟩ := ih (u / 10) (by omega) (by omega)
      refine ⟨c, r ++ [UInt8.ofNat (48 + u % 10)], ?_, hc⟩
      rw [Lib.decDigits, dif_neg h, e]; rfl
theorem itoa_dec (c : UInt8) (r : Bt) (hd : allD (c :: r)) : (Lib.itoa (decN (c :: r) : Int) == c :: r) = decide (49 ≤ c.toNat ∨ r = []) := by
  have hc := hd c (by simp)
  rw [Lib.itoa_nonneg]
  by_cases h : 49 ≤ c.toNat ∨ r = []
  · rw [decDigits_dec _ hd c r rfl h]; simp [h]
  · rw [decide_eq_false h, beq_eq_false_iff_ne]
    intro e
    by_cases h0 : decN (c :: r) = 0
    · rw [h0, Lib.decDigits_one (by omega)] at e
      have := congrArg List.length e
      simp at this
      exact h (.inr (by simpa using this))
    · obtain ⟨c', r', e', hc'⟩ := decDigits_head (decN (c :: r)) (by omega)
      rw [e'] at e
      injection e with e1 e2
      subst e1
      exact h (.inl hc')
end Go.Proofs.YtlbjdglgnkajnaaDoor
namespace Go.Proofs.YtlbjdglgnkajnaaDoor
open Go.ChangeShapes Go.WideShapes Go.ChangeAt Go.RowKit
set_option linter.unusedVariables false
set_option linter.unusedSimpArgs false

theorem st_data' (s : ByteArray) : ∃ l, s = st l := ⟨s.data.toList, (st_data s).symm⟩
theorem st_at (l : Bt) (k : Nat) (h : k < (st l).size) : (st l)[k] = l[k] := rfl
/-- what number answers -/
def rnV (l : Bt) : Int := if decN l < 9223372036854775808 then (decN l : Int) else 0
def rnO (l : Bt) : Bool := decide (decN l < 9223372036854775808)
set_option maxHeartbeats 1000000 in
theorem number_any (l : Bt) (hd : allD l) (hl : l.length ≤ 281474976710656) (w : World) :
    Calls Tryd.prog 57 #[.string (st l)] w fun e w' => e = .returned (.tuple #[.int .i64 (rnV l), .bool (rnO l)]) ∧ w' = w := by
  have HD := Lib.hid hd
  have hs : (st l).size = l.length := rfl
  obtain ⟨s, hS⟩ : ∃ s, s = st l := ⟨_, rfl⟩
  obtain ⟨m, hm⟩ : ∃ m, m = l.length := ⟨_, rfl⟩
  have hsz : s.size = m := by rw [hS, hm]; rfl
  rw [← hS]
  have HS := Lib.hid hS
  have HM := Lib.hid hm
  rw [← hm] at hl
  clear hs hd hS hm
  have HSZ := Lib.hid hsz
  have hsl : s.size ≤ 281474976710656 := by omega
  clear hsz
  go_enter Tryd.func57, Tryd.ntmps57
  go_wp2_with fail
  go_loopw [4, 5] (fun v4 v5 wr => ∃ k n : Nat, k ≤ s.size ∧ v5 = .int .i64 k ∧ v4 = .int .i64 n ∧ wr = w ∧ n < 9223372036854775808 ∧ Hid (n = decN (l.take k))) (fun v4 v5 _ => s.size - (intOf v5).toNat)
  case atStart => exact ⟨0, 0, by omega, rfl, rfl, rfl, by omega, Lib.hid rfl⟩
  case round =>
    obtain ⟨k, n, hk, rfl, rfl, rfl, hn, HN⟩ := hrel
    by_cases hlt : k < s.size
    · obtain ⟨b, hb⟩ : ∃ b, s[k] = b := ⟨_, rfl⟩
      have hkb : l[k]? = some b := by
        have := st_get s k hlt
        rw [hb, HS.out] at this
        simpa using this
      have hbd := HD.out b (List.mem_of_getElem? hkb)
      have HKB := Lib.hid hkb
      clear hkb
      have hu : IntKind.u8.wrap ((b.toNat : Int) - 48) = (b.toNat : Int) - 48 := by unfold IntKind.wrap; simp [IntKind.signed, IntKind.bits]; omega
      have HT : Hid (decN (l.take (k + 1)) = 10 * n + (b.toNat - 48)) := Lib.hid (by rw [decN_take_succ l k b HKB.out, HN.out])
      have HLE := Lib.hid (decN_take_le l (k + 1))
      by_cases hov : (9223372036854775807 - ((b.toNat : Int) - 48)) / 10 < (n : Int)
      · have d1 : decide ((9223372036854775807 - ((b.toNat : Int) - 48)) / 10 < (n : Int)) = true := by simpa using hov
        have HB : Hid (rnV l = 0 ∧ rnO l = false) := Lib.hid (by have h1 := HT.out; have h2 := HLE.out; have h3 : ¬ decN l < 9223372036854775808 := (by omega); exact ⟨if_neg h3, decide_eq_false h3⟩)
        clear hov
        go_wp2_with fail
        go_ret2
        exact ⟨by rw [HB.out.1, HB.out.2]; rfl, rfl⟩
      · have d1 : decide ((9223372036854775807 - ((b.toNat : Int) - 48)) / 10 < (n : Int)) = false := by simpa using hov
        have hn2 : 10 * n + (b.toNat - 48) < 9223372036854775808 := by omega
        have hn3 : 10 * (n : Int) + ((b.toNat : Int) - 48) ≤ 9223372036854775807 := by omega
        have hn4 : 10 * (n : Int) ≤ 9223372036854775807 := by omega
        have HC : Hid (10 * (n : Int) + ((b.toNat : Int) - 48) = ((10 * n + (b.toNat - 48) : Nat) : Int)) := Lib.hid (by omega)
        clear hov
        go_wp2_with fail
        go_roundw
        case rel => exact ⟨k + 1, 10 * n + (b.toNat - 48), by omega, by go_num, by rw [HC.out], by first | rfl | trivial, hn2, Lib.hid HT.out.symm⟩
        case measure => simp [intOf]; omega
    · obtain rfl : k = s.size := by omega
      have HE : Hid (rnV l = (n : Int) ∧ rnO l = true) := Lib.hid (by
        have h2 : s.size = l.length := by rw [HS.out]; rfl
        have h3 := HN.out; rw [h2, List.take_length] at h3; rw [h3] at hn ⊢; exact ⟨if_pos hn, decide_eq_true hn⟩)
      go_wp2_with fail
      go_ret2
      exact ⟨by rw [HE.out.1, HE.out.2]; rfl, rfl⟩
set_option maxHeartbeats 2000000 in
theorem Name_any (l : Bt) (b0 : UInt8) (r : Bt) (hl0 : l = b0 :: r) (h0 : lt8 b0 = true) (hw : isW l = false) (hall : ∀ c ∈ l, in8 c = true) (hl : l.length ≤ 281474976710656) (w : World) :
    Calls Tryd.prog 56 #[.string (st l)] w fun e w' => e = .returned (.bool (decide (l.length ≤ 32))) ∧ Below w.heap.size w w' := by
  have HALL := Lib.hid hall
  have HW := Lib.hid hw
  have H0 := Lib.hid h0
  have HCW := Lib.hid (fun (v : World) => RWord_any l v)
  have hs : (st l).size = l.length := rfl
  obtain ⟨s, hS⟩ : ∃ s, s = st l := ⟨_, rfl⟩
  have hsz : s.size = l.length := by rw [hS]; rfl
  rw [← hsz] at hl ⊢
  have hpos : 0 < s.size := by rw [hsz, hl0]; simp
  have hb0 : s[0] = b0 := by
    have h1 := st_get s 0 hpos
    have h2 : s.data.toList = b0 :: r := by rw [hS, ← hl0]
    rw [h2] at h1
    simpa using h1.symm
  rw [← hS] at HCW ⊢
  have HS := Lib.hid hS
  clear hS hs hsz hall hw h0
  clear hl0
  have hz : ((s.size : Int) == 0) = false := by rw [beq_eq_false_iff_ne]; omega
  have hz2 : ¬ s = ByteArray.empty := by intro e; rw [e] at hpos; exact absurd hpos (by decide)
  by_cases hlen : s.size ≤ 32
  · have d1 : decide (s.size ≤ 32) = true := by simpa using hlen
    have d2 : decide (32 < s.size) = false := by simp; omega
    have d3 : decide ((32 : Int) < (s.size : Int)) = false := by simp; omega
    have HR : Hid (decide (s.size ≤ 32) = true) := Lib.hid d1
    rw [d1]
    clear d1
    go_enter Tryd.func56, Tryd.ntmps56
    go_wp2_with fail
    try rw [hb0]
    refine (rletter_any b0 _).mono ?_
    rintro e w1 ⟨rfl, rfl⟩
    rw [H0.out]
    go_wp2_with fail
    refine (HCW.out _).mono ?_
    rintro e w1 ⟨rfl, hb1⟩
    rw [HW.out]
    go_wp2_with fail
    go_loopw [3] (fun v3 wr => ∃ k : Nat, k ≤ s.size ∧ v3 = .int .i64 k ∧ wr = w1) (fun v3 _ => s.size - (intOf v3).toNat)
    case atStart => exact ⟨0, by omega, rfl, rfl⟩
    case round =>
      obtain ⟨k, hk, rfl, rfl⟩ := hrel
      by_cases hlt : k < s.size
      · obtain ⟨b, hb⟩ : ∃ b, s[k] = b := ⟨_, rfl⟩
        have hin : in8 b = true := by
          have h1 := st_get s k hlt
          rw [hb, HS.out] at h1
          exact HALL.out b (List.mem_of_getElem? h1)
        go_wp2_with fail
        try rw [hb]
        refine (rletter_any b _).mono ?_
        rintro e w2 ⟨rfl, rfl⟩
        cases h1 : lt8 b
        · go_wp2_with fail
          try rw [hb]
          refine (rdigit_any b _).mono ?_
          rintro e w2 ⟨rfl, rfl⟩
          cases h2 : dg8 b
          · have h95 : b.toNat = 95 := by
              unfold in8 at hin; rw [h1, h2] at hin; simpa using hin
            have hd : ((b.toNat : Int) != 95) = false := by rw [h95]; rfl
            go_wp2_with fail
            go_roundw
            case rel => exact ⟨k + 1, by omega, by go_num, by first | rfl | trivial⟩
            case measure => simp [intOf]; omega
          · go_wp2_with fail
            go_roundw
            case rel => exact ⟨k + 1, by omega, by go_num, by first | rfl | trivial⟩
            case measure => simp [intOf]; omega
        · go_wp2_with fail
          go_roundw
          case rel => exact ⟨k + 1, by omega, by go_num, by first | rfl | trivial⟩
          case measure => simp [intOf]; omega
      · obtain rfl : k = s.size := by omega
        go_wp2_with fail
        go_ret
        exact ⟨rfl, hb1⟩
  · have d1 : decide (s.size ≤ 32) = false := by simpa using hlen
    have d2 : decide (32 < s.size) = true := by simp; omega
    have d3 : decide ((32 : Int) < (s.size : Int)) = true := by simp; omega
    rw [d1]
    clear d1
    go_enter Tryd.func56, Tryd.ntmps56
    go_wp2_with fail
    go_ret
    exact ⟨rfl, Below.refl _ _⟩
end Go.Proofs.YtlbjdglgnkajnaaDoor
namespace Go.Proofs.YtlbjdglgnkajnaaDoor
open Go.ChangeShapes Go.WideShapes Go.ChangeAt Go.RowKit
set_option linter.unusedVariables false
set_option linter.unusedSimpArgs false

/-- what the reference's next answers at an index: the token, and where it ends; or false -/
def RnPost (l : Bt) (i ln : Int) (w : World) (e : Ending) (w' : World) : Prop :=
  Below w.heap.size w w' ∧ ∃ (k x v : Int) (t : Bt) (m : Int) (ok : Bool), e = .returned (.tuple #[tkv k x v t, .int .i64 m, .bool ok]) ∧
    ((ok = true ∧ x = ln ∧ m = i + t.length ∧ nxI l = (k, v, t, true)) ∨ (ok = false ∧ (nxI l).2.2.2 = false))
theorem run_end {p : UInt8 → Bool} {l : Bt} {i k : Nat} (hik : i ≤ k) (hk : k ≤ l.length) (h : ∀ j, i ≤ j → j < k → ∃ b, l[j]? = some b ∧ p b = true) (he : ∀ b, l[k]? = some b → p b = false) : run p (l.drop i) = (l.take k).drop i := by
  rw [List.drop_take]
  have hj : ∀ j, j < k - i → ∃ b, (l.drop i)[j]? = some b ∧ p b = true := fun j hj => by
    rw [List.getElem?_drop]; exact h (i + j) (by omega) (by omega)
  by_cases hkl : k < l.length
  · refine run_at hj (l[k]) ?_ (he _ (List.getElem?_eq_getElem hkl))
    rw [List.getElem?_drop, show i + (k - i) = k by omega, List.getElem?_eq_getElem hkl]
  · have e : k - i = (l.drop i).length := by simp; omega
    rw [e, List.take_length]
    exact run_all (fun j hj2 => hj j (by rw [e]; exact hj2))
theorem run_end_len {p : UInt8 → Bool} {l : Bt} {i k : Nat} (hik : i ≤ k) (hk : k ≤ l.length) (h : ∀ j, i ≤ j → j < k → ∃ b, l[j]? = some b ∧ p b = true) (he : ∀ b, l[k]? = some b → p b = false) : i + (run p (l.drop i)).length = k := by
  rw [run_end hik hk h he]; simp; omega
theorem rn_more {p : UInt8 → Bool} {l : Bt} {i k : Nat} {c : UInt8} (h : ∀ j, i ≤ j → j < k → ∃ b, l[j]? = some b ∧ p b = true) (hc : l[k]? = some c) (hp : p c = true) : ∀ j, i ≤ j → j < k + 1 → ∃ b, l[j]? = some b ∧ p b = true := fun j h1 h2 => by
  by_cases e : j = k
  · subst e; exact ⟨c, hc, hp⟩
  · exact h j h1 (by omega)
theorem isW_len {t : Bt} (h : isW t = true) : t.length ≤ 32 := by
  unfold isW at h
  rw [List.contains_iff_mem] at h
  exact (show ∀ x ∈ wordsL, x.length ≤ 32 by decide) t h
theorem run_mono {p q : UInt8 → Bool} (h : ∀ b, p b = true → q b = true) (l : Bt) : (run p l).length ≤ (run q l).length := by
  induction l with
  | nil => exact Nat.le_refl _
  | cons x l ih =>
    unfold run at ih ⊢
    rw [List.takeWhile_cons, List.takeWhile_cons]
    by_cases hx : p x = true
    · rw [if_pos hx, if_pos (h x hx)]; simp; exact ih
    · rw [if_neg hx]; simp
theorem run_allD (l : Bt) : allD (run dg8 l) := fun c hc => by
  have := List.all_eq_true.1 (List.all_takeWhile (p := dg8) (l := l)) c hc
  unfold dg8 at this
  simpa using this
theorem nx_num {l : Bt} {b : UInt8} {rest : Bt} (hl : l = b :: rest) (h1 : lt8 b = false) (h2 : dg8 b = true) (t : Bt) (ht : t = run dg8 l) (bad : Bool)
    (hbad : bad = (decide (t.length < (run in8 l).length) || (decide (b.toNat = 48) && decide (1 < t.length)))) :
    ((rnO t && !bad) = true ∧ nxI l = (2, rnV t, t, true)) ∨ ((rnO t && !bad) = false ∧ (nxI l).2.2.2 = false) := by
  have hnx : nxI l = (match Lib.atoiAll t with
      | .ok v => (2, v, t, (Lib.itoa v == t) && decide ((run in8 l).length = t.length))
      | _ => (2, 0, t, false)) := by
    rw [ht, hl]; show (if lt8 b then _ else _) = _; rw [h1]; simp only [Bool.false_eq_true, if_false]; rw [h2]; simp only [if_true]; rfl
  have hD : allD t := ht ▸ run_allD l
  obtain ⟨r, hr⟩ : ∃ r, t = b :: r := by
    rw [ht, hl]; unfold run; rw [List.takeWhile_cons, h2, if_pos rfl]; exact ⟨_, rfl⟩
  have hle : t.length ≤ (run in8 l).length := by
    rw [ht]; exact run_mono (fun c hc => by unfold in8; rw [hc]; simp) l
  have h48 : 48 ≤ b.toNat := (hD b (by rw [hr]; simp)).1
  rw [hnx, atoi_dec t hD (by rw [hr]; simp)]
  by_cases hn : decN t < 9223372036854775808
  · rw [if_pos hn, show rnO t = true from decide_eq_true hn, show rnV t = (decN t : Int) from if_pos hn, Bool.true_and]
    dsimp only
    have hi : (Lib.itoa (decN t : Int) == t) = decide (49 ≤ b.toNat ∨ r = []) := by
      rw [hr] at hD ⊢; exact itoa_dec b r hD
    have hz : ((Lib.itoa (decN t : Int) == t) && decide ((run in8 l).length = t.length)) = !bad := by
      rw [hi, hbad]
      have hr1 : (1 < t.length) ↔ ¬ r = [] := by rw [hr]; cases r <;> simp
      rw [Bool.eq_iff_iff]
      simp only [Bool.and_eq_true, decide_eq_true_eq, Bool.not_eq_true', Bool.or_eq_false_iff, Bool.and_eq_false_iff, decide_eq_false_iff_not, hr1]
      constructor
      · rintro ⟨ha, hb⟩
        refine ⟨by omega, ?_⟩
        rcases ha with ha | ha
        · exact .inl (by omega)
        · exact .inr (fun h => h ha)
      · rintro ⟨ha, hb⟩
        refine ⟨?_, by omega⟩
        rcases hb with hb | hb
        · exact .inl (by omega)
        · exact .inr (Classical.not_not.1 hb)
    rw [hz]
    cases bad
    · exact .inl ⟨rfl, rfl⟩
    · exact .inr ⟨rfl, rfl⟩
  · rw [if_neg hn, show rnO t = false from decide_eq_false hn]
    exact .inr ⟨rfl, rfl⟩
theorem run_next {p q : UInt8 → Bool} (hpq : ∀ b, p b = true → q b = true) (L : Bt) (c : UInt8) (hc : L[(run p L).length]? = some c) : decide ((run p L).length < (run q L).length) = q c := by
  induction L with
  | nil => simp at hc
  | cons x L ih =>
    unfold run at ih hc ⊢
    rw [List.takeWhile_cons] at hc ⊢
    by_cases hx : p x = true
    · rw [if_pos hx] at hc ⊢
      rw [List.takeWhile_cons, if_pos (hpq x hx)]
      have := ih (by simpa using hc)
      rw [← this]
      simp
    · rw [if_neg hx] at hc ⊢
      have : x = c := by simpa using hc
      subst this
      rw [List.takeWhile_cons]
      cases hq : q x <;> simp
theorem rn_start (w : World) (ln : Int) : ∀ W, W = ((w.alloc (.cells #[.int .i64 0, .int .i64 0, .int .i64 0, .string { data := #[] }] 59)).alloc (.cells #[.int .i64 0, .int .i64 ln, .int .i64 0, .string { data := #[] }] 59)) → Below w.heap.size w W ∧ W.heap[w.heap.size]? = some (.cells #[.int .i64 0, .int .i64 0, .int .i64 0, .string { data := #[] }] 59 (0, 0)) ∧ W.heap[w.heap.size + 1]? = some (.cells #[.int .i64 0, .int .i64 ln, .int .i64 0, .string { data := #[] }] 59 (0, 0)) := fun W hW => by
  subst hW
  refine ⟨((Below.refl _ _).alloc (Nat.le_refl _) _).alloc (by simp) _, ?_, ?_⟩
  · rw [Below.heap_alloc _ _ _ (by simp)]; exact heap_alloc_new w _
  · have := heap_alloc_new (w.alloc (.cells #[.int .i64 0, .int .i64 0, .int .i64 0, .string { data := #[] }] 59)) (.cells #[.int .i64 0, .int .i64 ln, .int .i64 0, .string { data := #[] }] 59)
    simpa using this
set_option maxRecDepth 100000 in
set_option maxHeartbeats 4000000 in
theorem Rnext_letter (s : ByteArray) (i : Nat) (ln : Int) (hs : s.size ≤ 281474976710656) (hi : i < s.size) (b : UInt8) (hb : s[i] = b) (h1 : lt8 b = true) (w : World) : Calls Tryd.prog 33 #[.string s, .int .i64 i, .int .i64 ln] w (RnPost (s.data.toList.drop i) i ln w) := by
  have H1 := Lib.hid h1
  clear h1
  have HZ := Lib.hid (rn_start w ln)
  obtain ⟨t, ht⟩ : ∃ t, t = run in8 (s.data.toList.drop i) := ⟨_, rfl⟩
  obtain ⟨K, hK⟩ : ∃ K, K = i + t.length := ⟨_, rfl⟩
  have HX : Hid (s.extract i K = st t) := Lib.hid (by
    rw [st_ext, List.drop_take, hK, Nat.add_sub_cancel_left, ht]
    congr 1
    unfold run
    exact (List.prefix_iff_eq_take.1 (List.takeWhile_prefix _)).symm)
  have HTL : Hid (t.length ≤ s.size - i) := Lib.hid (by rw [ht]; refine Nat.le_trans (run_len _ _) ?_; rw [List.length_drop, st_len]; exact Nat.le_refl _)
  have HALL : Hid (∀ c ∈ t, in8 c = true) := Lib.hid (fun c hc => by rw [ht] at hc; exact List.all_eq_true.1 List.all_takeWhile c hc)
  have hgi := st_get s i hi
  rw [hb] at hgi
  obtain ⟨r0, hr0⟩ : ∃ r0, t = b :: r0 := by
    have hd : s.data.toList.drop i = b :: s.data.toList.drop (i + 1) := by
      obtain ⟨hlt, he⟩ := List.getElem?_eq_some_iff.1 hgi
      rw [List.drop_eq_getElem_cons hlt, he]
    rw [ht, hd]
    unfold run
    rw [List.takeWhile_cons, show in8 b = true by unfold in8; rw [H1.out]; rfl, if_pos rfl]
    exact ⟨_, rfl⟩
  have HT0 := Lib.hid hr0
  have HNX : Hid (nxI (s.data.toList.drop i) = (if isW t then 3 else 1, 0, t, decide (t.length ≤ 32))) := Lib.hid (by
    have hd : s.data.toList.drop i = b :: s.data.toList.drop (i + 1) := by
      obtain ⟨hlt, he⟩ := List.getElem?_eq_some_iff.1 hgi
      rw [List.drop_eq_getElem_cons hlt, he]
    rw [hd] at ht ⊢
    show (if lt8 b then _ else _) = _
    rw [H1.out, if_pos rfl, ← ht])
  have HTM : Hid (t.length ≤ 281474976710656) := Lib.hid (by have := HTL.out; omega)
  clear hr0 hgi
  have HT := Lib.hid ht
  have HK := Lib.hid hK
  clear hK ht
  go_enter Tryd.func33, Tryd.ntmps33
  go_wp2_with fail
  refine (rletter_any b _).mono ?_
  rintro e w1 ⟨rfl, rfl⟩
  rw [H1.out]
  obtain ⟨wa, hwa⟩ : ∃ wa, wa = ((w.alloc (.cells #[.int .i64 0, .int .i64 0, .int .i64 0, .string { data := #[] }] 59)).alloc (.cells #[.int .i64 0, .int .i64 ln, .int .i64 0, .string { data := #[] }] 59)) := ⟨_, rfl⟩
  rw [← hwa]
  obtain ⟨hba, hb2, hb5⟩ := HZ.out wa hwa
  obtain ⟨g5, hg5⟩ : ∃ g5, w.heap.size + 1 = g5 := ⟨_, rfl⟩
  obtain ⟨g2, hg2⟩ : ∃ g2, w.heap.size = g2 := ⟨_, rfl⟩
  rw [hg5] at hb5 ⊢
  rw [hg2] at hb2
  try rw [hg2]
  have HBA := Lib.hid hba
  have HG : Hid (w.heap.size ≤ g2 ∧ w.heap.size ≤ g5 ∧ g2 ≠ g5) := Lib.hid (by omega)
  have HB2 := Lib.hid hb2
  have HB5 := Lib.hid hb5
  clear hwa hba hg5 hg2 hb2 hb5
  go_upto_block 1 with fail
  go_cut [9] from 22 to 45 (fun v9 wx => v9 = .int .i64 K ∧ wx = wa)
  case first =>
    go_wp2_with fail
    go_loopw [9] (fun v9 wr => ∃ k : Nat, i ≤ k ∧ k ≤ s.size ∧ v9 = .int .i64 k ∧ wr = wa ∧ Hid (∀ j, i ≤ j → j < k → ∃ b, s.data.toList[j]? = some b ∧ in8 b = true)) (fun v _ => s.size - (intOf v).toNat)
    case atStart => exact ⟨i, by omega, by omega, rfl, rfl, Lib.hid (fun j h1 h2 => absurd h2 (by omega))⟩
    case round =>
      obtain ⟨k, hk0, hk, rfl, rfl, HA⟩ := hrel
      by_cases hlt : k < s.size
      · have HGK := Lib.hid (st_get s k hlt)
        obtain ⟨c, hc⟩ : ∃ c, s[k] = c := ⟨_, rfl⟩
        rw [hc] at HGK
        go_wp2_with fail
        try rw [hc]
        refine (rletter_any c _).mono ?_
        rintro e w1 ⟨rfl, rfl⟩
        cases h1 : lt8 c
        · go_wp2_with fail
          try rw [hc]
          refine (rdigit_any c _).mono ?_
          rintro e w1 ⟨rfl, rfl⟩
          cases h2 : dg8 c
          · by_cases h95 : c.toNat = 95
            · have hd : ((c.toNat : Int) == 95) = true := by rw [h95]; rfl
              have HIN : Hid (in8 c = true) := Lib.hid (by unfold in8; simp [h95])
              go_wp2_with fail
              go_roundw
              case rel => exact ⟨k + 1, by omega, by omega, by go_num, by first | rfl | trivial, Lib.hid (rn_more HA.out HGK.out HIN.out)⟩
              case measure => simp [intOf]; omega
            · have hd : ((c.toNat : Int) == 95) = false := by rw [beq_eq_false_iff_ne]; omega
              have HIN : Hid (in8 c = false) := Lib.hid (by unfold in8; simp [h1, h2, h95])
              have HKK : Hid (K = k) := Lib.hid (by rw [HK.out, HT.out]; exact run_end_len hk0 (by rw [st_len]; exact hk) HA.out (fun b hb => by rw [HGK.out] at hb; injection hb with hb; subst hb; exact HIN.out))
              go_wp2_with fail
              go_meet
              exact ⟨by rw [HKK.out], rfl⟩
          · have HIN : Hid (in8 c = true) := Lib.hid (by unfold in8; simp [h2])
            go_wp2_with fail
            go_roundw
            case rel => exact ⟨k + 1, by omega, by omega, by go_num, by first | rfl | trivial, Lib.hid (rn_more HA.out HGK.out HIN.out)⟩
            case measure => simp [intOf]; omega
        · have HIN : Hid (in8 c = true) := Lib.hid (by unfold in8; simp [h1])
          go_wp2_with fail
          go_roundw
          case rel => exact ⟨k + 1, by omega, by omega, by go_num, by first | rfl | trivial, Lib.hid (rn_more HA.out HGK.out HIN.out)⟩
          case measure => simp [intOf]; omega
      · obtain rfl : k = s.size := by omega
        have HKK : Hid (K = s.size) := Lib.hid (by rw [HK.out, HT.out]; exact run_end_len hk0 (by rw [st_len]; exact hk) HA.out (fun b hb => by
          have := (List.getElem?_eq_some_iff.1 hb).1
          rw [st_len] at this; omega))
        go_wp2_with fail
        go_meet
        exact ⟨by rw [HKK.out], rfl⟩
  case rest =>
    obtain ⟨rfl, rfl⟩ := hcut
    have hxk := HX.out
    have hK1 : i ≤ K := by have := HK.out; omega
    have hK2 : K ≤ s.size := by have h1 := HK.out; have h2 := HTL.out; omega
    have h5n := HB5.out
    have k0 := cell_of_row _ _ 0 _ _ _ h5n
    have k1 := cell_of_row _ _ 1 _ _ _ h5n
    have k2 := cell_of_row _ _ 2 _ _ _ h5n
    have k3 := cell_of_row _ _ 3 _ _ _ h5n
    have j0 := frozen_of_row _ g5 0 _ _ h5n
    have j3 := frozen_of_row _ g5 3 _ _ h5n
    have jl := heap_lt h5n
    go_wp2_with fail
    have h5a := heap_setCell_same _ g5 0 _ _ (.int .i64 1) (heap_setCell_same _ g5 3 _ _ (.string (st t)) h5n)
    have h2a := (heap_setCell_other (wc.setCell ⟨g5, 3, none⟩ (.string (st t))) ⟨g5, 0, none⟩ g2 (.int .i64 1) (fun e => HG.out.2.2 e)).trans ((heap_setCell_other wc ⟨g5, 3, none⟩ g2 (.string (st t)) (fun e => HG.out.2.2 e)).trans HB2.out)
    have hbB := (HBA.out.setCell (p := ⟨g5, 3, none⟩) HG.out.2.1 (.string (st t))).setCell (p := ⟨g5, 0, none⟩) HG.out.2.1 (.int .i64 1)
    obtain ⟨wB, hwB⟩ : ∃ wB, (wc.setCell ⟨g5, 3, none⟩ (.string (st t))).setCell ⟨g5, 0, none⟩ (.int .i64 1) = wB := ⟨_, rfl⟩
    rw [hwB] at h5a h2a hbB ⊢
    refine (RWord_any t _).mono ?_
    rintro e wC ⟨rfl, hbC⟩
    have h5c := (hbC.block g5 (heap_lt h5a)).trans h5a
    have h2c := (hbC.block g2 (heap_lt h2a)).trans h2a
    have HBC := Lib.hid (hbB.trans (hbC.mono hbB.size))
    clear hwB h5a h2a hbB hbC k0 k1 k2 k3 j0 j3 jl h5n
    clear wB
    have HB2 := Lib.hid h2c
    have HB5 := Lib.hid h5c
    clear h2c
    have k0 := cell_of_row _ _ 0 _ _ _ h5c
    have k1 := cell_of_row _ _ 1 _ _ _ h5c
    have k2 := cell_of_row _ _ 2 _ _ _ h5c
    have k3 := cell_of_row _ _ 3 _ _ _ h5c
    have j0 := frozen_of_row _ g5 0 _ _ h5c
    have jl := heap_lt h5c
    clear h5c
    cases hW : isW t
    · have HNM := Lib.hid (fun W => Name_any t b r0 HT0.out H1.out hW (fun c hc => HALL.out c hc) HTM.out W)
      have HAN : Hid (((decide (t.length ≤ 32)) = true ∧ ln = ln ∧ (K : Int) = (i : Int) + t.length ∧ nxI (s.data.toList.drop i) = (1, 0, t, true)) ∨ ((decide (t.length ≤ 32)) = false ∧ (nxI (s.data.toList.drop i)).2.2.2 = false)) := Lib.hid (by
        rw [HNX.out, hW]
        cases h : decide (t.length ≤ 32)
        · exact .inr ⟨rfl, rfl⟩
        · exact .inl ⟨rfl, rfl, by have := HK.out; omega, rfl⟩)
      clear hW
      go_upto_region 9 with fail
      obtain ⟨wD, hwD⟩ : ∃ wD, wC = wD := ⟨_, rfl⟩
      rw [hwD] at HBC HB2 HB5 k0 k1 k2 k3 j0 jl ⊢
      have HBD := HBC
      clear hwD
      refine wp_region_held_drew (S := (fun w' => w'.cell? ⟨g5, 0, none⟩ = some (.int .i64 1) ∧ w'.cell? ⟨g5, 1, none⟩ = some (.int .i64 ln) ∧ w'.cell? ⟨g5, 2, none⟩ = some (.int .i64 0) ∧ w'.cell? ⟨g5, 3, none⟩ = some (.string (st t)))) (by kernel_rfl) ⟨k0, k1, k2, k3⟩ (fun hHeld => ?_)
      refine wpAnyH_takeD (i := 0) (d := some 56) (v := ?_) rfl (by kernel_rfl) (by kernel_rfl) (by kernel_rfl) (by kernel_rfl) (fun _ _ _ h => h) (Or.inl ⟨by kernel_rfl, ?_⟩) (by assumption) ?_
      rotate_left
      · (intro w hSw; (try dsimp only at hSw); go_simp; try with_reducible rfl)
      (try simp only [Act.put, List.setIfInBounds_toArray, List.set_cons_zero, List.set_cons_succ])
      refine wpAnyH_takeD (i := 1) (d := some 57) (v := ?_) rfl (by kernel_rfl) (by kernel_rfl) (by kernel_rfl) (by kernel_rfl) (fun _ _ _ h => h) (Or.inl ⟨by kernel_rfl, ?_⟩) (by assumption) ?_
      rotate_left
      · (intro w hSw; (try dsimp only at hSw); go_simp; try with_reducible rfl)
      (try simp only [Act.put, List.setIfInBounds_toArray, List.set_cons_zero, List.set_cons_succ])
      refine wpAnyH_takeD (i := 2) (d := some 58) (v := ?_) rfl (by kernel_rfl) (by kernel_rfl) (by kernel_rfl) (by kernel_rfl) (fun _ _ _ h => h) (Or.inl ⟨by kernel_rfl, ?_⟩) (by assumption) ?_
      rotate_left
      · (intro w hSw; (try dsimp only at hSw); go_simp; try with_reducible rfl)
      (try simp only [Act.put, List.setIfInBounds_toArray, List.set_cons_zero, List.set_cons_succ])
      refine wpAnyH_takeD (i := 3) (d := some 59) (v := ?_) rfl (by kernel_rfl) (by kernel_rfl) (by kernel_rfl) (by kernel_rfl) (fun _ _ _ h => h) (Or.inl ⟨by kernel_rfl, ?_⟩) (by assumption) ?_
      rotate_left
      · (intro w hSw; (try dsimp only at hSw); go_simp; try with_reducible rfl)
      (try simp only [Act.put, List.setIfInBounds_toArray, List.set_cons_zero, List.set_cons_succ])
      refine wpAnyH_takeD (i := 4) (d := some 60) (v := ?_) rfl (by kernel_rfl) (by kernel_rfl) (by kernel_rfl) (by kernel_rfl) (fun _ _ _ h => h) (Or.inl ⟨by kernel_rfl, ?_⟩) (by assumption) ?_
      rotate_left
      · (intro w hSw; (try dsimp only at hSw); go_simp; try with_reducible rfl)
      (try simp only [Act.put, List.setIfInBounds_toArray, List.set_cons_zero, List.set_cons_succ])
      refine wpAnyH_takeD (i := 5) (d := some 61) (v := ?_) rfl (by kernel_rfl) (by kernel_rfl) (by kernel_rfl) (by kernel_rfl) (fun _ _ _ h => h) (Or.inl ⟨by kernel_rfl, ?_⟩) (by assumption) ?_
      rotate_left
      · (intro w hSw; (try dsimp only at hSw); go_simp; try with_reducible rfl)
      (try simp only [Act.put, List.setIfInBounds_toArray, List.set_cons_zero, List.set_cons_succ])
      refine wpAnyH_takeD (i := 6) (d := some 62) (v := ?_) rfl (by kernel_rfl) (by kernel_rfl) (by kernel_rfl) (by kernel_rfl) (fun _ _ _ h => h) (Or.inl ⟨by kernel_rfl, ?_⟩) (by assumption) ?_
      rotate_left
      · (intro w hSw; (try dsimp only at hSw); go_simp; try with_reducible rfl)
      (try simp only [Act.put, List.setIfInBounds_toArray, List.set_cons_zero, List.set_cons_succ])
      refine wpAnyH_takeD (i := 7) (d := some 63) (v := ?_) rfl (by kernel_rfl) (by kernel_rfl) (by kernel_rfl) (by kernel_rfl) (fun _ _ _ h => h) (Or.inl ⟨by kernel_rfl, ?_⟩) (by assumption) ?_
      rotate_left
      · (intro w hSw; (try dsimp only at hSw); go_simp; try with_reducible rfl)
      (try simp only [Act.put, List.setIfInBounds_toArray, List.set_cons_zero, List.set_cons_succ])
      refine wpAnyH_ready (rs := [8]) (by kernel_rfl) (by simp) ?_
      refine AllReadyH.cons rfl (fun K hK => ?_) AllReadyH.nil
      go_simp
      refine (HNM.out _).mono ?_
      rintro e wy ⟨rfl, hby0⟩
      have hby := (Below.refl wD.heap.size wD).drew.trans (hby0.mono (Nat.le_refl _))
      refine hK.out _ _ ⟨(hby.cell (p := ⟨g5, 0, none⟩) jl).trans k0, (hby.cell (p := ⟨g5, 1, none⟩) jl).trans k1, (hby.cell (p := ⟨g5, 2, none⟩) jl).trans k2, (hby.cell (p := ⟨g5, 3, none⟩) jl).trans k3⟩ (fun hHeld => ?_)
      clear hK K hby0
      (try simp only [Act.put, List.setIfInBounds_toArray, List.set_cons_zero, List.set_cons_succ])
      refine wpAnyH_takeD (i := 9) (d := some 65) (v := ?_) rfl (by kernel_rfl) (by kernel_rfl) (by kernel_rfl) (by kernel_rfl) (fun _ _ _ h => h) (Or.inl ⟨by kernel_rfl, ?_⟩) (by assumption) ?_
      rotate_left
      · (intro w hSw; (try dsimp only at hSw); go_simp; try with_reducible rfl)
      (try simp only [Act.put, List.setIfInBounds_toArray, List.set_cons_zero, List.set_cons_succ])
      refine wpAnyH_ready (rs := [10]) (by kernel_rfl) (by simp) ?_
      refine AllReadyH.cons rfl (fun K hK => ?_) AllReadyH.nil
      have h2n := (hby.block g2 (heap_lt HB2.out)).trans HB2.out
      have HBY := Lib.hid (HBD.out.trans (hby.mono HBD.out.size))
      clear hby
      have c0 := cell_of_row _ _ 0 _ _ _ h2n
      have c1 := cell_of_row _ _ 1 _ _ _ h2n
      have c2 := cell_of_row _ _ 2 _ _ _ h2n
      have c3 := cell_of_row _ _ 3 _ _ _ h2n
      have f0 := frozen_of_row _ g2 0 _ _ h2n
      have f1 := frozen_of_row _ g2 1 _ _ h2n
      have f2 := frozen_of_row _ g2 2 _ _ h2n
      have f3 := frozen_of_row _ g2 3 _ _ h2n
      have jl2 := heap_lt h2n
      go_simp
      refine hK.out _ _ ⟨cell_set4 HG.out.2.2 hHeld.1, cell_set4 HG.out.2.2 hHeld.2.1, cell_set4 HG.out.2.2 hHeld.2.2.1, cell_set4 HG.out.2.2 hHeld.2.2.2⟩ (fun hHeld => ?_)
      clear hK K
      (try simp only [Act.put, List.setIfInBounds_toArray, List.set_cons_zero, List.set_cons_succ])
      refine wpAnyH_takeD (i := 11) (d := some 7) (v := ?_) rfl (by kernel_rfl) (by kernel_rfl) (by kernel_rfl) (by kernel_rfl) (fun _ _ _ h => h) (Or.inl ⟨by kernel_rfl, ?_⟩) (by assumption) ?_
      rotate_left
      · (intro w hSw; (try dsimp only at hSw); go_simp; try with_reducible rfl)
      (try simp only [Act.put, List.setIfInBounds_toArray, List.set_cons_zero, List.set_cons_succ])
      refine wpAnyH_takeD (i := 12) (d := some 8) (v := ?_) rfl (by kernel_rfl) (by kernel_rfl) (by kernel_rfl) (by kernel_rfl) (fun _ _ _ h => h) (Or.inl ⟨by kernel_rfl, ?_⟩) (by assumption) ?_
      rotate_left
      · (intro w hSw; (try dsimp only at hSw); go_simp; try with_reducible rfl)
      (try simp only [Act.put, List.setIfInBounds_toArray, List.set_cons_zero, List.set_cons_succ])
      refine wpAnyH_done (by kernel_rfl) ?_ _
      (try simp only [Act.put, List.setIfInBounds_toArray, List.set_cons_zero, List.set_cons_succ])
      have hfin := heap_set4 (v0 := .int .i64 1) (v1 := .int .i64 ln) (v2 := .int .i64 0) (v3 := .string (st t)) h2n
      have hbel := below_set4 (v0 := .int .i64 1) (v1 := .int .i64 ln) (v2 := .int .i64 0) (v3 := .string (st t)) HBY.out HG.out.1
      have q0 := cell_of_row _ _ 0 _ _ _ hfin
      have q1 := cell_of_row _ _ 1 _ _ _ hfin
      have q2 := cell_of_row _ _ 2 _ _ _ hfin
      have q3 := cell_of_row _ _ 3 _ _ _ hfin
      have HBEL := Lib.hid hbel
      obtain ⟨wn, hwn⟩ : ∃ wn, set4 wy g2 (.int .i64 1) (.int .i64 ln) (.int .i64 0) (.string (st t)) = wn := ⟨_, rfl⟩
      have hwn2 := hwn
      unfold set4 at hwn2
      rw [hwn2]
      rw [hwn] at HBEL q0 q1 q2 q3
      clear hwn hwn2 hfin hbel h2n c0 c1 c2 c3 f0 f1 f2 f3 jl2 k0 k1 k2 k3 jl hHeld
      go_wp2_with fail
      refine bodyPost_ret (v := .tuple #[tkv 1 ln 0 t, .int .i64 K, .bool (decide (t.length ≤ 32))]) (by simp [results, Tryd.results33, go_sem, q0, q1, q2, q3]) rfl ?_
      exact ⟨HBEL.out, 1, ln, 0, t, K, (decide (t.length ≤ 32)), rfl, by rcases HAN.out with h | h; exact .inl ⟨by first | exact h.1 | rfl, rfl, h.2.2⟩; exact .inr h⟩
    · have HAN : Hid ((true = true ∧ ln = ln ∧ (K : Int) = (i : Int) + t.length ∧ nxI (s.data.toList.drop i) = (3, 0, t, true)) ∨ (true = false ∧ (nxI (s.data.toList.drop i)).2.2.2 = false)) := Lib.hid (by
        rw [HNX.out, hW, decide_eq_true (isW_len hW)]
        exact .inl ⟨rfl, rfl, by have := HK.out; omega, rfl⟩)
      clear hW
      have HB5' := Lib.hid (heap_setCell_same _ g5 0 _ _ (.int .i64 3) HB5.out)
      have HB2' := Lib.hid ((heap_setCell_other wC ⟨g5, 0, none⟩ g2 (.int .i64 3) (fun e => HG.out.2.2 e)).trans HB2.out)
      have HBC' := Lib.hid (HBC.out.setCell (p := ⟨g5, 0, none⟩) HG.out.2.1 (.int .i64 3))
      go_upto_region 9 with fail
      obtain ⟨wD, hwD⟩ : ∃ wD, wC.setCell ⟨g5, 0, none⟩ (.int .i64 3) = wD := ⟨_, rfl⟩
      rw [hwD] at HB5' HB2' HBC' ⊢
      clear hwD k0 k1 k2 k3 j0 jl HB2 HB5 HBC
      have HB2 := HB2'
      have HB5 := HB5'
      have HBD := HBC'
      clear HB2' HB5' HBC'
      have k0 := cell_of_row _ _ 0 _ _ _ HB5.out
      have k1 := cell_of_row _ _ 1 _ _ _ HB5.out
      have k2 := cell_of_row _ _ 2 _ _ _ HB5.out
      have k3 := cell_of_row _ _ 3 _ _ _ HB5.out
      have jl := heap_lt HB5.out
      refine wp_region_held_drew (S := (fun w' => w'.cell? ⟨g5, 0, none⟩ = some (.int .i64 3) ∧ w'.cell? ⟨g5, 1, none⟩ = some (.int .i64 ln) ∧ w'.cell? ⟨g5, 2, none⟩ = some (.int .i64 0) ∧ w'.cell? ⟨g5, 3, none⟩ = some (.string (st t)))) (by kernel_rfl) ⟨k0, k1, k2, k3⟩ (fun hHeld => ?_)
      refine wpAnyH_takeD (i := 0) (d := some 56) (v := ?_) rfl (by kernel_rfl) (by kernel_rfl) (by kernel_rfl) (by kernel_rfl) (fun _ _ _ h => h) (Or.inl ⟨by kernel_rfl, ?_⟩) (by assumption) ?_
      rotate_left
      · (intro w hSw; (try dsimp only at hSw); go_simp; try with_reducible rfl)
      (try simp only [Act.put, List.setIfInBounds_toArray, List.set_cons_zero, List.set_cons_succ])
      refine wpAnyH_takeD (i := 1) (d := some 57) (v := ?_) rfl (by kernel_rfl) (by kernel_rfl) (by kernel_rfl) (by kernel_rfl) (fun _ _ _ h => h) (Or.inl ⟨by kernel_rfl, ?_⟩) (by assumption) ?_
      rotate_left
      · (intro w hSw; (try dsimp only at hSw); go_simp; try with_reducible rfl)
      (try simp only [Act.put, List.setIfInBounds_toArray, List.set_cons_zero, List.set_cons_succ])
      refine wpAnyH_takeD (i := 2) (d := some 58) (v := ?_) rfl (by kernel_rfl) (by kernel_rfl) (by kernel_rfl) (by kernel_rfl) (fun _ _ _ h => h) (Or.inl ⟨by kernel_rfl, ?_⟩) (by assumption) ?_
      rotate_left
      · (intro w hSw; (try dsimp only at hSw); go_simp; try with_reducible rfl)
      (try simp only [Act.put, List.setIfInBounds_toArray, List.set_cons_zero, List.set_cons_succ])
      refine wpAnyH_takeD (i := 3) (d := some 59) (v := ?_) rfl (by kernel_rfl) (by kernel_rfl) (by kernel_rfl) (by kernel_rfl) (fun _ _ _ h => h) (Or.inl ⟨by kernel_rfl, ?_⟩) (by assumption) ?_
      rotate_left
      · (intro w hSw; (try dsimp only at hSw); go_simp; try with_reducible rfl)
      (try simp only [Act.put, List.setIfInBounds_toArray, List.set_cons_zero, List.set_cons_succ])
      refine wpAnyH_takeD (i := 4) (d := some 60) (v := ?_) rfl (by kernel_rfl) (by kernel_rfl) (by kernel_rfl) (by kernel_rfl) (fun _ _ _ h => h) (Or.inl ⟨by kernel_rfl, ?_⟩) (by assumption) ?_
      rotate_left
      · (intro w hSw; (try dsimp only at hSw); go_simp; try with_reducible rfl)
      (try simp only [Act.put, List.setIfInBounds_toArray, List.set_cons_zero, List.set_cons_succ])
      refine wpAnyH_takeD (i := 5) (d := some 61) (v := ?_) rfl (by kernel_rfl) (by kernel_rfl) (by kernel_rfl) (by kernel_rfl) (fun _ _ _ h => h) (Or.inl ⟨by kernel_rfl, ?_⟩) (by assumption) ?_
      rotate_left
      · (intro w hSw; (try dsimp only at hSw); go_simp; try with_reducible rfl)
      (try simp only [Act.put, List.setIfInBounds_toArray, List.set_cons_zero, List.set_cons_succ])
      refine wpAnyH_takeD (i := 6) (d := some 62) (v := undef) rfl (by kernel_rfl) (by kernel_rfl) (by kernel_rfl) (by kernel_rfl) (fun _ _ _ h => h) (Or.inr ⟨by kernel_rfl, rfl⟩) (by assumption) ?_
      (try simp only [Act.put, List.setIfInBounds_toArray, List.set_cons_zero, List.set_cons_succ])
      refine wpAnyH_takeD (i := 7) (d := some 63) (v := undef) rfl (by kernel_rfl) (by kernel_rfl) (by kernel_rfl) (by kernel_rfl) (fun _ _ _ h => h) (Or.inr ⟨by kernel_rfl, rfl⟩) (by assumption) ?_
      (try simp only [Act.put, List.setIfInBounds_toArray, List.set_cons_zero, List.set_cons_succ])
      refine wpAnyH_takeD (i := 8) (d := some 64) (v := undef) rfl (by kernel_rfl) (by kernel_rfl) (by kernel_rfl) (by kernel_rfl) (fun _ _ _ h => h) (Or.inr ⟨by kernel_rfl, rfl⟩) (by assumption) ?_
      (try simp only [Act.put, List.setIfInBounds_toArray, List.set_cons_zero, List.set_cons_succ])
      have hby : Below wD.heap.size wD wD.drew := (Below.refl _ _).drew
      obtain ⟨wy, hwy⟩ : ∃ wy, wD.drew = wy := ⟨_, rfl⟩
      rw [hwy] at hby hHeld ⊢
      clear hwy
      refine wpAnyH_takeD (i := 9) (d := some 65) (v := ?_) rfl (by kernel_rfl) (by kernel_rfl) (by kernel_rfl) (by kernel_rfl) (fun _ _ _ h => h) (Or.inl ⟨by kernel_rfl, ?_⟩) (by assumption) ?_
      rotate_left
      · (intro w hSw; (try dsimp only at hSw); go_simp; try with_reducible rfl)
      (try simp only [Act.put, List.setIfInBounds_toArray, List.set_cons_zero, List.set_cons_succ])
      refine wpAnyH_ready (rs := [10]) (by kernel_rfl) (by simp) ?_
      refine AllReadyH.cons rfl (fun K hK => ?_) AllReadyH.nil
      have h2n := (hby.block g2 (heap_lt HB2.out)).trans HB2.out
      have HBY := Lib.hid (HBD.out.trans (hby.mono HBD.out.size))
      clear hby
      have c0 := cell_of_row _ _ 0 _ _ _ h2n
      have c1 := cell_of_row _ _ 1 _ _ _ h2n
      have c2 := cell_of_row _ _ 2 _ _ _ h2n
      have c3 := cell_of_row _ _ 3 _ _ _ h2n
      have f0 := frozen_of_row _ g2 0 _ _ h2n
      have f1 := frozen_of_row _ g2 1 _ _ h2n
      have f2 := frozen_of_row _ g2 2 _ _ h2n
      have f3 := frozen_of_row _ g2 3 _ _ h2n
      have jl2 := heap_lt h2n
      go_simp
      refine hK.out _ _ ⟨cell_set4 HG.out.2.2 hHeld.1, cell_set4 HG.out.2.2 hHeld.2.1, cell_set4 HG.out.2.2 hHeld.2.2.1, cell_set4 HG.out.2.2 hHeld.2.2.2⟩ (fun hHeld => ?_)
      clear hK K
      (try simp only [Act.put, List.setIfInBounds_toArray, List.set_cons_zero, List.set_cons_succ])
      refine wpAnyH_takeD (i := 11) (d := some 7) (v := ?_) rfl (by kernel_rfl) (by kernel_rfl) (by kernel_rfl) (by kernel_rfl) (fun _ _ _ h => h) (Or.inl ⟨by kernel_rfl, ?_⟩) (by assumption) ?_
      rotate_left
      · (intro w hSw; (try dsimp only at hSw); go_simp; try with_reducible rfl)
      (try simp only [Act.put, List.setIfInBounds_toArray, List.set_cons_zero, List.set_cons_succ])
      refine wpAnyH_takeD (i := 12) (d := some 8) (v := ?_) rfl (by kernel_rfl) (by kernel_rfl) (by kernel_rfl) (by kernel_rfl) (fun _ _ _ h => h) (Or.inl ⟨by kernel_rfl, ?_⟩) (by assumption) ?_
      rotate_left
      · (intro w hSw; (try dsimp only at hSw); go_simp; try with_reducible rfl)
      (try simp only [Act.put, List.setIfInBounds_toArray, List.set_cons_zero, List.set_cons_succ])
      refine wpAnyH_done (by kernel_rfl) ?_ _
      (try simp only [Act.put, List.setIfInBounds_toArray, List.set_cons_zero, List.set_cons_succ])
      have hfin := heap_set4 (v0 := .int .i64 3) (v1 := .int .i64 ln) (v2 := .int .i64 0) (v3 := .string (st t)) h2n
      have hbel := below_set4 (v0 := .int .i64 3) (v1 := .int .i64 ln) (v2 := .int .i64 0) (v3 := .string (st t)) HBY.out HG.out.1
      have q0 := cell_of_row _ _ 0 _ _ _ hfin
      have q1 := cell_of_row _ _ 1 _ _ _ hfin
      have q2 := cell_of_row _ _ 2 _ _ _ hfin
      have q3 := cell_of_row _ _ 3 _ _ _ hfin
      have HBEL := Lib.hid hbel
      obtain ⟨wn, hwn⟩ : ∃ wn, set4 wy g2 (.int .i64 3) (.int .i64 ln) (.int .i64 0) (.string (st t)) = wn := ⟨_, rfl⟩
      have hwn2 := hwn
      unfold set4 at hwn2
      rw [hwn2]
      rw [hwn] at HBEL q0 q1 q2 q3
      clear hwn hwn2 hfin hbel h2n c0 c1 c2 c3 f0 f1 f2 f3 jl2 k0 k1 k2 k3 jl hHeld
      go_wp2_with fail
      refine bodyPost_ret (v := .tuple #[tkv 3 ln 0 t, .int .i64 K, .bool true]) (by simp [results, Tryd.results33, go_sem, q0, q1, q2, q3]) rfl ?_
      exact ⟨HBEL.out, 3, ln, 0, t, K, true, rfl, by rcases HAN.out with h | h; exact .inl ⟨by first | exact h.1 | rfl, rfl, h.2.2⟩; exact .inr h⟩
end Go.Proofs.YtlbjdglgnkajnaaDoor
namespace Go.Proofs.YtlbjdglgnkajnaaDoor
open Go.ChangeShapes Go.WideShapes Go.ChangeAt Go.RowKit
set_option linter.unusedVariables false
set_option linter.unusedSimpArgs false

set_option maxRecDepth 100000 in
set_option maxHeartbeats 4000000 in
theorem Rnext_digit (s : ByteArray) (i : Nat) (ln : Int) (hs : s.size ≤ 281474976710656) (hi : i < s.size) (b : UInt8) (hb : s[i] = b) (h1 : lt8 b = false) (h2 : dg8 b = true) (w : World) : Calls Tryd.prog 33 #[.string s, .int .i64 i, .int .i64 ln] w (RnPost (s.data.toList.drop i) i ln w) := by
  have H1 := Lib.hid h1
  have H2 := Lib.hid h2
  clear h1 h2
  have HZ := Lib.hid (rn_start w ln)
  obtain ⟨t, ht⟩ : ∃ t, t = run dg8 (s.data.toList.drop i) := ⟨_, rfl⟩
  obtain ⟨K, hK⟩ : ∃ K, K = i + t.length := ⟨_, rfl⟩
  have HX : Hid (s.extract i K = st t) := Lib.hid (by
    rw [st_ext, List.drop_take, hK, Nat.add_sub_cancel_left, ht]
    congr 1
    unfold run
    exact (List.prefix_iff_eq_take.1 (List.takeWhile_prefix _)).symm)
  have HTL : Hid (t.length ≤ s.size - i) := Lib.hid (by rw [ht]; refine Nat.le_trans (run_len _ _) ?_; rw [List.length_drop, st_len]; exact Nat.le_refl _)
  have HALLD : Hid (allD t) := Lib.hid (by rw [ht]; exact run_allD _)
  have hgi := st_get s i hi
  rw [hb] at hgi
  have HNX := Lib.hid (nx_num (l := s.data.toList.drop i) (b := b) (rest := s.data.toList.drop (i + 1)) (by
    obtain ⟨hlt, he⟩ := List.getElem?_eq_some_iff.1 hgi
    rw [List.drop_eq_getElem_cons hlt, he]) H1.out H2.out t ht)
  have HTM : Hid (t.length ≤ 281474976710656) := Lib.hid (by have := HTL.out; omega)
  have HNU := Lib.hid (fun W => number_any t HALLD.out HTM.out W)
  clear hgi
  have HT := Lib.hid ht
  have HK := Lib.hid hK
  clear hK ht
  go_enter Tryd.func33, Tryd.ntmps33
  go_wp2_with fail
  refine (rletter_any b _).mono ?_
  rintro e w1 ⟨rfl, rfl⟩
  rw [H1.out]
  go_wp2_with fail
  try rw [hb]
  refine (rdigit_any b _).mono ?_
  rintro e w1 ⟨rfl, rfl⟩
  rw [H2.out]
  obtain ⟨wa, hwa⟩ : ∃ wa, wa = ((w.alloc (.cells #[.int .i64 0, .int .i64 0, .int .i64 0, .string { data := #[] }] 59)).alloc (.cells #[.int .i64 0, .int .i64 ln, .int .i64 0, .string { data := #[] }] 59)) := ⟨_, rfl⟩
  rw [← hwa]
  obtain ⟨hba, hb2, hb5⟩ := HZ.out wa hwa
  obtain ⟨g5, hg5⟩ : ∃ g5, w.heap.size + 1 = g5 := ⟨_, rfl⟩
  obtain ⟨g2, hg2⟩ : ∃ g2, w.heap.size = g2 := ⟨_, rfl⟩
  rw [hg5] at hb5 ⊢
  rw [hg2] at hb2
  try rw [hg2]
  have HBA := Lib.hid hba
  have HG : Hid (w.heap.size ≤ g2 ∧ w.heap.size ≤ g5 ∧ g2 ≠ g5) := Lib.hid (by omega)
  have HB2 := Lib.hid hb2
  have HB5 := Lib.hid hb5
  clear hwa hba hg5 hg2 hb2 hb5
  go_upto_block 3 with fail
  go_cut [9] from 71 to 82 (fun v9 wx => v9 = .int .i64 K ∧ wx = wa)
  case first =>
    go_wp2_with fail
    go_loopw [9] (fun v9 wr => ∃ k : Nat, i ≤ k ∧ k ≤ s.size ∧ v9 = .int .i64 k ∧ wr = wa ∧ Hid (∀ j, i ≤ j → j < k → ∃ b, s.data.toList[j]? = some b ∧ dg8 b = true)) (fun v _ => s.size - (intOf v).toNat)
    case atStart => exact ⟨i, by omega, by omega, rfl, rfl, Lib.hid (fun j h1 h2 => absurd h2 (by omega))⟩
    case round =>
      obtain ⟨k, hk0, hk, rfl, rfl, HA⟩ := hrel
      by_cases hlt : k < s.size
      · have HGK := Lib.hid (st_get s k hlt)
        obtain ⟨c, hc⟩ : ∃ c, s[k] = c := ⟨_, rfl⟩
        rw [hc] at HGK
        go_wp2_with fail
        try rw [hc]
        refine (rdigit_any c _).mono ?_
        rintro e w1 ⟨rfl, rfl⟩
        cases h2 : dg8 c
        · have HIN : Hid (dg8 c = false) := Lib.hid h2
          have HKK : Hid (K = k) := Lib.hid (by rw [HK.out, HT.out]; exact run_end_len hk0 (by rw [st_len]; exact hk) HA.out (fun b hb => by rw [HGK.out] at hb; injection hb with hb; subst hb; exact HIN.out))
          go_wp2_with fail
          go_meet
          exact ⟨by rw [HKK.out], rfl⟩
        · have HIN : Hid (dg8 c = true) := Lib.hid h2
          go_wp2_with fail
          go_roundw
          case rel => exact ⟨k + 1, by omega, by omega, by go_num, by first | rfl | trivial, Lib.hid (rn_more HA.out HGK.out HIN.out)⟩
          case measure => simp [intOf]; omega
      · obtain rfl : k = s.size := by omega
        have HKK : Hid (K = s.size) := Lib.hid (by rw [HK.out, HT.out]; exact run_end_len hk0 (by rw [st_len]; exact hk) HA.out (fun b hb => by
          have := (List.getElem?_eq_some_iff.1 hb).1
          rw [st_len] at this; omega))
        go_wp2_with fail
        go_meet
        exact ⟨by rw [HKK.out], rfl⟩
  case rest =>
    obtain ⟨rfl, rfl⟩ := hcut
    have hxk := HX.out
    have hK1 : i ≤ K := by have := HK.out; omega
    have hK2 : K ≤ s.size := by have h1 := HK.out; have h2 := HTL.out; omega
    have h5n := HB5.out
    have k0 := cell_of_row _ _ 0 _ _ _ h5n
    have k1 := cell_of_row _ _ 1 _ _ _ h5n
    have k2 := cell_of_row _ _ 2 _ _ _ h5n
    have k3 := cell_of_row _ _ 3 _ _ _ h5n
    have j0 := frozen_of_row _ g5 0 _ _ h5n
    have j2 := frozen_of_row _ g5 2 _ _ h5n
    have j3 := frozen_of_row _ g5 3 _ _ h5n
    have jl := heap_lt h5n
    go_wp2_with fail
    refine (HNU.out _).mono ?_
    rintro e w1 ⟨rfl, rfl⟩
    go_upto_region 16 with fail
    have h5a := heap_setCell_same _ g5 2 _ _ (.int .i64 (rnV t)) (heap_setCell_same _ g5 0 _ _ (.int .i64 2) (heap_setCell_same _ g5 3 _ _ (.string (st t)) h5n))
    have h2a := (heap_setCell_other ((wc.setCell ⟨g5, 3, none⟩ (.string (st t))).setCell ⟨g5, 0, none⟩ (.int .i64 2)) ⟨g5, 2, none⟩ g2 (.int .i64 (rnV t)) (fun e => HG.out.2.2 e)).trans ((heap_setCell_other (wc.setCell ⟨g5, 3, none⟩ (.string (st t))) ⟨g5, 0, none⟩ g2 (.int .i64 2) (fun e => HG.out.2.2 e)).trans ((heap_setCell_other wc ⟨g5, 3, none⟩ g2 (.string (st t)) (fun e => HG.out.2.2 e)).trans HB2.out))
    have hbB := ((HBA.out.setCell (p := ⟨g5, 3, none⟩) HG.out.2.1 (.string (st t))).setCell (p := ⟨g5, 0, none⟩) HG.out.2.1 (.int .i64 2)).setCell (p := ⟨g5, 2, none⟩) HG.out.2.1 (.int .i64 (rnV t))
    obtain ⟨wB, hwB⟩ : ∃ wB, ((wc.setCell ⟨g5, 3, none⟩ (.string (st t))).setCell ⟨g5, 0, none⟩ (.int .i64 2)).setCell ⟨g5, 2, none⟩ (.int .i64 (rnV t)) = wB := ⟨_, rfl⟩
    rw [hwB] at h5a h2a hbB ⊢
    clear hwB k0 k1 k2 k3 j0 j2 j3 jl h5n
    have HB5' := Lib.hid h5a
    have HB2' := Lib.hid h2a
    have HBB := Lib.hid hbB
    clear h5a h2a hbB
    obtain ⟨bad, hbad⟩ : ∃ bad, bad = (decide (t.length < (run in8 (s.data.toList.drop i)).length) || (decide (b.toNat = 48) && decide (1 < t.length))) := ⟨_, rfl⟩
    have HBAD := Lib.hid hbad
    clear hbad
    go_cut [124] from 97 to 124 (fun v wx => v = .bool bad ∧ wx = wB)
    case first =>
      have H0 : Hid ((run dg8 (s.data.toList.drop i)).length < (run in8 (s.data.toList.drop i)).length → True) := Lib.hid (fun _ => trivial)
      by_cases hlt : K < s.size
      · have hgk := st_get s K hlt
        obtain ⟨c, hc⟩ : ∃ c, s[K] = c := ⟨_, rfl⟩
        rw [hc] at hgk
        have hgd : (s.data.toList.drop i)[t.length]? = some c := by rw [List.getElem?_drop, ← HK.out]; exact hgk
        have hrn := run_next (p := dg8) (q := in8) (fun b hb => by unfold in8; simp [hb]) (s.data.toList.drop i) c (by rw [← HT.out]; exact hgd)
        rw [← HT.out] at hrn
        have hcd : dg8 c = false := by
          cases hx : dg8 c
          · rfl
          · exfalso
            have hq := run_next (p := dg8) (q := dg8) (fun b hb => hb) (s.data.toList.drop i) c (by rw [← HT.out]; exact hgd)
            rw [hx] at hq; simp at hq
        have hBAD2 : bad = (in8 c || (decide (b.toNat = 48) && decide (1 < t.length))) := by rw [HBAD.out, hrn]
        clear hrn hgd
        have HB3 := Lib.hid hBAD2
        clear hBAD2 hgk
        have H3 := Lib.hid hcd
        clear hcd
        go_wp2_with fail
        try rw [hc]
        refine (rletter_any c _).mono ?_
        rintro e w1 ⟨rfl, rfl⟩
        cases hl8 : lt8 c
        · by_cases h95 : c.toNat = 95
          · have hd : ((c.toNat : Int) == 95) = true := by rw [h95]; rfl
            have HIN : Hid (bad = true) := Lib.hid (by rw [HB3.out]; unfold in8; simp [h95])
            go_wp2_with fail
            go_meet
            exact ⟨by rw [HIN.out], rfl⟩
          · have hd : ((c.toNat : Int) == 95) = false := by rw [beq_eq_false_iff_ne]; omega
            by_cases h48 : b.toNat = 48
            · have hd2 : ((b.toNat : Int) == 48) = true := by rw [h48]; rfl
              have HIN : Hid (bad = decide (i + 1 < K)) := Lib.hid (by
                rw [HB3.out]; unfold in8; simp [h95, h48, hl8, H3.out]
                have := HK.out; omega)
              clear h48
              go_wp2_with fail
              go_meet
              exact ⟨by rw [HIN.out]; try congr 1; try (apply Bool.eq_iff_iff.2; simp; omega), rfl⟩
            · have hd2 : ((b.toNat : Int) == 48) = false := by rw [beq_eq_false_iff_ne]; omega
              have HIN : Hid (bad = false) := Lib.hid (by rw [HB3.out]; unfold in8; simp [h95, h48, hl8, H3.out])
              go_wp2_with fail
              go_meet
              exact ⟨by rw [HIN.out], rfl⟩
        · have HIN : Hid (bad = true) := Lib.hid (by rw [HB3.out]; unfold in8; simp [hl8])
          go_wp2_with fail
          go_meet
          exact ⟨by rw [HIN.out], rfl⟩
      · obtain hKs : K = s.size := by omega
        have hBAD2 : bad = (decide (b.toNat = 48) && decide (1 < t.length)) := by
          rw [HBAD.out]
          have h1 : (run in8 (s.data.toList.drop i)).length ≤ s.size - i := Nat.le_trans (run_len _ _) (by rw [List.length_drop, st_len]; exact Nat.le_refl _)
          have h2 := HK.out
          rw [decide_eq_false (by omega)]; simp
        have HB3 := Lib.hid hBAD2
        clear hBAD2
        by_cases h48 : b.toNat = 48
        · have hd2 : ((b.toNat : Int) == 48) = true := by rw [h48]; rfl
          have HIN : Hid (bad = decide (i + 1 < K)) := Lib.hid (by
            rw [HB3.out]; simp [h48]
            have := HK.out; omega)
          clear h48
          go_wp2_with fail
          go_meet
          exact ⟨by rw [HIN.out]; try congr 1; try (apply Bool.eq_iff_iff.2; simp; omega), rfl⟩
        · have hd2 : ((b.toNat : Int) == 48) = false := by rw [beq_eq_false_iff_ne]; omega
          have HIN : Hid (bad = false) := Lib.hid (by rw [HB3.out]; simp [h48])
          go_wp2_with fail
          go_meet
          exact ⟨by rw [HIN.out], rfl⟩
    case rest =>
      obtain ⟨rfl, rfl⟩ := hcut
      have k0 := cell_of_row _ _ 0 _ _ _ HB5'.out
      have k1 := cell_of_row _ _ 1 _ _ _ HB5'.out
      have k2 := cell_of_row _ _ 2 _ _ _ HB5'.out
      have k3 := cell_of_row _ _ 3 _ _ _ HB5'.out
      have c0 := cell_of_row _ _ 0 _ _ _ HB2'.out
      have c1 := cell_of_row _ _ 1 _ _ _ HB2'.out
      have c2 := cell_of_row _ _ 2 _ _ _ HB2'.out
      have c3 := cell_of_row _ _ 3 _ _ _ HB2'.out
      have f0 := frozen_of_row _ g2 0 _ _ HB2'.out
      have f1 := frozen_of_row _ g2 1 _ _ HB2'.out
      have f2 := frozen_of_row _ g2 2 _ _ HB2'.out
      have f3 := frozen_of_row _ g2 3 _ _ HB2'.out
      have jl2 := heap_lt HB2'.out
      have hfin := heap_set4 (v0 := .int .i64 2) (v1 := .int .i64 ln) (v2 := .int .i64 (rnV t)) (v3 := .string (st t)) HB2'.out
      have hbel := below_set4 (v0 := .int .i64 2) (v1 := .int .i64 ln) (v2 := .int .i64 (rnV t)) (v3 := .string (st t)) HBB.out HG.out.1
      have q0 := cell_of_row _ _ 0 _ _ _ hfin
      have q1 := cell_of_row _ _ 1 _ _ _ hfin
      have q2 := cell_of_row _ _ 2 _ _ _ hfin
      have q3 := cell_of_row _ _ 3 _ _ _ hfin
      have HBEL := Lib.hid hbel
      clear hfin hbel
      have HAN : Hid (((rnO t && !bad) = true ∧ ln = ln ∧ (K : Int) = (i : Int) + t.length ∧ nxI (s.data.toList.drop i) = (2, rnV t, t, true)) ∨ ((rnO t && !bad) = false ∧ (nxI (s.data.toList.drop i)).2.2.2 = false)) := Lib.hid (by
        rcases HNX.out bad HBAD.out with h | h
        · exact .inl ⟨h.1, rfl, by have := HK.out; omega, h.2⟩
        · exact .inr h)
      cases bad
      · go_wp2_with fail
        refine bodyPost_ret (v := .tuple #[tkv 2 ln (rnV t) t, .int .i64 K, .bool (rnO t)]) (by simp [results, Tryd.results33, go_sem, q0, q1, q2, q3]) rfl ?_
        exact ⟨HBEL.out, 2, ln, rnV t, t, K, rnO t, rfl, by rcases HAN.out with h | h; exact .inl ⟨by simpa using h.1, rfl, h.2.2⟩; exact .inr ⟨by simpa using h.1, h.2⟩⟩
      · go_wp2_with fail
        refine bodyPost_ret (v := .tuple #[tkv 2 ln (rnV t) t, .int .i64 K, .bool false]) (by simp [results, Tryd.results33, go_sem, q0, q1, q2, q3]) rfl ?_
        exact ⟨HBEL.out, 2, ln, rnV t, t, K, false, rfl, by rcases HAN.out with h | h; exact absurd h.1 (by simp); exact .inr ⟨rfl, h.2⟩⟩
/-- what the text begins with, at a sign -/
theorem nx_sign {l : Bt} {b : UInt8} {rest : Bt} (hl : l = b :: rest) (h1 : lt8 b = false) (h2 : dg8 b = false) : nxI l = (if 1 < l.length ∧ isS (l.take 2) = true then (4, 0, l.take 2, true) else (4, 0, l.take 1, isS (l.take 1))) := by
  subst hl
  show (if lt8 b then _ else _) = _
  rw [h1]; simp only [Bool.false_eq_true, if_false]
  rw [h2]; simp only [Bool.false_eq_true, if_false]
theorem ext_take (s : ByteArray) (i n : Nat) : s.extract i (i + n) = st ((s.data.toList.drop i).take n) := by
  rw [st_ext, List.drop_take, Nat.add_sub_cancel_left]
set_option maxRecDepth 100000 in
set_option maxHeartbeats 4000000 in
theorem Rnext_sign (s : ByteArray) (i : Nat) (ln : Int) (hs : s.size ≤ 281474976710656) (hi : i < s.size) (b : UInt8) (hb : s[i] = b) (h1 : lt8 b = false) (h2 : dg8 b = false) (w : World) : Calls Tryd.prog 33 #[.string s, .int .i64 i, .int .i64 ln] w (RnPost (s.data.toList.drop i) i ln w) := by
  have H1 := Lib.hid h1
  have H2 := Lib.hid h2
  clear h1 h2
  have HZ := Lib.hid (rn_start w ln)
  have hgi := st_get s i hi
  rw [hb] at hgi
  have HNX := Lib.hid (nx_sign (l := s.data.toList.drop i) (b := b) (rest := s.data.toList.drop (i + 1)) (by
    obtain ⟨hlt, he⟩ := List.getElem?_eq_some_iff.1 hgi
    rw [List.drop_eq_getElem_cons hlt, he]) H1.out H2.out)
  have HLN : Hid ((s.data.toList.drop i).length = s.size - i) := Lib.hid (by rw [List.length_drop, st_len])
  clear hgi
  have HEX := Lib.hid (fun n => ext_take s i n)
  go_enter Tryd.func33, Tryd.ntmps33
  go_wp2_with fail
  refine (rletter_any b _).mono ?_
  rintro e w1 ⟨rfl, rfl⟩
  rw [H1.out]
  go_wp2_with fail
  try rw [hb]
  refine (rdigit_any b _).mono ?_
  rintro e w1 ⟨rfl, rfl⟩
  rw [H2.out]
  obtain ⟨wa, hwa⟩ : ∃ wa, wa = ((w.alloc (.cells #[.int .i64 0, .int .i64 0, .int .i64 0, .string { data := #[] }] 59)).alloc (.cells #[.int .i64 0, .int .i64 ln, .int .i64 0, .string { data := #[] }] 59)) := ⟨_, rfl⟩
  rw [← hwa]
  obtain ⟨hba, hb2, hb5⟩ := HZ.out wa hwa
  obtain ⟨g5, hg5⟩ : ∃ g5, w.heap.size + 1 = g5 := ⟨_, rfl⟩
  obtain ⟨g2, hg2⟩ : ∃ g2, w.heap.size = g2 := ⟨_, rfl⟩
  rw [hg5] at hb5 ⊢
  rw [hg2] at hb2
  try rw [hg2]
  have HBA := Lib.hid hba
  have HG : Hid (w.heap.size ≤ g2 ∧ w.heap.size ≤ g5 ∧ g2 ≠ g5) := Lib.hid (by omega)
  have HB2 := Lib.hid hb2
  have HB5 := Lib.hid hb5
  clear hwa hba hg5 hg2 hb2 hb5
  go_upto_block 5 with fail
  go_wp2_with fail
  go_loopw [13] (fun v13 wr => ∃ n : Nat, n ≤ 2 ∧ v13 = .int .i64 n ∧ Hid (Below w.heap.size w wr) ∧ Hid (wr.heap[g2]? = some (.cells #[.int .i64 0, .int .i64 0, .int .i64 0, .string { data := #[] }] 59 (0, 0))) ∧ Hid (wr.heap[g5]? = some (.cells #[.int .i64 0, .int .i64 ln, .int .i64 0, .string { data := #[] }] 59 (0, 0))) ∧ Hid (∀ j, n < j → j ≤ 2 → ¬ (i + j ≤ s.size ∧ isS ((s.data.toList.drop i).take j) = true))) (fun v _ => (intOf v).toNat)
  case atStart => exact ⟨2, by omega, rfl, HBA, HB2, HB5, Lib.hid (fun j h1 h2 => absurd h1 (by omega))⟩
  case round =>
    clear HBA HB2 HB5
    obtain ⟨n, hn2, rfl, HBA, HB2, HB5, HNO⟩ := hrel
    by_cases hn0 : n = 0
    · subst hn0
      have c0 := cell_of_row _ _ 0 _ _ _ HB2.out
      have c1 := cell_of_row _ _ 1 _ _ _ HB2.out
      have c2 := cell_of_row _ _ 2 _ _ _ HB2.out
      have c3 := cell_of_row _ _ 3 _ _ _ HB2.out
      have f0 := frozen_of_row _ g2 0 _ _ HB2.out
      have f1 := frozen_of_row _ g2 1 _ _ HB2.out
      have f2 := frozen_of_row _ g2 2 _ _ HB2.out
      have f3 := frozen_of_row _ g2 3 _ _ HB2.out
      have jl2 := heap_lt HB2.out
      have hfin := heap_set4 (v0 := .int .i64 0) (v1 := .int .i64 0) (v2 := .int .i64 0) (v3 := .string { data := #[] }) HB2.out
      have hbel := below_set4 (v0 := .int .i64 0) (v1 := .int .i64 0) (v2 := .int .i64 0) (v3 := .string { data := #[] }) HBA.out HG.out.1
      have q0 := cell_of_row _ _ 0 _ _ _ hfin
      have q1 := cell_of_row _ _ 1 _ _ _ hfin
      have q2 := cell_of_row _ _ 2 _ _ _ hfin
      have q3 := cell_of_row _ _ 3 _ _ _ hfin
      have HBEL := Lib.hid hbel
      clear hfin hbel
      go_wp2_with fail
      refine bodyPost_ret (v := .tuple #[tkv 0 0 0 [], .int .i64 0, .bool false]) (by simp [results, Tryd.results33, go_sem, q0, q1, q2, q3]) rfl ?_
      exact ⟨HBEL.out, 0, 0, 0, [], 0, false, rfl, .inr ⟨rfl, by
        rw [HNX.out]
        have h2 := HNO.out 2 (by omega) (by omega)
        have h1 := HNO.out 1 (by omega) (by omega)
        rw [if_neg (fun h => h2 ⟨by have := HLN.out; omega, h.2⟩)]
        cases hx : isS ((s.data.toList.drop i).take 1)
        · rfl
        · exact absurd ⟨by omega, hx⟩ h1⟩⟩
    · by_cases hfit : i + n ≤ s.size
      · have hx := HEX.out n
        obtain ⟨t, ht⟩ : ∃ t, (s.data.toList.drop i).take n = t := ⟨_, rfl⟩
        rw [ht] at hx
        have HT := Lib.hid ht
        clear ht
        go_wp2_with fail
        refine (RSign_any t _).mono ?_
        rintro e wC ⟨rfl, hbC⟩
        have h5c := (hbC.block g5 (heap_lt HB5.out)).trans HB5.out
        have h2c := (hbC.block g2 (heap_lt HB2.out)).trans HB2.out
        have HBC := Lib.hid (HBA.out.trans (hbC.mono HBA.out.size))
        clear hbC HBA HB2 HB5
        have HB5 := Lib.hid h5c
        have HB2 := Lib.hid h2c
        clear h5c h2c
        cases hS : isS t
        · have HS : Hid (isS t = false) := Lib.hid hS
          clear hS
          go_wp2_with fail
          go_roundw
          case rel => exact ⟨n - 1, by omega, by go_num, HBC, HB2, HB5, Lib.hid (fun j h1 h2 => by
            by_cases e : j = n
            · subst e; rw [HT.out, HS.out]; simp
            · exact HNO.out j (by omega) h2)⟩
          case measure => simp [intOf]; omega
        · have HAN : Hid (nxI (s.data.toList.drop i) = (4, 0, t, true)) := Lib.hid (by
            rw [HNX.out]
            by_cases e : n = 2
            · subst e
              rw [if_pos ⟨by have := HLN.out; omega, by rw [HT.out]; exact hS⟩, HT.out]
            · have e1 : n = 1 := by omega
              subst e1
              have h2 := HNO.out 2 (by omega) (by omega)
              rw [if_neg (fun h => h2 ⟨by have := HLN.out; omega, h.2⟩), HT.out, hS])
          have HTL : Hid (t.length = n) := Lib.hid (by rw [← HT.out, List.length_take, HLN.out]; omega)
          have k0 := cell_of_row _ _ 0 _ _ _ HB5.out
          have k1 := cell_of_row _ _ 1 _ _ _ HB5.out
          have k2 := cell_of_row _ _ 2 _ _ _ HB5.out
          have k3 := cell_of_row _ _ 3 _ _ _ HB5.out
          have j0 := frozen_of_row _ g5 0 _ _ HB5.out
          have j3 := frozen_of_row _ g5 3 _ _ HB5.out
          have jl := heap_lt HB5.out
          clear hS
          go_upto_region 24 with fail
          have h5a := heap_setCell_same _ g5 0 _ _ (.int .i64 4) (heap_setCell_same _ g5 3 _ _ (.string (st t)) HB5.out)
          have h2a := (heap_setCell_other (wC.setCell ⟨g5, 3, none⟩ (.string (st t))) ⟨g5, 0, none⟩ g2 (.int .i64 4) (fun e => HG.out.2.2 e)).trans ((heap_setCell_other wC ⟨g5, 3, none⟩ g2 (.string (st t)) (fun e => HG.out.2.2 e)).trans HB2.out)
          have hbB := (HBC.out.setCell (p := ⟨g5, 3, none⟩) HG.out.2.1 (.string (st t))).setCell (p := ⟨g5, 0, none⟩) HG.out.2.1 (.int .i64 4)
          obtain ⟨wB, hwB⟩ : ∃ wB, (wC.setCell ⟨g5, 3, none⟩ (.string (st t))).setCell ⟨g5, 0, none⟩ (.int .i64 4) = wB := ⟨_, rfl⟩
          rw [hwB] at h5a h2a hbB ⊢
          clear hwB k0 k1 k2 k3 j0 j3 jl
          have k0 := cell_of_row _ _ 0 _ _ _ h5a
          have k1 := cell_of_row _ _ 1 _ _ _ h5a
          have k2 := cell_of_row _ _ 2 _ _ _ h5a
          have k3 := cell_of_row _ _ 3 _ _ _ h5a
          have c0 := cell_of_row _ _ 0 _ _ _ h2a
          have c1 := cell_of_row _ _ 1 _ _ _ h2a
          have c2 := cell_of_row _ _ 2 _ _ _ h2a
          have c3 := cell_of_row _ _ 3 _ _ _ h2a
          have f0 := frozen_of_row _ g2 0 _ _ h2a
          have f1 := frozen_of_row _ g2 1 _ _ h2a
          have f2 := frozen_of_row _ g2 2 _ _ h2a
          have f3 := frozen_of_row _ g2 3 _ _ h2a
          have jl2 := heap_lt h2a
          have hfin := heap_set4 (v0 := .int .i64 4) (v1 := .int .i64 ln) (v2 := .int .i64 0) (v3 := .string (st t)) h2a
          have hbel := below_set4 (v0 := .int .i64 4) (v1 := .int .i64 ln) (v2 := .int .i64 0) (v3 := .string (st t)) hbB HG.out.1
          have q0 := cell_of_row _ _ 0 _ _ _ hfin
          have q1 := cell_of_row _ _ 1 _ _ _ hfin
          have q2 := cell_of_row _ _ 2 _ _ _ hfin
          have q3 := cell_of_row _ _ 3 _ _ _ hfin
          have HBEL := Lib.hid hbel
          clear hfin hbel h5a h2a hbB HB5 HB2
          go_wp2_with fail
          refine bodyPost_ret (v := .tuple #[tkv 4 ln 0 t, .int .i64 ((i : Int) + n), .bool true]) (by simp [results, Tryd.results33, go_sem, q0, q1, q2, q3]) rfl ?_
          exact ⟨HBEL.out, 4, ln, 0, t, (i : Int) + n, true, rfl, .inl ⟨rfl, rfl, by rw [HTL.out], HAN.out⟩⟩
      · go_wp2_with fail
        go_roundw
        case rel => exact ⟨n - 1, by omega, by go_num, HBA, HB2, HB5, Lib.hid (fun j h1 h2 => by
          by_cases e : j = n
          · subst e; exact fun h => hfit h.1
          · exact HNO.out j (by omega) h2)⟩
        case measure => simp [intOf]; omega
/-- next of the reference, whatever it stands at -/
theorem Rnext_any (s : ByteArray) (i : Nat) (ln : Int) (hs : s.size ≤ 281474976710656) (hi : i < s.size) (w : World) : Calls Tryd.prog 33 #[.string s, .int .i64 i, .int .i64 ln] w (RnPost (s.data.toList.drop i) i ln w) := by
  obtain ⟨b, hb⟩ : ∃ b, s[i] = b := ⟨_, rfl⟩
  cases h1 : lt8 b
  · cases h2 : dg8 b
    · exact Rnext_sign s i ln hs hi b hb h1 h2 w
    · exact Rnext_digit s i ln hs hi b hb h1 h2 w
  · exact Rnext_letter s i ln hs hi b hb h1 w
end Go.Proofs.YtlbjdglgnkajnaaDoor
namespace Go.Proofs.YtlbjdglgnkajnaaDoor
open Go.ChangeShapes Go.WideShapes Go.ChangeAt Go.RowKit
set_option linter.unusedVariables false
set_option linter.unusedSimpArgs false

theorem ext_len {s : ByteArray} {i : Nat} (h : i ≤ s.size) : (s.extract i s.size).size = s.size - i := by
  rw [← st_len, ext_end, List.length_drop, st_len]
set_option maxRecDepth 100000 in
set_option maxHeartbeats 4000000 in
theorem RScan_any (s : ByteArray) (hs : s.size ≤ 281474976710656) (w : World) : Calls Tryd.prog 20 #[.string s] w (ScanPost s.data.toList w) := by
  by_cases hbig : 65536 < s.size
  · have d0 : decide ((65536 : Int) < (s.size : Int)) = true := by rw [decide_eq_true_iff]; omega
    have HBG := Lib.hid hbig
    clear hbig
    go_enter Tryd.func20, Tryd.ntmps20
    go_wp2_with fail
    refine bodyPost_ret (v := .tuple #[.slice none 0 0, .int .i64 0, .int .i64 5]) (by simp [results, Tryd.results20, go_sem]) rfl ?_
    exact ⟨Below.refl _ _, .inl ⟨HBG.out, rfl⟩⟩
  have d0 : decide ((65536 : Int) < (s.size : Int)) = false := by rw [decide_eq_false_iff_not]; omega
  have hs2 : s.size ≤ 65536 := by omega
  have HFIN : Hid (∀ (e : Ending) (w' : World), Below w.heap.size w w' → (((scan s.data.toList).1 = none ∧ e = .returned (.tuple #[.slice none 0 0, .int .i64 (scan s.data.toList).2, .int .i64 6])) ∨ (∃ (ts : List Tk) (v : Value), (scan s.data.toList).1 = some ts ∧ e = .returned (.tuple #[v, .int .i64 0, .int .i64 0]) ∧ w'.ownsRow w.heap.size 59 4 v ts.length (tkcs ts))) → ScanPost s.data.toList w e w') := Lib.hid (fun e w' hb h => ⟨hb, by
    rcases h with h | h
    · exact .inr (.inl ⟨hs2, h⟩)
    · exact .inr (.inr ⟨hs2, h⟩)⟩)
  clear hbig
  obtain ⟨i0, hi0, hz0, hz1, hz2⟩ := info_parts Tryd.infoTok
  have HI := Lib.hid hi0
  have HZ0 := Lib.hid hz0
  have HZ1 := Lib.hid hz1
  have HZ2 := Lib.hid hz2
  clear hi0 hz0 hz1 hz2
  go_enter Tryd.func20, Tryd.ntmps20
  go_upto_block 0 with fail
  go_wp2_with fail
  go_loopw [2, 5, 6] (fun v2 v5 v6 wr => ∃ (i : Nat) (ln : Int) (acc : List Tk), v6 = .int .i64 i ∧ v5 = .int .i64 ln ∧ i ≤ s.size ∧ 1 ≤ ln ∧ ln + s.size ≤ 65537 + i ∧ acc.length + s.size ≤ 65536 + i ∧ Hid (scan s.data.toList = scI (s.extract i s.size).size acc (s.extract i s.size).data.toList ln) ∧ Hid (Below w.heap.size w wr ∧ wr.ownsRow w.heap.size 59 4 v2 acc.length (tkcs acc))) (fun _ _ v6 _ => s.size - (intOf v6).toNat)
  case atStart => exact ⟨0, 1, [], rfl, rfl, by omega, by omega, by omega, by simp; omega, Lib.hid (by rw [ext_end, ext_len (by omega)]; rfl), Lib.hid ⟨Below.refl _ _, World.ownsRow_nil _ _ _ _⟩⟩
  case round =>
    obtain ⟨i, ln, acc, rfl, rfl, hi, hl1, hl2, hac, HS, HR⟩ := hrel
    by_cases hlt : i < s.size
    · obtain ⟨b, hb⟩ : ∃ b, s[i] = b := ⟨_, rfl⟩
      obtain ⟨r, hx0⟩ : ∃ r, (s.extract i s.size).data.toList = b :: r := by
        have hgi := st_get s i hlt
        rw [hb] at hgi
        obtain ⟨hlt2, he⟩ := List.getElem?_eq_some_iff.1 hgi
        exact ⟨s.data.toList.drop (i + 1), by rw [ext_end, List.drop_eq_getElem_cons hlt2, he]⟩
      have HX0 := Lib.hid hx0
      have HXD : Hid (s.data.toList.drop i = b :: r) := Lib.hid (by rw [← ext_end]; exact hx0)
      have HSK : Hid (∀ (v l2 : Value) (j k : Nat) (d : Int), l2 = .int .i64 (ln + d) → v = .int .i64 ((i + k : Nat) : Int) → i + k ≤ s.size → stepI ln b r = .skip k d → 0 ≤ d → d ≤ 1 → (∃ (i_1 : Nat) (ln_1 : Int) (acc : List Tk), v = .int .i64 i_1 ∧ l2 = .int .i64 ln_1 ∧ i_1 ≤ s.size ∧ 1 ≤ ln_1 ∧ ln_1 + s.size ≤ 65537 + i_1 ∧ acc.length + s.size ≤ 65536 + i_1 ∧ Hid (scan s.data.toList = scI (s.extract i_1 s.size).size acc (s.extract i_1 s.size).data.toList ln_1) ∧ Hid (Below w.heap.size w wr ∧ wr.ownsRow w.heap.size 59 4 u2 acc.length (tkcs acc)))) := Lib.hid (fun v l2 j k d hl hj hjs hst hd0 hd1 => by
        subst hl hj
        have hk1 := step_pos hst
        refine ⟨i + k, ln + d, acc, rfl, rfl, by omega, by omega, by omega, by omega, Lib.hid ?_, HR⟩
        rw [HS.out]
        exact sc_skip HX0.out hst (by rw [ext_end, ← List.drop_drop, HXD.out]))
      clear hx0
      by_cases h10 : b.toNat = 10
      · have d10 : ((b.toNat : Int) == 10) = true := by rw [beq_iff_eq]; omega
        have HST : Hid (stepI ln b r = .skip 1 1) := Lib.hid (by unfold stepI; rw [if_pos h10])
        clear h10
        go_wp2_with fail
        go_roundw
        case rel => exact HSK.out _ _ 0 1 1 rfl rfl (by omega) HST.out (by omega) (by omega)
        case measure => simp [intOf]; omega
      have d10 : ((b.toNat : Int) == 10) = false := by rw [beq_eq_false_iff_ne]; omega
      by_cases h32 : b.toNat = 32
      · have d32 : ((b.toNat : Int) == 32) = true := by rw [beq_iff_eq]; omega
        have HST : Hid (stepI ln b r = .skip 1 0) := Lib.hid (by unfold stepI; rw [if_neg h10, if_pos (.inl h32)])
        clear h10 h32
        go_wp2_with fail
        go_roundw
        case rel => exact HSK.out _ _ 0 1 0 (by simp) rfl (by omega) HST.out (by omega) (by omega)
        case measure => simp [intOf]; omega
      have d32 : ((b.toNat : Int) == 32) = false := by rw [beq_eq_false_iff_ne]; omega
      by_cases h9 : b.toNat = 9
      · have d9 : ((b.toNat : Int) == 9) = true := by rw [beq_iff_eq]; omega
        have HST : Hid (stepI ln b r = .skip 1 0) := Lib.hid (by unfold stepI; rw [if_neg h10, if_pos (.inr h9)])
        clear h10 h32 h9
        go_wp2_with fail
        go_roundw
        case rel => exact HSK.out _ _ 0 1 0 (by simp) rfl (by omega) HST.out (by omega) (by omega)
        case measure => simp [intOf]; omega
      have d9 : ((b.toNat : Int) == 9) = false := by rw [beq_eq_false_iff_ne]; omega
      by_cases h35 : b.toNat = 35
      · have d35 : ((b.toNat : Int) == 35) = true := by rw [beq_iff_eq]; omega
        have HST : Hid (stepI ln b r = .skip (run nl8 (s.data.toList.drop i)).length 0) := Lib.hid (by unfold stepI; rw [if_neg h10, if_neg (by omega), if_pos h35, HXD.out])
        have HLP : Hid (1 ≤ (run nl8 (s.data.toList.drop i)).length) := Lib.hid (by rw [HXD.out]; exact nl_pos b r h10)
        clear h10 h32 h9 h35
        go_upto_block 3 with fail
        go_wp2_with fail
        go_loopw [6] (fun v6 wq => ∃ k : Nat, i ≤ k ∧ k ≤ s.size ∧ v6 = .int .i64 k ∧ wq = wr ∧ Hid (∀ j, i ≤ j → j < k → ∃ b, s.data.toList[j]? = some b ∧ nl8 b = true)) (fun v6 _ => s.size - (intOf v6).toNat)
        case atStart => exact ⟨i, by omega, by omega, rfl, rfl, Lib.hid (fun j h1 h2 => absurd h2 (by omega))⟩
        case round =>
          obtain ⟨k, hk0, hk, rfl, rfl, HA⟩ := hrel
          by_cases hlk : k < s.size
          · have HGK := Lib.hid (st_get s k hlk)
            obtain ⟨c, hc⟩ : ∃ c, s[k] = c := ⟨_, rfl⟩
            rw [hc] at HGK
            by_cases hc10 : c.toNat = 10
            · have dc : ((c.toNat : Int) != 10) = false := by rw [hc10]; rfl
              have HNL : Hid (nl8 c = false) := Lib.hid (by unfold nl8; simp [hc10])
              clear hc10
              have HKK : Hid (i + (run nl8 (s.data.toList.drop i)).length = k) := Lib.hid (run_end_len hk0 (by rw [st_len]; exact hk) HA.out (fun b hb => by rw [HGK.out] at hb; injection hb with hb; subst hb; exact HNL.out))
              go_wp2_with fail
              go_roundw
              case rel => exact HSK.out _ _ 0 _ 0 (by simp) (by rw [HKK.out]) (by rw [HKK.out]; omega) HST.out (by omega) (by omega)
              case measure => simp [intOf]; have h1 := HKK.out; have h2 := HLP.out; omega
            · have dc : ((c.toNat : Int) != 10) = true := by rw [bne_iff_ne]; omega
              have HNL : Hid (nl8 c = true) := Lib.hid (by unfold nl8; simp [hc10])
              clear hc10
              go_wp2_with fail
              go_roundw
              case rel => exact ⟨k + 1, by omega, by omega, by go_num, by first | rfl | trivial, Lib.hid (rn_more HA.out HGK.out HNL.out)⟩
              case measure => simp [intOf]; omega
          · obtain rfl : k = s.size := by omega
            have HKK : Hid (i + (run nl8 (s.data.toList.drop i)).length = s.size) := Lib.hid (run_end_len hk0 (by rw [st_len]; exact hk) HA.out (fun b hb => by
              have := (List.getElem?_eq_some_iff.1 hb).1
              rw [st_len] at this; omega))
            go_wp2_with fail
            go_roundw
            case rel => exact HSK.out _ _ 0 _ 0 (by simp) (by rw [HKK.out]) (by rw [HKK.out]; omega) HST.out (by omega) (by omega)
            case measure => simp [intOf]; have h1 := HKK.out; have h2 := HLP.out; omega
      have d35 : ((b.toNat : Int) == 35) = false := by rw [beq_eq_false_iff_ne]; omega
      have HST : Hid (stepI ln b r = if (nxI (b :: r)).2.2.2 = true then .tok ⟨(nxI (b :: r)).1, ln, (nxI (b :: r)).2.1, (nxI (b :: r)).2.2.1⟩ else .bad) := Lib.hid (by unfold stepI; rw [if_neg h10, if_neg (by omega), if_neg h35])
      clear h10 h32 h9 h35
      go_wp2_with fail
      refine (Rnext_any s i ln (by omega) hlt _).mono ?_
      rintro e w1 ⟨hb1, k, x, v, t, m, ok, rfl, hnx⟩
      rw [HXD.out] at hnx
      have hsz := HR.out.1.size
      have HB1 := Lib.hid (HR.out.1.trans (hb1.mono HR.out.1.size))
      have HO1 := Lib.hid (own_below HR.out.2 hb1)
      clear hb1
      cases ok
      · have HBAD : Hid (scan s.data.toList = (none, ln)) := Lib.hid (by
          rw [HS.out]
          refine sc_bad HX0.out ?_
          rw [HST.out, if_neg]
          rcases hnx with h | ⟨_, h⟩
          · exact absurd h.1 (by simp)
          · rw [h]; simp)
        clear hnx
        go_wp2_with fail
        refine bodyPost_ret (v := .tuple #[.slice none 0 0, .int .i64 ln, .int .i64 6]) (by simp [results, Tryd.results20, go_sem]) rfl ?_
        exact HFIN.out _ _ (HB1.out.alloc HB1.out.size _) (.inl ⟨by rw [HBAD.out], by rw [HBAD.out]⟩)
      · obtain ⟨hxl, hm, hnx2⟩ : x = ln ∧ m = (i : Int) + t.length ∧ nxI (b :: r) = (k, v, t, true) := by
          rcases hnx with h | ⟨h, _⟩
          · exact h.2
          · cases h
        subst hxl
        have HST2 : Hid (stepI x b r = .tok ⟨k, x, v, t⟩) := Lib.hid (by rw [HST.out, hnx2]; simp)
        have ht1 : 1 ≤ t.length := by have := nx_pos (b := b) (r := r) (by rw [hnx2]); rw [hnx2] at this; exact this
        have ht2 : i + t.length ≤ s.size := by have := nx_le (b :: r); rw [hnx2, ← HXD.out, List.length_drop, st_len] at this; simp only at this; omega
        subst hm
        clear hnx hnx2
        have hsz1 := HB1.out.size
        go_upto_region 9 with fail
        obtain ⟨w2, hw2⟩ : ∃ w2, w2 = (w1.alloc (.cells #[.int .i64 k, .int .i64 x, .int .i64 v, .string (st t)] 59)) := ⟨_, rfl⟩
        rw [← hw2]
        have hbb : Below w1.heap.size w1 w2 := by rw [hw2]; exact (Below.refl _ _).alloc (Nat.le_refl _) _
        have hblk : w2.heap[w1.heap.size]? = some (.cells #[.int .i64 k, .int .i64 x, .int .i64 v, .string (st t)] 59 (0, 0)) := by rw [hw2]; exact heap_alloc_new w1 _
        have HB2 := Lib.hid (HB1.out.trans (hbb.mono HB1.out.size))
        have HO2 := Lib.hid (own_below HO1.out hbb)
        have HNG : Hid (∀ q, u2.ownBlock = some q → q ≠ w1.heap.size) := Lib.hid (fun q hq => by have := (HO1.out.lt q hq).2; omega)
        have HBL := Lib.hid hblk
        have c0 := cell_of_row _ _ 0 _ _ _ hblk
        have c1 := cell_of_row _ _ 1 _ _ _ hblk
        have c2 := cell_of_row _ _ 2 _ _ _ hblk
        have c3 := cell_of_row _ _ 3 _ _ _ hblk
        have cl := heap_lt hblk
        obtain ⟨g5, hg5⟩ : ∃ g5, w1.heap.size = g5 := ⟨_, rfl⟩
        rw [hg5] at HNG HBL c0 c1 c2 c3 cl ⊢
        clear hw2 hbb hblk hg5 hsz1
        have HOA := Lib.hid (HO2.out.alloc (.cells #[.int .i64 k, .int .i64 x, .int .i64 v, .string (st t)] 59))
        have HBA := Lib.hid (HB2.out.alloc HB2.out.size (.cells #[.int .i64 k, .int .i64 x, .int .i64 v, .string (st t)] 59))
        have hsz2 := HB2.out.size
        clear HB1 HO1
        clear w1
        go_wp2_with (at_builtin; refine wpList_append_own _ rfl _ _ _ rfl w.heap.size 59 i0 _ 4 40 Tryd.underlying50 HI.out HZ0.out HZ1.out HZ2.out rfl (by omega) _ _ _ rfl HOA.out ⟨w2.heap.size, 0, none⟩ 1 1 [.int .i64 k, .int .i64 x, .int .i64 v, .string (st t)] rfl rfl (World.news_of_block (cs := #[.int .i64 k, .int .i64 x, .int .i64 v, .string (st t)]) (t := 59) (fr := (0, 0)) (heap_alloc_new w2 _)) (by simp [Value.oneCell']) (by unfold maxLen; omega) (by omega) (by simp; omega) ?_; intro v' w9 hown9 hgrow9 _; have HO9 := Lib.hid hown9; have HG9 := Lib.hid hgrow9; clear hown9 hgrow9)
        have HB9 := Lib.hid (HBA.out.grown HG9.out HBA.out.size (fun k hk => (HOA.out.lt k hk).1))
        go_roundw
        case rel =>
          refine ⟨i + t.length, x, acc ++ [⟨k, x, v, t⟩], by simp, rfl, by omega, by omega, by omega, by simp; omega, Lib.hid ?_, Lib.hid ⟨HB9.out, ?_⟩⟩
          · rw [HS.out]
            exact sc_tok HX0.out HST2.out ht1 (by rw [ext_end, ← List.drop_drop, HXD.out])
          · have := HO9.out
            rw [← tkcs_push]
            simpa using this
        case measure => simp [intOf]; omega
    · obtain rfl : i = s.size := by omega
      have HE : Hid (scan s.data.toList = (some (acc ++ [⟨0, ln, 0, []⟩]), 0)) := Lib.hid (by rw [HS.out, ext_end, List.drop_eq_nil_of_le (by rw [st_len]; exact Nat.le_refl _), scI_nil])
      have HOA := Lib.hid (HR.out.2.alloc (.cells #[.int .i64 0, .int .i64 ln, .int .i64 0, .string ⟨#[]⟩] 59))
      have hbA := HR.out.1.alloc HR.out.1.size (.cells #[.int .i64 0, .int .i64 ln, .int .i64 0, .string ⟨#[]⟩] 59)
      have HBA := Lib.hid hbA
      have hsz := HR.out.1.size
      clear hbA
      go_wp2_with (at_builtin; refine wpList_append_own _ rfl _ _ _ rfl w.heap.size 59 i0 _ 4 40 Tryd.underlying50 HI.out HZ0.out HZ1.out HZ2.out rfl (by omega) _ _ _ rfl HOA.out ⟨wr.heap.size, 0, none⟩ 1 1 [.int .i64 0, .int .i64 ln, .int .i64 0, .string ⟨#[]⟩] rfl rfl (World.news_of_block (cs := #[.int .i64 0, .int .i64 ln, .int .i64 0, .string ⟨#[]⟩]) (t := 59) (fr := (0, 0)) (heap_alloc_new wr _)) (by simp [Value.oneCell']) (by unfold maxLen; omega) (by omega) (by simp; omega) ?_; intro v' w9 hown9 hgrow9 _; have HO9 := Lib.hid hown9; have HG9 := Lib.hid hgrow9; clear hown9 hgrow9)
      refine bodyPost_ret (v := .tuple #[v', .int .i64 0, .int .i64 0]) (by simp [results, Tryd.results20, go_sem]) rfl ?_
      refine HFIN.out _ _ (HBA.out.grown HG9.out HBA.out.size (fun k hk => (HOA.out.lt k hk).1)) (.inr ⟨acc ++ [⟨0, ln, 0, []⟩], v', by rw [HE.out], rfl, ?_⟩)
      have := HO9.out
      rw [← tkcs_push]
      simpa using this
end Go.Proofs.YtlbjdglgnkajnaaDoor
