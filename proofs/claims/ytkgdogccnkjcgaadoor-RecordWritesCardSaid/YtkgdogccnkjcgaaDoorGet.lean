/-
  WALKS of warmpathref01.Equal, Uint and Int (both).
-/
import Derived.Test.YtkgdogccnkjcgaaDoorPut
namespace Go.Proofs.YtkgdogccnkjcgaaDoor
open Go.ChangeShapes Go.WideShapes Go.ChangeAt Go.RowKit

set_option maxRecDepth 100000 in
set_option maxHeartbeats 4000000 in
theorem Equal_same (a a' : Option Addr) (n cap cap' : Nat) (zs : List Nat) (hm : n ≤ 100000) (w : World) (h : Bs w a n cap zs) (h' : Bs w a' n cap' zs) :
    Calls Tryd.prog 17 #[.slice a n cap, .slice a' n cap'] w fun e w' => e = .returned (.bool true) ∧ Below w.heap.size w w' := by
  have HC := Lib.hid h
  have HC' := Lib.hid h'
  have HN := Lib.hid h.1
  have e1 : ((n : Int) != (n : Int)) = false := by simp
  clear h h'
  go_enter Tryd.func17, Tryd.ntmps17
  go_wp2_with fail
  go_loopw [5] (fun v5 wr => ∃ k : Nat, k ≤ n ∧ v5 = .int .i64 k ∧ Below w.heap.size w wr) (fun v _ => n - (intOf v).toNat)
  case atStart => exact ⟨0, by omega, rfl, Below.refl _ _⟩
  case round =>
    obtain ⟨k, hk, rfl, hb⟩ := hrel
    by_cases hlt : k < n
    · have hkl : k < zs.length := by have := HN.out; omega
      obtain ⟨b, off, rfl, hbl, hcell⟩ := HC.out.2.2.2.2.byt k hkl
      obtain ⟨b', off', rfl, hbl', hcell'⟩ := HC'.out.2.2.2.2.byt k hkl
      have c1 := (hb.cell (p := ⟨b, off + k, none⟩) hbl).trans (hcell k hkl)
      have c2 := (hb.cell (p := ⟨b', off' + k, none⟩) hbl').trans (hcell' k hkl)
      obtain ⟨x, hx⟩ : ∃ x : Nat, zs.getD k 0 = x := ⟨_, rfl⟩
      rw [hx] at c1 c2
      have i0 : (0 : Int) ≤ (k : Int) := by omega
      have i1 : (k : Int) < (n : Int) := by omega
      have e2 : ((x : Int) != (x : Int)) = false := by simp
      clear hcell hcell' hx
      go_wp2_with fail
      go_quiet (fail)
      go_wp2_with fail
      go_roundw
      case rel => exact ⟨k + 1, by omega, by go_num, below_drewN hb _⟩
      case measure => simp [intOf]; omega
    · obtain rfl : k = n := by omega
      go_wp2_with fail
      go_ret
      exact ⟨rfl, hb⟩

/-- what Uint says -/
def Got (zs : List Nat) (w : World) (e : Ending) (w' : World) : Prop :=
  e = .returned (.tuple #[.int .u64 (ud zs).1, .int .i64 (ud zs).2.1, .int .i64 (ud zs).2.2]) ∧ w = w'
theorem udF_step (l : List Nat) (i acc : Nat) (h : i < 10) : udF (10 - i) l i acc = if i = l.length then (0, 0, 2)
    else if (i = 9 ∧ 1 < l.getD i 0) ∨ (l.getD i 0 = 0 ∧ 0 < i) then (0, 0, 3)
    else if l.getD i 0 < 128 then (acc + l.getD i 0 % 128 * 128 ^ i, i + 1, 0)
    else udF (10 - (i + 1)) l (i + 1) (acc + l.getD i 0 % 128 * 128 ^ i) := by
  obtain ⟨f, hf⟩ : ∃ f, 10 - i = f + 1 := ⟨10 - i - 1, by omega⟩
  rw [hf, show 10 - (i + 1) = f by omega]
  rfl
theorem got_of {zs : List Nat} {w : World} {v k r : Nat} (h : ud zs = (v, k, r)) : Got zs w (.returned (.tuple #[.int .u64 v, .int .i64 k, .int .i64 r])) w := by
  refine ⟨?_, rfl⟩; rw [h]
theorem pow7 (i : Nat) : (2 : Nat) ^ (7 * i) = 128 ^ i := by rw [Nat.pow_mul]
theorem clear128 (x : Nat) (h : x < 256) : bits .andNot .u8 (x : Int) 128 = ((x % 128 : Nat) : Int) := by
  rw [show (128 : Int) = ((128 : Nat) : Int) from rfl, u8_andNot_nat x 128 h (by omega)]
  rw [show x &&& (255 - 128) = x % 128 from Nat.and_two_pow_sub_one_eq_mod x 7]
theorem shl_in {g i : Nat} (hg : g < 128) (hi : i < 9) : IntKind.u64.wrap ((g : Int) * 2 ^ (7 * i)) = ((g * 128 ^ i : Nat) : Int) := by
  have h1 : (g : Int) * 2 ^ (7 * i) = ((g * 128 ^ i : Nat) : Int) := by rw [← pow7]; simp
  rw [h1, IntKind.wrap_u64]
  have h2 : g * 128 ^ i ≤ 127 * 128 ^ 8 := Nat.mul_le_mul (by omega) (Nat.pow_le_pow_right (by omega) (by omega))
  have h3 : (127 : Nat) * 128 ^ 8 = 9151314442816847872 := by decide
  omega
theorem or_in {acc g i : Nat} (ha : acc < 128 ^ i) (hg : g < 128) (hi : i < 9) : bits .or .u64 (acc : Int) ((g * 128 ^ i : Nat) : Int) = ((acc + g * 128 ^ i : Nat) : Int) := by
  have h1 : (128 : Nat) ^ i ≤ 128 ^ 8 := Nat.pow_le_pow_right (by omega) (by omega)
  have h2 : g * 128 ^ i ≤ 127 * 128 ^ 8 := Nat.mul_le_mul (by omega) h1
  have h3 : (127 : Nat) * 128 ^ 8 = 9151314442816847872 := by decide
  have h4 : (128 : Nat) ^ 8 = 72057594037927936 := by decide
  rw [u64_or_nat acc _ (by omega) (by omega), Nat.or_comm, nat_join (7 * i) (g * 128 ^ i) acc (by rw [pow7]; exact Nat.mul_mod_left _ _) (by rw [pow7]; exact ha), Nat.add_comm]
theorem or_9 {acc : Nat} (ha : acc < 128 ^ 9) : bits .or .u64 (acc : Int) 9223372036854775808 = ((acc + 9223372036854775808 : Nat) : Int) := by
  have h4 : (128 : Nat) ^ 9 = 9223372036854775808 := by decide
  rw [show (9223372036854775808 : Int) = ((9223372036854775808 : Nat) : Int) from rfl, u64_or_nat acc _ (by omega) (by omega), Nat.or_comm, nat_join 63 9223372036854775808 acc (by decide) (by omega), Nat.add_comm]
theorem acc_lt {acc g i : Nat} (ha : acc < 128 ^ i) (hg : g < 128) : acc + g * 128 ^ i < 128 ^ (i + 1) := by
  have : g * 128 ^ i ≤ 127 * 128 ^ i := Nat.mul_le_mul_right _ (by omega)
  rw [Nat.pow_succ]; omega

set_option maxRecDepth 100000 in
set_option maxHeartbeats 4000000 in
theorem Uint_any (a : Option Addr) (n cap : Nat) (zs : List Nat) (hm : n ≤ 100000) (hby : Byt zs) (w : World) (h : Bs w a n cap zs) : Calls Tryd.prog 53 #[.slice a n cap] w (Got zs w) := by
  have HC := Lib.hid h
  have HN := Lib.hid h.1
  have HB := Lib.hid hby
  clear h hby
  go_enter Tryd.func53, Tryd.ntmps53
  go_wp2_with fail
  go_loop [5, 8] (fun v5 v8 => ∃ i acc : Nat, i ≤ n ∧ i ≤ 10 ∧ v8 = .int .i64 i ∧ v5 = .int .u64 acc ∧ Hid (acc < 128 ^ i) ∧ Hid (udF (10 - i) zs i acc = ud zs)) (fun _ v => 10 - (intOf v).toNat)
  case atStart => exact ⟨0, 0, by omega, by omega, rfl, rfl, Lib.hid (by decide), Lib.hid rfl⟩
  case round =>
    obtain ⟨i, acc, hin, hi10, rfl, rfl, hacc, hud⟩ := hrel
    by_cases h10 : i < 10
    · have hstep := hud.out
      rw [udF_step zs i acc h10, HN.out] at hstep
      clear hud
      by_cases hie : i = n
      · have d1 : ((i : Int) == (n : Int)) = true := by simp; omega
        rw [if_pos hie] at hstep
        have HS := Lib.hid hstep.symm
        clear hstep hie
        go_wp2_with fail
        go_ret3
        exact got_of HS.out
      · have hlt : i < n := by omega
        have hkl : i < zs.length := by have := HN.out; omega
        obtain ⟨b, off, rfl, hbl, hcell⟩ := HC.out.2.2.2.2.byt i hkl
        have c := hcell i hkl
        have hx := HB.out.get i
        rw [if_neg hie] at hstep
        obtain ⟨x, hxx⟩ : ∃ x : Nat, zs.getD i 0 = x := ⟨_, rfl⟩
        rw [hxx] at c hx hstep
        have d1 : ((i : Int) == (n : Int)) = false := by simp; omega
        clear hcell hxx hie
        by_cases hbad : (i = 9 ∧ 1 < x) ∨ (x = 0 ∧ 0 < i)
        · rw [if_pos hbad] at hstep
          have HS := Lib.hid hstep.symm
          clear hstep
          have hg : x % 128 < 128 := Nat.mod_lt _ (by omega)
          rcases hbad with ⟨rfl, hx1⟩ | ⟨rfl, hi0⟩
          · have d9 : (1 : Int) < (x : Int) := by omega
            go_wp2_with fail
            go_ret3
            exact got_of HS.out
          · by_cases h9 : i = 9
            · subst h9
              go_wp2_with fail
              go_ret3
              exact got_of HS.out
            · have d9 : ((i : Int) == 9) = false := by simp; omega
              have e3 := shl_in (g := 0) (i := i) (by omega) (by omega)
              have e4 := or_in (g := 0) hacc.out (by omega) (show i < 9 by omega)
              rw [Nat.zero_mul] at e3 e4
              clear h9
              go_wp2_with fail
              go_ret3
              exact got_of HS.out
        · rw [if_neg hbad] at hstep
          by_cases hx0 : x = 0
          · obtain rfl : i = 0 := by omega
            obtain rfl : acc = 0 := by have := hacc.out; simpa using this
            subst hx0
            rw [Nat.add_zero] at c
            rw [if_pos (by omega)] at hstep
            have HS := Lib.hid (show ud zs = (0, 1, 0) from hstep.symm)
            have e5 : bits .andNot .u8 0 128 = 0 := by decide
            have e6 : bits .or .u64 0 0 = 0 := by decide
            clear hstep hbad hacc
            go_wp2_with fail
            go_ret3
            exact got_of HS.out
          by_cases h9 : i = 9
          · subst h9
            obtain rfl : x = 1 := by omega
            rw [if_pos (by omega)] at hstep
            have HS := Lib.hid (show ud zs = (acc + 9223372036854775808, 10, 0) from hstep.symm)
            have e4 := or_9 hacc.out
            have e5 : bits .andNot .u8 1 128 = 1 := by decide
            clear hstep hbad
            go_wp2_with fail
            go_ret3
            exact got_of HS.out
          · have d9 : ((i : Int) == 9) = false := by simp; omega
            have hg : x % 128 < 128 := Nat.mod_lt _ (by omega)
            have hal := acc_lt hacc.out hg
            obtain ⟨g, hgx⟩ : ∃ g, x % 128 = g := ⟨_, rfl⟩
            have e3 := shl_in (g := g) (i := i) (by omega) (by omega)
            have e4 := or_in (g := g) hacc.out (by omega) (show i < 9 by omega)
            have e2 := clear128 x hx
            rw [hgx] at e2
            rw [hgx] at hg hstep hal
            obtain ⟨s, hs⟩ : ∃ s, g * 128 ^ i = s := ⟨_, rfl⟩
            rw [hs] at e3 e4 hstep hal
            obtain ⟨acc', hacc'⟩ : ∃ a, acc + s = a := ⟨_, rfl⟩
            rw [hacc'] at e4 hstep hal
            have HAL := Lib.hid hal
            clear hs hgx hacc' hbad h9 hal
            by_cases hlt2 : x < 128
            · rw [if_pos hlt2] at hstep
              have HS := Lib.hid hstep.symm
              clear hstep
              have dx : ((x : Int) == 0) = false := by simp; omega
              clear hx0
              go_wp2_with fail
              go_ret3
              exact got_of HS.out
            · rw [if_neg hlt2] at hstep
              have HS := Lib.hid hstep
              have dx : ((x : Int) == 0) = false := by simp; omega
              clear hstep hx0
              go_wp2_with fail
              go_round
              case rel => exact ⟨i + 1, acc', by omega, by omega, by go_num, rfl, HAL, HS⟩
              case measure => simp [intOf]; omega
    · obtain rfl : i = 10 := by omega
      have HS := Lib.hid (show ud zs = (0, 0, 3) from hud.out.symm)
      clear hud
      go_wp2_with fail
      go_ret3
      exact got_of HS.out
theorem or_0 {acc : Nat} (ha : acc < 18446744073709551616) : bits .or .u64 (acc : Int) 0 = (acc : Int) := by
  rw [show (0 : Int) = ((0 : Nat) : Int) from rfl, u64_or_nat acc 0 ha (by omega), Nat.or_zero]
end Go.Proofs.YtkgdogccnkjcgaaDoor
