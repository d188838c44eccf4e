/-
  WALKS of slices.Clone at bytes, PutUint and PutInt (both), warmpathref01.Equal.
-/
import Derived.Test.YtkgdogccnkjcgaaDoorDraw
import Derived.Test.YtkgdogccnkjcgaaDoorWords
import Derived.Test.YtkgdogccnkjcgaaDoorPlain
import Derived.Laws.BitsAllLaws
namespace Go.Proofs.YtkgdogccnkjcgaaDoor
open Go.ChangeShapes Go.WideShapes Go.ChangeAt Go.RowKit

theorem Tryd.info5 : (Tryd.prog.info? 5).map (fun i => (i.zero, i.size, i.bytes)) = some (some (.int .u8 0), 1, 1) := by kernel_rfl
/-- a slice of bytes that the call has made -/
def BytMade (zs : List Nat) (w : World) (e : Ending) (w' : World) : Prop :=
  ∃ v, e = .returned v ∧ w'.ownsRow w.heap.size 5 1 v zs.length (byts zs) ∧ Below w.heap.size w w'
set_option maxRecDepth 100000 in
set_option maxHeartbeats 2000000 in
theorem CloneB (a : Option Addr) (n cap : Nat) (zs : List Nat) (hn : n ≤ 100000) (w : World) (h : Bs w a n cap zs) : Calls Tryd.prog 52 #[.slice a n cap] w (BytMade zs w) := by
  obtain ⟨i0, hi0, hz0, hz1, hz2⟩ := info_parts Tryd.info5
  cases a with
  | none =>
    have h0 := h.2.2.2.1 rfl
    have h1 := h.2.1
    obtain rfl : n = 0 := by omega
    have hz : zs = [] := List.eq_nil_of_length_eq_zero h.1
    have hq := @Lib.run_eql_slice_nil Tryd.prog
    clear h
    subst hz
    go_enter Tryd.func52, Tryd.ntmps52
    go_wp2_with fail
    go_ret
    exact ⟨_, rfl, World.ownsRow_nil _ _ _ _, Below.refl _ _⟩
  | some a =>
    have H := Lib.hid h
    have hz := h.1
    have hq := @Lib.run_eql_slice_nil Tryd.prog
    clear h
    go_enter Tryd.func52, Tryd.ntmps52
    go_wp2_with (at_builtin; refine wpList_append_own _ rfl _ _ _ rfl w.heap.size 5 i0 _ 1 1 Tryd.underlying22 hi0 hz0 hz1 hz2 rfl (by omega) _ _ _ rfl (World.ownsRow_made w #[] 0 (Nat.le_refl _) (by simp [maxLen]) (by simp)) a n cap (byts zs) rfl (by simp [hz]) (cells_at (H.out.below ((Below.refl _ _).alloc (Nat.le_refl _) _)).2.2.2.2) (byts_one _) (by unfold maxLen; omega) (by omega) (by simp) ?_; intro v w1 hown hgr _)
    go_ret
    subst hz
    exact ⟨v, rfl, by simpa using hown, ((Below.refl _ _).alloc (Nat.le_refl _) _).grown hgr (by simp) (fun k e => by injection e with e; simp at e; omega)⟩

/-- the unsigned numbers as the walk spells them -/
theorem or128 (m : Nat) : bits .or .u8 ((m : Int) % 256) 128 = ((m % 128 + 128 : Nat) : Int) := by
  rw [show ((m : Int) % 256) = ((m % 256 : Nat) : Int) by omega, show (128 : Int) = ((128 : Nat) : Int) from rfl, u8_or_nat (m % 256) 128 (by omega) (by omega)]
  have h : m % 256 ||| 128 = m % 128 + 128 := by
    have h1 : ∀ a, a < 256 → a ||| 128 = a % 128 + 128 := by decide +kernel
    rw [h1 _ (by omega)]; omega
  rw [h]
set_option maxRecDepth 100000 in
set_option maxHeartbeats 2000000 in
theorem PutUint_any (a : Option Addr) (n cap N : Nat) (zs : List Nat) (hn : n ≤ 99000) (hN : N < 18446744073709551616) (w : World) (h : Bs w a n cap zs) : Calls Tryd.prog 32 #[.slice a n cap, .int .u64 N] w (BytMade (zs ++ uenc N) w) := by
  obtain ⟨i0, hi0, hz0, hz1, hz2⟩ := info_parts Tryd.info5
  have H := Lib.hid h
  have hz := h.1
  have h10 := uenc_len10 hN
  clear h
  go_enter Tryd.func32, Tryd.ntmps32
  go_wp2_with fail
  refine (CloneB a n cap zs (by omega) _ H.out).mono ?_
  rintro e w1 ⟨v, rfl, hown, hb1⟩
  rw [hz] at hown
  go_wp2_with fail
  go_loopw [1, 5] (fun v1 v5 wr => ∃ (m : Nat) (pre : List Nat), v1 = .int .u64 m ∧ m < 18446744073709551616 ∧ Hid (pre ++ uenc m = uenc N) ∧ pre.length + (uenc m).length ≤ 10 ∧ wr.ownsRow w.heap.size 5 1 v5 (n + pre.length) (byts (zs ++ pre)) ∧ Below w.heap.size w wr) (fun v _ _ => (intOf v).toNat)
  case atStart => exact ⟨N, [], rfl, hN, Lib.hid rfl, by simpa using h10, by simpa using hown, hb1⟩
  case round =>
    obtain ⟨m, pre, rfl, hm, hpre, hl, hown, hb⟩ := hrel
    have hu := uenc_pos m
    have hsz := hb.size
    by_cases hlt : m < 128
    · have d1 : decide ((128 : Int) ≤ (m : Int)) = false := by simp; omega
      have hpe := hpre.out
      rw [uenc_small hlt] at hpe
      have HPE := Lib.hid hpe
      have hlp : pre.length ≤ 9 := by omega
      clear hpre hl hpe
      go_wp2_with (at_builtin; refine wpList_append_own _ rfl _ _ _ rfl w.heap.size 5 i0 _ 1 1 Tryd.underlying22 hi0 hz0 hz1 hz2 rfl (by omega) _ _ _ rfl (hown.alloc _) ⟨wr.heap.size, 0, none⟩ 1 1 [.int .u8 (m : Int)] rfl rfl (World.news_of_block (cs := #[.int .u8 (m : Int)]) (t := 5) (fr := (0, 0)) (heap_alloc_new wr _)) (by simp [Value.oneCell']) (by unfold maxLen; omega) (by omega) (by simp; omega) ?_; intro v' w5 hown5 hgrow5 _)
      have hb5 := (hb.alloc hb.size (.cells #[.int .u8 (m : Int)] 5)).grown hgrow5 (by simp; omega) (fun k hk => (hown.lt k hk).1)
      go_ret
      refine ⟨v', rfl, ?_, hb5⟩
      rw [← HPE.out, ← List.append_assoc, List.length_append, List.length_append, hz, byts_append]
      exact hown5
    · have d1 : decide ((128 : Int) ≤ (m : Int)) = true := by simp; omega
      have hpe := hpre.out
      rw [uenc_big hlt] at hpe
      have hpe' : pre ++ [m % 128 + 128] ++ uenc (m / 128) = uenc N := by rw [← hpe]; simp
      have hlu : pre.length + 1 + (uenc (m / 128)).length ≤ 10 := by have := congrArg List.length hpe'; simp only [List.length_append, List.length_singleton] at this; omega
      have hlu1 := uenc_pos (m / 128)
      obtain ⟨x, hx⟩ : ∃ x, m % 128 + 128 = x := ⟨_, rfl⟩
      have e1 : bits .or .u8 ((m : Int) % 256) 128 = (x : Int) := by rw [or128 m, hx]
      rw [hx] at hpe'
      have HPE := Lib.hid hpe'
      clear hpre hpe hpe' hl hx hu
      go_wp2_with (at_builtin; refine wpList_append_own _ rfl _ _ _ rfl w.heap.size 5 i0 _ 1 1 Tryd.underlying22 hi0 hz0 hz1 hz2 rfl (by omega) _ _ _ rfl (hown.alloc _) ⟨wr.heap.size, 0, none⟩ 1 1 [.int .u8 (x : Int)] rfl rfl (World.news_of_block (cs := #[.int .u8 (x : Int)]) (t := 5) (fr := (0, 0)) (heap_alloc_new wr _)) (by simp [Value.oneCell']) (by unfold maxLen; omega) (by omega) (by simp; omega) ?_; intro v' w5 hown5 hgrow5 _)
      have hb5 := (hb.alloc hb.size (.cells #[.int .u8 (x : Int)] 5)).grown hgrow5 (by simp; omega) (fun k hk => (hown.lt k hk).1)
      have hown6 : w5.ownsRow w.heap.size 5 1 v' (n + (pre ++ [x]).length) (byts (zs ++ (pre ++ [x]))) := by
        rw [← List.append_assoc, byts_append, List.length_append]; exact hown5
      have HO := Lib.hid hown6
      clear hown5 hown6 hown hgrow5
      go_wp2_with fail
      go_roundw
      case rel => exact ⟨m / 128, pre ++ [x], by go_num, by omega, HPE, by simp only [List.length_append, List.length_singleton]; omega, HO.out, hb5⟩
      case measure => simp [intOf]; omega
set_option maxRecDepth 100000 in
set_option maxHeartbeats 2000000 in
theorem refPutUint_any (a : Option Addr) (n cap N : Nat) (zs : List Nat) (hn : n ≤ 99000) (hN : N < 18446744073709551616) (w : World) (h : Bs w a n cap zs) : Calls Tryd.prog 49 #[.slice a n cap, .int .u64 N] w (BytMade (zs ++ uenc N) w) := by
  obtain ⟨i0, hi0, hz0, hz1, hz2⟩ := info_parts Tryd.info5
  have H := Lib.hid h
  have hz := h.1
  have h10 := uenc_len10 hN
  clear h
  go_enter Tryd.func49, Tryd.ntmps49
  go_wp2_with (at_builtin; refine wpList_append_src rfl _ _ _ rfl w.heap.size 5 i0 _ 1 1 Tryd.underlying22 hi0 hz0 hz1 hz2 rfl (by omega) _ _ _ rfl (World.ownsRow_nil _ _ _ _) a n cap (byts zs) rfl H.out.2.1 H.out.2.2.2.1 (by simp [hz]) H.out.2.2.2.2 (byts_one _) (by unfold maxLen; omega) (by omega) (Nat.le_refl _) ?_; intro v w1 hown hgr; have hb1 := (Below.refl w.heap.size w).grown hgr (Nat.le_refl _) (fun k e => by cases e); rw [Nat.zero_add, List.nil_append] at hown; clear hgr)
  go_loopw [1, 5] (fun v1 v5 wr => ∃ (m : Nat) (pre : List Nat), v1 = .int .u64 m ∧ m < 18446744073709551616 ∧ Hid (pre ++ uenc m = uenc N) ∧ pre.length + (uenc m).length ≤ 10 ∧ wr.ownsRow w.heap.size 5 1 v5 (n + pre.length) (byts (zs ++ pre)) ∧ Below w.heap.size w wr) (fun v _ _ => (intOf v).toNat)
  case atStart => exact ⟨N, [], rfl, hN, Lib.hid rfl, by simpa using h10, by simpa using hown, hb1⟩
  case round =>
    obtain ⟨m, pre, rfl, hm, hpre, hl, hown, hb⟩ := hrel
    have hu := uenc_pos m
    have hsz := hb.size
    by_cases hlt : m < 128
    · have d1 : decide ((128 : Int) ≤ (m : Int)) = false := by simp; omega
      have hpe := hpre.out
      rw [uenc_small hlt] at hpe
      have HPE := Lib.hid hpe
      have hlp : pre.length ≤ 9 := by omega
      clear hpre hl hpe
      go_wp2_with (at_builtin; refine wpList_append_own _ rfl _ _ _ rfl w.heap.size 5 i0 _ 1 1 Tryd.underlying22 hi0 hz0 hz1 hz2 rfl (by omega) _ _ _ rfl (hown.alloc _) ⟨wr.heap.size, 0, none⟩ 1 1 [.int .u8 (m : Int)] rfl rfl (World.news_of_block (cs := #[.int .u8 (m : Int)]) (t := 5) (fr := (0, 0)) (heap_alloc_new wr _)) (by simp [Value.oneCell']) (by unfold maxLen; omega) (by omega) (by simp; omega) ?_; intro v' w5 hown5 hgrow5 _)
      have hb5 := (hb.alloc hb.size (.cells #[.int .u8 (m : Int)] 5)).grown hgrow5 (by simp; omega) (fun k hk => (hown.lt k hk).1)
      go_ret
      refine ⟨v', rfl, ?_, hb5⟩
      rw [← HPE.out, ← List.append_assoc, List.length_append, List.length_append, hz, byts_append]
      exact hown5
    · have d1 : decide ((128 : Int) ≤ (m : Int)) = true := by simp; omega
      have hpe := hpre.out
      rw [uenc_big hlt] at hpe
      have hpe' : pre ++ [m % 128 + 128] ++ uenc (m / 128) = uenc N := by rw [← hpe]; simp
      have hlu : pre.length + 1 + (uenc (m / 128)).length ≤ 10 := by have := congrArg List.length hpe'; simp only [List.length_append, List.length_singleton] at this; omega
      have hlu1 := uenc_pos (m / 128)
      obtain ⟨x, hx⟩ : ∃ x, m % 128 + 128 = x := ⟨_, rfl⟩
      have e1 : (m : Int) % 128 + 128 = (x : Int) := by omega
      rw [hx] at hpe'
      have HPE := Lib.hid hpe'
      clear hpre hpe hpe' hl hx hu
      go_wp2_with (at_builtin; refine wpList_append_own _ rfl _ _ _ rfl w.heap.size 5 i0 _ 1 1 Tryd.underlying22 hi0 hz0 hz1 hz2 rfl (by omega) _ _ _ rfl (hown.alloc _) ⟨wr.heap.size, 0, none⟩ 1 1 [.int .u8 (x : Int)] rfl rfl (World.news_of_block (cs := #[.int .u8 (x : Int)]) (t := 5) (fr := (0, 0)) (heap_alloc_new wr _)) (by simp [Value.oneCell']) (by unfold maxLen; omega) (by omega) (by simp; omega) ?_; intro v' w5 hown5 hgrow5 _)
      have hb5 := (hb.alloc hb.size (.cells #[.int .u8 (x : Int)] 5)).grown hgrow5 (by simp; omega) (fun k hk => (hown.lt k hk).1)
      have hown6 : w5.ownsRow w.heap.size 5 1 v' (n + (pre ++ [x]).length) (byts (zs ++ (pre ++ [x]))) := by
        rw [← List.append_assoc, byts_append, List.length_append]; exact hown5
      have HO := Lib.hid hown6
      clear hown5 hown6 hown hgrow5
      go_wp2_with fail
      go_roundw
      case rel => exact ⟨m / 128, pre ++ [x], by go_num, by omega, HPE, by simp only [List.length_append, List.length_singleton]; omega, HO.out, hb5⟩
      case measure => simp [intOf]; omega

theorem or1 (i : Int) (h1 : -9223372036854775808 ≤ i ∧ i < 0) : bits .or .u64 (-(i + 1) * 2) 1 = 2 * (-(i + 1)) + 1 := by
  obtain ⟨k, hk⟩ : ∃ k : Nat, -(i + 1) = (k : Int) := ⟨(-(i + 1)).toNat, by omega⟩
  rw [hk, show ((k : Int) * 2) = ((2 * k : Nat) : Int) by omega, show (1 : Int) = ((1 : Nat) : Int) from rfl, u64_or_nat (2 * k) 1 (by omega) (by omega), nat_join 1 (2 * k) 1 (by omega) (by omega)]
  omega
set_option maxRecDepth 100000 in
set_option maxHeartbeats 2000000 in
theorem PutInt_any (a : Option Addr) (n cap : Nat) (i : Int) (zs : List Nat) (hn : n ≤ 99000) (h1 : -9223372036854775808 ≤ i) (h2 : i ≤ 9223372036854775807) (w : World) (h : Bs w a n cap zs) : Calls Tryd.prog 42 #[.slice a n cap, .int .i64 i] w (BytMade (zs ++ uenc (zig i)) w) := by
  have H := Lib.hid h
  clear h
  have hN := zig_lt h1 h2
  by_cases hi : i < 0
  · have hz : zig i = 2 * (-(i + 1)).toNat + 1 := by unfold zig; rw [if_neg (by omega)]
    obtain ⟨N, hNz⟩ : ∃ N, zig i = N := ⟨_, rfl⟩
    rw [hNz] at hN hz ⊢
    have e1 : bits .or .u64 (-(i + 1) * 2) 1 = (N : Int) := by rw [or1 i (by omega)]; omega
    clear hz hNz
    go_enter Tryd.func42, Tryd.ntmps42
    go_wp2_with fail
    refine (PutUint_any a n cap N zs hn hN _ H.out).mono ?_
    rintro e w1 ⟨v, rfl, hown, hb⟩
    go_wp2_with fail
    go_ret
    exact ⟨v, rfl, hown, hb⟩
  · have hz : zig i = 2 * i.toNat := by unfold zig; rw [if_pos (by omega)]
    obtain ⟨N, hNz⟩ : ∃ N, zig i = N := ⟨_, rfl⟩
    rw [hNz] at hN hz ⊢
    have e1 : i * 2 = (N : Int) := by omega
    clear hz hNz
    go_enter Tryd.func42, Tryd.ntmps42
    go_wp2_with fail
    refine (PutUint_any a n cap N zs hn hN _ H.out).mono ?_
    rintro e w1 ⟨v, rfl, hown, hb⟩
    go_wp2_with fail
    go_ret
    exact ⟨v, rfl, hown, hb⟩
set_option maxRecDepth 100000 in
set_option maxHeartbeats 2000000 in
theorem refPutInt_any (a : Option Addr) (n cap : Nat) (i : Int) (zs : List Nat) (hn : n ≤ 99000) (h1 : -9223372036854775808 ≤ i) (h2 : i ≤ 9223372036854775807) (w : World) (h : Bs w a n cap zs) : Calls Tryd.prog 60 #[.slice a n cap, .int .i64 i] w (BytMade (zs ++ uenc (zig i)) w) := by
  have H := Lib.hid h
  clear h
  have hN := zig_lt h1 h2
  by_cases hi : i < 0
  · have hz : zig i = 2 * (-(i + 1)).toNat + 1 := by unfold zig; rw [if_neg (by omega)]
    obtain ⟨N, hNz⟩ : ∃ N, zig i = N := ⟨_, rfl⟩
    rw [hNz] at hN hz ⊢
    have e1 : 2 * -(i + 1) + 1 = (N : Int) := by omega
    clear hz hNz
    go_enter Tryd.func60, Tryd.ntmps60
    go_wp2_with fail
    refine (refPutUint_any a n cap N zs hn hN _ H.out).mono ?_
    rintro e w1 ⟨v, rfl, hown, hb⟩
    go_wp2_with fail
    go_ret
    exact ⟨v, rfl, hown, hb⟩
  · have hz : zig i = 2 * i.toNat := by unfold zig; rw [if_pos (by omega)]
    obtain ⟨N, hNz⟩ : ∃ N, zig i = N := ⟨_, rfl⟩
    rw [hNz] at hN hz ⊢
    have e1 : 2 * i = (N : Int) := by omega
    clear hz hNz
    go_enter Tryd.func60, Tryd.ntmps60
    go_wp2_with fail
    refine (refPutUint_any a n cap N zs hn hN _ H.out).mono ?_
    rintro e w1 ⟨v, rfl, hown, hb⟩
    go_wp2_with fail
    go_ret
    exact ⟨v, rfl, hown, hb⟩
end Go.Proofs.YtkgdogccnkjcgaaDoor
