/-
  WALKS of the comparisons: lists of integers, records, profiles (both).
-/
import Derived.Test.YtkgdogccnkjcgaaDoorRcv
namespace Go.Proofs.YtkgdogccnkjcgaaDoor
open Go.ChangeShapes Go.WideShapes Go.ChangeAt Go.RowKit
theorem take_eq_succ {α : Type} (d : α) {xs ys : List α} {k : Nat} (h : xs.take k = ys.take k) (hx : k < xs.length) (hy : k < ys.length) (he : xs.getD k d = ys.getD k d) : xs.take (k + 1) = ys.take (k + 1) := by
  rw [List.take_succ_eq_append_getElem hx, List.take_succ_eq_append_getElem hy, h]
  have e1 : xs.getD k d = xs[k] := by simp [List.getD, hx]
  have e2 : ys.getD k d = ys[k] := by simp [List.getD, hy]
  rw [e1, e2] at he
  rw [he]
theorem ne_of_get {α : Type} (d : α) {xs ys : List α} (k : Nat) (he : xs.getD k d ≠ ys.getD k d) : xs ≠ ys := fun e => he (by rw [e])
set_option maxRecDepth 100000 in
set_option maxHeartbeats 4000000 in
theorem EqInts_any (a a' : Option Addr) (n n' cap cap' : Nat) (zs zs' : List Int) (hm : n ≤ 100000) (hm' : n' ≤ 100000) (w : World) (h : Is w a n cap zs) (h' : Is w a' n' cap' zs') :
    Calls Tryd.prog 63 #[.slice a n cap, .slice a' n' cap'] w fun e w' => e = .returned (.bool (decide (zs = zs'))) ∧ Below w.heap.size w w' := by
  have HC := Lib.hid h
  have HC' := Lib.hid h'
  have HN := Lib.hid h.1
  have HN' := Lib.hid h'.1
  clear h h'
  by_cases hnn : n = n'
  · subst hnn
    have e1 : ((n : Int) != (n : Int)) = false := by simp
    go_enter Tryd.func63, Tryd.ntmps63
    go_wp2_with fail
    go_loopw [13] (fun v5 wr => ∃ k : Nat, k ≤ n ∧ v5 = .int .i64 k ∧ Below w.heap.size w wr ∧ Hid (zs.take k = zs'.take k)) (fun v _ => n - (intOf v).toNat)
    case atStart => exact ⟨0, by omega, rfl, Below.refl _ _, Lib.hid rfl⟩
    case round =>
      obtain ⟨k, hk, rfl, hb, HT⟩ := hrel
      by_cases hlt : k < n
      · have hkl : k < zs.length := by have := HN.out; omega
        have hkl' : k < zs'.length := by have := HN'.out; omega
        obtain ⟨b, off, rfl, hbl, hcell⟩ := HC.out.2.2.2.2.int k hkl
        obtain ⟨b', off', rfl, hbl', hcell'⟩ := HC'.out.2.2.2.2.int k hkl'
        have c1 := (hb.cell (p := ⟨b, off + k, none⟩) hbl).trans (hcell k hkl)
        have c2 := (hb.cell (p := ⟨b', off' + k, none⟩) hbl').trans (hcell' k hkl')
        obtain ⟨x, hx⟩ : ∃ x : Int, zs.getD k 0 = x := ⟨_, rfl⟩
        obtain ⟨y, hy⟩ : ∃ y : Int, zs'.getD k 0 = y := ⟨_, rfl⟩
        rw [hx] at c1
        rw [hy] at c2
        have i0 : (0 : Int) ≤ (k : Int) := by omega
        have i1 : (k : Int) < (n : Int) := by omega
        by_cases hxy : x = y
        · have HTT := Lib.hid (take_eq_succ (0 : Int) HT.out hkl hkl' (by rw [hx, hy]; exact hxy))
          subst hxy
          have e2 : ((x : Int) != (x : Int)) = false := by simp
          clear hcell hcell' hx hy
          go_wp2_with fail
          go_quiet (fail)
          go_wp2_with fail
          go_roundw
          case rel => exact ⟨k + 1, by omega, by go_num, below_drewN hb _, HTT⟩
          case measure => simp [intOf]; omega
        · have HNE := Lib.hid (ne_of_get (0 : Int) (xs := zs) (ys := zs') k (by rw [hx, hy]; exact hxy))
          have e2 : ((x : Int) != (y : Int)) = true := by simp [hxy]
          have e3 : ((x : Int) == (y : Int)) = false := by simp [hxy]
          clear hcell hcell' hx hy hxy
          go_wp2_with fail
          go_quiet (fail)
          go_wp2_with fail
          go_ret
          exact ⟨by rw [decide_eq_false HNE.out]; rfl, below_drewN hb _⟩
      · obtain rfl : k = n := by omega
        have HE := Lib.hid (show zs = zs' by
          have := HT.out
          rwa [List.take_of_length_le (by have := HN.out; omega), List.take_of_length_le (by have := HN'.out; omega)] at this)
        go_wp2_with fail
        go_ret
        exact ⟨by rw [decide_eq_true HE.out]; rfl, hb⟩
  · have e1 : ((n : Int) != (n' : Int)) = true := by simp; omega
    have HNE := Lib.hid (show zs ≠ zs' by intro e; subst e; have := HN.out; have := HN'.out; omega)
    clear hnn
    go_enter Tryd.func63, Tryd.ntmps63
    go_wp2_with fail
    go_ret
    exact ⟨by rw [decide_eq_false HNE.out]; rfl, Below.refl _ _⟩
set_option maxRecDepth 100000 in
set_option maxHeartbeats 4000000 in
theorem RefInts_any (a a' : Option Addr) (n n' cap cap' : Nat) (zs zs' : List Int) (hm : n ≤ 100000) (hm' : n' ≤ 100000) (w : World) (h : Is w a n cap zs) (h' : Is w a' n' cap' zs') :
    Calls Tryd.prog 58 #[.slice a n cap, .slice a' n' cap'] w fun e w' => e = .returned (.bool (decide (zs = zs'))) ∧ Below w.heap.size w w' := by
  have HC := Lib.hid h
  have HC' := Lib.hid h'
  have HN := Lib.hid h.1
  have HN' := Lib.hid h'.1
  clear h h'
  by_cases hnn : n = n'
  · subst hnn
    have e1 : ((n : Int) != (n : Int)) = false := by simp
    go_enter Tryd.func58, Tryd.ntmps58
    go_wp2_with fail
    go_loopw [5] (fun v5 wr => ∃ k : Nat, k ≤ n ∧ v5 = .int .i64 k ∧ Below w.heap.size w wr ∧ Hid (zs.take k = zs'.take k)) (fun v _ => n - (intOf v).toNat)
    case atStart => exact ⟨0, by omega, rfl, Below.refl _ _, Lib.hid rfl⟩
    case round =>
      obtain ⟨k, hk, rfl, hb, HT⟩ := hrel
      by_cases hlt : k < n
      · have hkl : k < zs.length := by have := HN.out; omega
        have hkl' : k < zs'.length := by have := HN'.out; omega
        obtain ⟨b, off, rfl, hbl, hcell⟩ := HC.out.2.2.2.2.int k hkl
        obtain ⟨b', off', rfl, hbl', hcell'⟩ := HC'.out.2.2.2.2.int k hkl'
        have c1 := (hb.cell (p := ⟨b, off + k, none⟩) hbl).trans (hcell k hkl)
        have c2 := (hb.cell (p := ⟨b', off' + k, none⟩) hbl').trans (hcell' k hkl')
        obtain ⟨x, hx⟩ : ∃ x : Int, zs.getD k 0 = x := ⟨_, rfl⟩
        obtain ⟨y, hy⟩ : ∃ y : Int, zs'.getD k 0 = y := ⟨_, rfl⟩
        rw [hx] at c1
        rw [hy] at c2
        have i0 : (0 : Int) ≤ (k : Int) := by omega
        have i1 : (k : Int) < (n : Int) := by omega
        by_cases hxy : x = y
        · have HTT := Lib.hid (take_eq_succ (0 : Int) HT.out hkl hkl' (by rw [hx, hy]; exact hxy))
          subst hxy
          have e2 : ((x : Int) != (x : Int)) = false := by simp
          clear hcell hcell' hx hy
          go_wp2_with fail
          go_quiet (fail)
          go_wp2_with fail
          go_roundw
          case rel => exact ⟨k + 1, by omega, by go_num, below_drewN hb _, HTT⟩
          case measure => simp [intOf]; omega
        · have HNE := Lib.hid (ne_of_get (0 : Int) (xs := zs) (ys := zs') k (by rw [hx, hy]; exact hxy))
          have e2 : ((x : Int) != (y : Int)) = true := by simp [hxy]
          have e3 : ((x : Int) == (y : Int)) = false := by simp [hxy]
          clear hcell hcell' hx hy hxy
          go_wp2_with fail
          go_quiet (fail)
          go_wp2_with fail
          go_ret
          exact ⟨by rw [decide_eq_false HNE.out]; rfl, below_drewN hb _⟩
      · obtain rfl : k = n := by omega
        have HE := Lib.hid (show zs = zs' by
          have := HT.out
          rwa [List.take_of_length_le (by have := HN.out; omega), List.take_of_length_le (by have := HN'.out; omega)] at this)
        go_wp2_with fail
        go_ret
        exact ⟨by rw [decide_eq_true HE.out]; rfl, hb⟩
  · have e1 : ((n : Int) != (n' : Int)) = true := by simp; omega
    have HNE := Lib.hid (show zs ≠ zs' by intro e; subst e; have := HN.out; have := HN'.out; omega)
    clear hnn
    go_enter Tryd.func58, Tryd.ntmps58
    go_wp2_with fail
    go_ret
    exact ⟨by rw [decide_eq_false HNE.out]; rfl, Below.refl _ _⟩
instance : DecidableEq Rc := fun a b => decidable_of_iff (a.kind = b.kind ∧ a.index = b.index ∧ a.value = b.value ∧ a.clock = b.clock ∧ a.addr = b.addr ∧ a.lost = b.lost ∧ a.chain = b.chain)
  ⟨fun ⟨h1, h2, h3, h4, h5, h6, h7⟩ => by cases a; cases b; simp_all, fun h => by subst h; simp⟩
instance : DecidableEq Hd := fun a b => decidable_of_iff (a.rel = b.rel ∧ a.mach = b.mach ∧ a.num = b.num ∧ a.per = b.per ∧ a.print = b.print)
  ⟨fun ⟨h1, h2, h3, h4, h5⟩ => by cases a; cases b; simp_all, fun h => by subst h; simp⟩
set_option maxRecDepth 100000 in
set_option maxHeartbeats 8000000 in
theorem sameRecord_any (r r' : Rc) (a a' : Option Addr) (n n' cap cap' : Nat) (hm : n ≤ 100000) (hm' : n' ≤ 100000) (w : World) (h : Is w a n cap r.chain) (h' : Is w a' n' cap' r'.chain) :
    Calls Tryd.prog 48 #[r.val (.slice a n cap), r'.val (.slice a' n' cap')] w fun e w' => e = .returned (.bool (decide (r = r'))) ∧ Below w.heap.size w w' := by
  have hb : Below w.heap.size w ((w.alloc (.cells #[.int .i64 r.kind, .int .i64 r.clock, .int .i64 r.addr, .slice a n cap, .int .i64 r.lost, .int .i64 r.index, .int .i64 r.value] 45)).alloc (.cells #[.int .i64 r'.kind, .int .i64 r'.clock, .int .i64 r'.addr, .slice a' n' cap', .int .i64 r'.lost, .int .i64 r'.index, .int .i64 r'.value] 45)) := ((Below.refl _ _).alloc (Nat.le_refl _) _).alloc (by simp) _
  have HB := Lib.hid hb
  have HC := Lib.hid (h.below hb)
  have HC' := Lib.hid (h'.below hb)
  clear h h' hb
  by_cases k_kind : r.kind = r'.kind
  case neg =>
    have HNE := Lib.hid (show r ≠ r' by intro e; exact k_kind (by rw [e]))
    have e_kind : (r.kind == r'.kind) = false := by simp [k_kind]
    clear k_kind
    go_enter Tryd.func48, Tryd.ntmps48
    go_wp2_with fail
    go_ret
    exact ⟨by rw [decide_eq_false HNE.out]; rfl, HB.out⟩
  have e_kind : (r.kind == r'.kind) = true := by simp [k_kind]
  have K_kind := Lib.hid k_kind
  clear k_kind
  by_cases k_index : r.index = r'.index
  case neg =>
    have HNE := Lib.hid (show r ≠ r' by intro e; exact k_index (by rw [e]))
    have e_index : (r.index == r'.index) = false := by simp [k_index]
    clear k_index
    go_enter Tryd.func48, Tryd.ntmps48
    go_wp2_with fail
    go_ret
    exact ⟨by rw [decide_eq_false HNE.out]; rfl, HB.out⟩
  have e_index : (r.index == r'.index) = true := by simp [k_index]
  have K_index := Lib.hid k_index
  clear k_index
  by_cases k_value : r.value = r'.value
  case neg =>
    have HNE := Lib.hid (show r ≠ r' by intro e; exact k_value (by rw [e]))
    have e_value : (r.value == r'.value) = false := by simp [k_value]
    clear k_value
    go_enter Tryd.func48, Tryd.ntmps48
    go_wp2_with fail
    go_ret
    exact ⟨by rw [decide_eq_false HNE.out]; rfl, HB.out⟩
  have e_value : (r.value == r'.value) = true := by simp [k_value]
  have K_value := Lib.hid k_value
  clear k_value
  by_cases k_clock : r.clock = r'.clock
  case neg =>
    have HNE := Lib.hid (show r ≠ r' by intro e; exact k_clock (by rw [e]))
    have e_clock : (r.clock == r'.clock) = false := by simp [k_clock]
    clear k_clock
    go_enter Tryd.func48, Tryd.ntmps48
    go_wp2_with fail
    go_ret
    exact ⟨by rw [decide_eq_false HNE.out]; rfl, HB.out⟩
  have e_clock : (r.clock == r'.clock) = true := by simp [k_clock]
  have K_clock := Lib.hid k_clock
  clear k_clock
  by_cases k_addr : r.addr = r'.addr
  case neg =>
    have HNE := Lib.hid (show r ≠ r' by intro e; exact k_addr (by rw [e]))
    have e_addr : (r.addr == r'.addr) = false := by simp [k_addr]
    clear k_addr
    go_enter Tryd.func48, Tryd.ntmps48
    go_wp2_with fail
    go_ret
    exact ⟨by rw [decide_eq_false HNE.out]; rfl, HB.out⟩
  have e_addr : (r.addr == r'.addr) = true := by simp [k_addr]
  have K_addr := Lib.hid k_addr
  clear k_addr
  by_cases k_lost : r.lost = r'.lost
  case neg =>
    have HNE := Lib.hid (show r ≠ r' by intro e; exact k_lost (by rw [e]))
    have e_lost : (r.lost == r'.lost) = false := by simp [k_lost]
    clear k_lost
    go_enter Tryd.func48, Tryd.ntmps48
    go_wp2_with fail
    go_ret
    exact ⟨by rw [decide_eq_false HNE.out]; rfl, HB.out⟩
  have e_lost : (r.lost == r'.lost) = true := by simp [k_lost]
  have K_lost := Lib.hid k_lost
  clear k_lost
  go_enter Tryd.func48, Tryd.ntmps48
  go_wp2_with fail
  refine (EqInts_any a a' n n' cap cap' r.chain r'.chain hm hm' _ HC.out HC'.out).mono ?_
  rintro e w1 ⟨rfl, hb1⟩
  have hb2 := HB.out.trans (hb1.mono HB.out.size)
  clear hb1
  have HE := Lib.hid (show decide (r = r') = decide (r.chain = r'.chain) by
    by_cases hc : r.chain = r'.chain
    · rw [decide_eq_true hc]; exact decide_eq_true (by have := K_kind.out; have := K_index.out; have := K_value.out; have := K_clock.out; have := K_addr.out; have := K_lost.out; cases r; cases r'; simp_all)
    · rw [decide_eq_false hc]; exact decide_eq_false (fun e => hc (by rw [e])))
  go_wp2_with fail
  go_ret
  exact ⟨by rw [HE.out]; rfl, hb2⟩

def samE (r r' : Rc) : Bool := decide (r.clock = r'.clock ∧ r.addr = r'.addr ∧ r.lost = r'.lost ∧ r.chain = r'.chain)
set_option maxRecDepth 100000 in
set_option maxHeartbeats 8000000 in
theorem SameSample_any (r r' : Rc) (a a' : Option Addr) (n n' cap cap' : Nat) (hm : n ≤ 100000) (hm' : n' ≤ 100000) (w : World) (h : Is w a n cap r.chain) (h' : Is w a' n' cap' r'.chain) :
    Calls Tryd.prog 37 #[.agg #[.int .i64 r.clock, .int .i64 r.addr, .slice a n cap, .int .i64 r.lost], .agg #[.int .i64 r'.clock, .int .i64 r'.addr, .slice a' n' cap', .int .i64 r'.lost]] w fun e w' => e = .returned (.bool (samE r r')) ∧ Below w.heap.size w w' := by
  have hb : Below w.heap.size w ((w.alloc (.cells #[.int .i64 r.clock, .int .i64 r.addr, .slice a n cap, .int .i64 r.lost] 43)).alloc (.cells #[.int .i64 r'.clock, .int .i64 r'.addr, .slice a' n' cap', .int .i64 r'.lost] 43)) := ((Below.refl _ _).alloc (Nat.le_refl _) _).alloc (by simp) _
  have HB := Lib.hid hb
  have HC := Lib.hid (h.below hb)
  have HC' := Lib.hid (h'.below hb)
  clear h h' hb
  by_cases k_clock : r.clock = r'.clock
  case neg =>
    have HNE := Lib.hid (show samE r r' = false from decide_eq_false (fun h => k_clock (by first | exact h.1 | exact h.2.1 | exact h.2.2.1)))
    have e_clock : (r.clock == r'.clock) = false := by simp [k_clock]
    clear k_clock
    go_enter Tryd.func37, Tryd.ntmps37
    go_wp2_with fail
    go_ret
    exact ⟨by rw [HNE.out]; rfl, HB.out⟩
  have e_clock : (r.clock == r'.clock) = true := by simp [k_clock]
  have K_clock := Lib.hid k_clock
  clear k_clock
  by_cases k_addr : r.addr = r'.addr
  case neg =>
    have HNE := Lib.hid (show samE r r' = false from decide_eq_false (fun h => k_addr (by first | exact h.1 | exact h.2.1 | exact h.2.2.1)))
    have e_addr : (r.addr == r'.addr) = false := by simp [k_addr]
    clear k_addr
    go_enter Tryd.func37, Tryd.ntmps37
    go_wp2_with fail
    go_ret
    exact ⟨by rw [HNE.out]; rfl, HB.out⟩
  have e_addr : (r.addr == r'.addr) = true := by simp [k_addr]
  have K_addr := Lib.hid k_addr
  clear k_addr
  by_cases k_lost : r.lost = r'.lost
  case neg =>
    have HNE := Lib.hid (show samE r r' = false from decide_eq_false (fun h => k_lost (by first | exact h.1 | exact h.2.1 | exact h.2.2.1)))
    have e_lost : (r.lost == r'.lost) = false := by simp [k_lost]
    clear k_lost
    go_enter Tryd.func37, Tryd.ntmps37
    go_wp2_with fail
    go_ret
    exact ⟨by rw [HNE.out]; rfl, HB.out⟩
  have e_lost : (r.lost == r'.lost) = true := by simp [k_lost]
  have K_lost := Lib.hid k_lost
  clear k_lost
  go_enter Tryd.func37, Tryd.ntmps37
  go_wp2_with fail
  refine (RefInts_any a a' n n' cap cap' r.chain r'.chain hm hm' _ HC.out HC'.out).mono ?_
  rintro e w1 ⟨rfl, hb1⟩
  have hb2 := HB.out.trans (hb1.mono HB.out.size)
  clear hb1
  have HE := Lib.hid (show samE r r' = decide (r.chain = r'.chain) by
    by_cases hc : r.chain = r'.chain
    · rw [decide_eq_true hc]; exact decide_eq_true ⟨K_clock.out, K_addr.out, K_lost.out, hc⟩
    · rw [decide_eq_false hc]; exact decide_eq_false (fun e => hc e.2.2.2))
  go_wp2_with fail
  go_ret
  exact ⟨by rw [HE.out]; rfl, hb2⟩
set_option maxRecDepth 100000 in
set_option maxHeartbeats 8000000 in
theorem SameRecord_any (r r' : Rc) (a a' : Option Addr) (n n' cap cap' : Nat) (hm : n ≤ 100000) (hm' : n' ≤ 100000) (w : World) (h : Is w a n cap r.chain) (h' : Is w a' n' cap' r'.chain) :
    Calls Tryd.prog 14 #[r.val (.slice a n cap), r'.val (.slice a' n' cap')] w fun e w' => e = .returned (.bool (decide (r = r'))) ∧ Below w.heap.size w w' := by
  have hb : Below w.heap.size w ((w.alloc (.cells #[.int .i64 r.kind, .int .i64 r.clock, .int .i64 r.addr, .slice a n cap, .int .i64 r.lost, .int .i64 r.index, .int .i64 r.value] 45)).alloc (.cells #[.int .i64 r'.kind, .int .i64 r'.clock, .int .i64 r'.addr, .slice a' n' cap', .int .i64 r'.lost, .int .i64 r'.index, .int .i64 r'.value] 45)) := ((Below.refl _ _).alloc (Nat.le_refl _) _).alloc (by simp) _
  have HB := Lib.hid hb
  have HC := Lib.hid (h.below hb)
  have HC' := Lib.hid (h'.below hb)
  clear h h' hb
  by_cases k_kind : r.kind = r'.kind
  case neg =>
    have HNE := Lib.hid (show r ≠ r' by intro e; exact k_kind (by rw [e]))
    have e_kind : (r.kind == r'.kind) = false := by simp [k_kind]
    clear k_kind
    go_enter Tryd.func14, Tryd.ntmps14
    go_wp2_with fail
    go_ret
    exact ⟨by rw [decide_eq_false HNE.out]; rfl, HB.out⟩
  have e_kind : (r.kind == r'.kind) = true := by simp [k_kind]
  have K_kind := Lib.hid k_kind
  clear k_kind
  by_cases k_index : r.index = r'.index
  case neg =>
    have HNE := Lib.hid (show r ≠ r' by intro e; exact k_index (by rw [e]))
    have e_index : (r.index == r'.index) = false := by simp [k_index]
    clear k_index
    go_enter Tryd.func14, Tryd.ntmps14
    go_wp2_with fail
    go_ret
    exact ⟨by rw [decide_eq_false HNE.out]; rfl, HB.out⟩
  have e_index : (r.index == r'.index) = true := by simp [k_index]
  have K_index := Lib.hid k_index
  clear k_index
  by_cases k_value : r.value = r'.value
  case neg =>
    have HNE := Lib.hid (show r ≠ r' by intro e; exact k_value (by rw [e]))
    have e_value : (r.value == r'.value) = false := by simp [k_value]
    clear k_value
    go_enter Tryd.func14, Tryd.ntmps14
    go_wp2_with fail
    go_ret
    exact ⟨by rw [decide_eq_false HNE.out]; rfl, HB.out⟩
  have e_value : (r.value == r'.value) = true := by simp [k_value]
  have K_value := Lib.hid k_value
  clear k_value
  go_enter Tryd.func14, Tryd.ntmps14
  go_wp2_with fail
  refine (SameSample_any r r' a a' n n' cap cap' hm hm' _ HC.out HC'.out).mono ?_
  rintro e w1 ⟨rfl, hb1⟩
  have hb2 := HB.out.trans (hb1.mono HB.out.size)
  clear hb1
  have HE := Lib.hid (show decide (r = r') = samE r r' by
    by_cases hc : r = r'
    · rw [decide_eq_true hc]; subst hc; exact (decide_eq_true ⟨rfl, rfl, rfl, rfl⟩).symm
    · rw [decide_eq_false hc]; exact (decide_eq_false (fun ⟨e1, e2, e3, e4⟩ => hc (by have := K_kind.out; have := K_index.out; have := K_value.out; cases r; cases r'; simp_all))).symm)
  go_wp2_with fail
  go_ret
  exact ⟨by rw [HE.out]; rfl, hb2⟩
set_option maxRecDepth 100000 in
set_option maxHeartbeats 8000000 in
theorem EqualFunc_any (a a' : Option Addr) (n n' cap cap' : Nat) (rs rs' : List Rc) (hm : n ≤ 100000) (hm' : n' ≤ 100000) (hc : ∀ r ∈ rs, r.chain.length ≤ 100000) (hc' : ∀ r ∈ rs', r.chain.length ≤ 100000) (w : World) (h : Rs w a n cap rs) (h' : Rs w a' n' cap' rs') :
    Calls Tryd.prog 47 #[.slice a n cap, .slice a' n' cap', .func (.func 48) #[] #[]] w fun e w' => e = .returned (.bool (decide (rs = rs'))) ∧ Below w.heap.size w w' := by
  have HC := Lib.hid h
  have HC' := Lib.hid h'
  have HN := Lib.hid h.1
  have HN' := Lib.hid h'.1
  have HL := Lib.hid hc
  have HL' := Lib.hid hc'
  clear h h' hc hc'
  by_cases hnn : n = n'
  · subst hnn
    have e1 : ((n : Int) != (n : Int)) = false := by simp
    go_enter Tryd.func47, Tryd.ntmps47
    go_wp2_with fail
    go_loopw [17] (fun v5 wr => ∃ k : Nat, k ≤ n ∧ v5 = .int .i64 k ∧ Below w.heap.size w wr ∧ Hid (rs.take k = rs'.take k)) (fun v _ => n - (intOf v).toNat)
    case atStart => exact ⟨0, by omega, rfl, Below.refl _ _, Lib.hid rfl⟩
    case round =>
      obtain ⟨k, hk, rfl, hb, HT⟩ := hrel
      by_cases hlt : k < n
      · have hkl : k < rs.length := by have := HN.out; omega
        have hkl' : k < rs'.length := by have := HN'.out; omega
        obtain ⟨b, off, rfl, hbl, hx⟩ := (HC.out.below hb).2.2.2.2 k hlt
        obtain ⟨b', off', rfl, hbl', hy⟩ := (HC'.out.below hb).2.2.2.2 k hlt
        have hcx := HL.out (rs.getD k default) (by simp [List.getD, hkl])
        have hcy := HL'.out (rs'.getD k default) (by simp [List.getD, hkl'])
        obtain ⟨x, hxx⟩ : ∃ x, rs.getD k default = x := ⟨_, rfl⟩
        obtain ⟨y, hyy⟩ : ∃ y, rs'.getD k default = y := ⟨_, rfl⟩
        rw [hxx] at hx hcx
        rw [hyy] at hy hcy
        obtain ⟨cax, cnx, ccx, ⟨x0, x1, x2, x3, x4, x5, x6⟩, hix⟩ := hx
        obtain ⟨cay, cny, ccy, ⟨y0, y1, y2, y3, y4, y5, y6⟩, hiy⟩ := hy
        rw [hix.1] at hcx
        rw [hiy.1] at hcy
        have hal := ((Below.refl wr.heap.size wr).alloc (Nat.le_refl _) (.cells #[.int .i64 x.kind, .int .i64 x.clock, .int .i64 x.addr, .slice cax cnx ccx, .int .i64 x.lost, .int .i64 x.index, .int .i64 x.value] 45)).alloc (by simp) (.cells #[.int .i64 y.kind, .int .i64 y.clock, .int .i64 y.addr, .slice cay cny ccy, .int .i64 y.lost, .int .i64 y.index, .int .i64 y.value] 45)
        have HIX := Lib.hid (hix.below hal)
        have HIY := Lib.hid (hiy.below hal)
        have HBA := Lib.hid (hb.trans (hal.mono hb.size))
        have HTT := Lib.hid (fun e : x = y => take_eq_succ (default : Rc) HT.out hkl hkl' (by rw [hxx, hyy]; exact e))
        have HNE := Lib.hid (fun e : x ≠ y => ne_of_get (default : Rc) (xs := rs) (ys := rs') k (by rw [hxx, hyy]; exact e))
        clear hix hiy hal hxx hyy hb
        go_wp2_with fail
        refine (sameRecord_any x y cax cay cnx cny ccx ccy hcx hcy _ HIX.out HIY.out).mono ?_
        rintro e w2 ⟨rfl, hb2⟩
        have hb3 := HBA.out.trans (hb2.mono HBA.out.size)
        clear hb2
        by_cases hxy : x = y
        · have HT2 := Lib.hid (HTT.out hxy)
          rw [decide_eq_true hxy]
          clear hxy
          go_wp2_with fail
          exact ⟨⟨k + 1, by omega, by go_num, hb3, HT2⟩, by simp [intOf]; omega⟩
        · have HN2 := Lib.hid (HNE.out hxy)
          rw [decide_eq_false hxy]
          clear hxy
          go_wp2_with fail
          go_ret
          exact ⟨by rw [decide_eq_false HN2.out]; rfl, hb3⟩
      · obtain rfl : k = n := by omega
        have HE := Lib.hid (show rs = rs' by
          have := HT.out
          rwa [List.take_of_length_le (by have := HN.out; omega), List.take_of_length_le (by have := HN'.out; omega)] at this)
        go_wp2_with fail
        go_ret
        exact ⟨by rw [decide_eq_true HE.out]; rfl, hb⟩
  · have e1 : ((n : Int) != (n' : Int)) = true := by simp; omega
    have HNE := Lib.hid (show rs ≠ rs' by intro e; subst e; have := HN.out; have := HN'.out; omega)
    clear hnn
    go_enter Tryd.func47, Tryd.ntmps47
    go_wp2_with fail
    go_ret
    exact ⟨by rw [decide_eq_false HNE.out]; rfl, Below.refl _ _⟩
end Go.Proofs.YtkgdogccnkjcgaaDoor
