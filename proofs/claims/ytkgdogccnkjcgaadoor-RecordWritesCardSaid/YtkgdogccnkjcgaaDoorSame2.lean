/-
  WALKS of Same (both).
-/
import Derived.Test.YtkgdogccnkjcgaaDoorSame
namespace Go.Proofs.YtkgdogccnkjcgaaDoor
open Go.ChangeShapes Go.WideShapes Go.ChangeAt Go.RowKit
set_option maxRecDepth 100000 in
set_option maxHeartbeats 8000000 in
theorem Same_any (h h' : Hd) (wh wh' : Bool) (a a' : Option Addr) (n n' cap cap' : Nat) (rs rs' : List Rc) (hm : n ≤ 100000) (hm' : n' ≤ 100000) (hc : ∀ r ∈ rs, r.chain.length ≤ 100000) (hc' : ∀ r ∈ rs', r.chain.length ≤ 100000) (w : World) (hr : Rs w a n cap rs) (hr' : Rs w a' n' cap' rs') :
    Calls Tryd.prog 27 #[shv h (.slice a n cap) wh, shv h' (.slice a' n' cap') wh'] w fun e w' => e = .returned (.bool (decide (h = h' ∧ wh = wh' ∧ rs = rs'))) ∧ Below w.heap.size w w' := by
  have hb : Below w.heap.size w ((w.alloc (.cells #[.int .i64 h.rel, .int .i64 h.mach, .int .i64 h.num, .int .i64 h.per, .int .u64 ((h.print : Nat) : Int), .slice a n cap, .bool wh] 32)).alloc (.cells #[.int .i64 h'.rel, .int .i64 h'.mach, .int .i64 h'.num, .int .i64 h'.per, .int .u64 ((h'.print : Nat) : Int), .slice a' n' cap', .bool wh'] 32)) := ((Below.refl _ _).alloc (Nat.le_refl _) _).alloc (by simp) _
  have HB := Lib.hid hb
  have HR := Lib.hid (hr.below hb)
  have HR' := Lib.hid (hr'.below hb)
  have HC := Lib.hid hc
  have HC' := Lib.hid hc'
  clear hb hr hr' hc hc'
  by_cases k_rel : h.rel = h'.rel
  case neg =>
    have HNE := Lib.hid (show ¬ (h = h' ∧ wh = wh' ∧ rs = rs') from fun e => k_rel (by rw [e.1]))
    have e_rel : (h.rel == h'.rel) = false := by simp [k_rel]
    clear k_rel
    go_enter Tryd.func27, Tryd.ntmps27
    go_wp2_with fail
    go_ret
    exact ⟨by rw [decide_eq_false HNE.out]; rfl, HB.out⟩
  have e_rel : (h.rel == h'.rel) = true := by simp [k_rel]
  have K_rel := Lib.hid k_rel
  clear k_rel
  by_cases k_mach : h.mach = h'.mach
  case neg =>
    have HNE := Lib.hid (show ¬ (h = h' ∧ wh = wh' ∧ rs = rs') from fun e => k_mach (by rw [e.1]))
    have e_mach : (h.mach == h'.mach) = false := by simp [k_mach]
    clear k_mach
    go_enter Tryd.func27, Tryd.ntmps27
    go_wp2_with fail
    go_ret
    exact ⟨by rw [decide_eq_false HNE.out]; rfl, HB.out⟩
  have e_mach : (h.mach == h'.mach) = true := by simp [k_mach]
  have K_mach := Lib.hid k_mach
  clear k_mach
  by_cases k_num : h.num = h'.num
  case neg =>
    have HNE := Lib.hid (show ¬ (h = h' ∧ wh = wh' ∧ rs = rs') from fun e => k_num (by rw [e.1]))
    have e_num : (h.num == h'.num) = false := by simp [k_num]
    clear k_num
    go_enter Tryd.func27, Tryd.ntmps27
    go_wp2_with fail
    go_ret
    exact ⟨by rw [decide_eq_false HNE.out]; rfl, HB.out⟩
  have e_num : (h.num == h'.num) = true := by simp [k_num]
  have K_num := Lib.hid k_num
  clear k_num
  by_cases k_per : h.per = h'.per
  case neg =>
    have HNE := Lib.hid (show ¬ (h = h' ∧ wh = wh' ∧ rs = rs') from fun e => k_per (by rw [e.1]))
    have e_per : (h.per == h'.per) = false := by simp [k_per]
    clear k_per
    go_enter Tryd.func27, Tryd.ntmps27
    go_wp2_with fail
    go_ret
    exact ⟨by rw [decide_eq_false HNE.out]; rfl, HB.out⟩
  have e_per : (h.per == h'.per) = true := by simp [k_per]
  have K_per := Lib.hid k_per
  clear k_per
  by_cases k_print : h.print = h'.print
  case neg =>
    have HNE := Lib.hid (show ¬ (h = h' ∧ wh = wh' ∧ rs = rs') from fun e => k_print (by rw [e.1]))
    have e_print : (((h.print : Nat) : Int) == ((h'.print : Nat) : Int)) = false := by simp; omega
    clear k_print
    go_enter Tryd.func27, Tryd.ntmps27
    go_wp2_with fail
    go_ret
    exact ⟨by rw [decide_eq_false HNE.out]; rfl, HB.out⟩
  have e_print : (((h.print : Nat) : Int) == ((h'.print : Nat) : Int)) = true := by simp [k_print]
  have K_print := Lib.hid k_print
  clear k_print
  have hh : h = h' := by have := K_rel.out; have := K_mach.out; have := K_num.out; have := K_per.out; have := K_print.out; cases h; cases h'; simp_all
  subst hh
  clear e_rel e_mach e_num e_per e_print
  cases wh <;> cases wh'
  case false.true =>
    go_enter Tryd.func27, Tryd.ntmps27
    go_wp2_with fail
    go_ret
    exact ⟨rfl, HB.out⟩
  case true.false =>
    go_enter Tryd.func27, Tryd.ntmps27
    go_wp2_with fail
    go_ret
    exact ⟨rfl, HB.out⟩
  all_goals
    go_enter Tryd.func27, Tryd.ntmps27
    go_wp2_with fail
    refine (EqualFunc_any a a' n n' cap cap' rs rs' hm hm' HC.out HC'.out _ HR.out HR'.out).mono ?_
    rintro e w1 ⟨rfl, hb1⟩
    have hb2 := HB.out.trans (hb1.mono HB.out.size)
    clear hb1
    go_wp2_with fail
    go_ret
    exact ⟨by simp, hb2⟩
set_option maxRecDepth 100000 in
set_option maxHeartbeats 8000000 in
theorem refSame_any (h h' : Hd) (wh wh' : Bool) (a a' : Option Addr) (n n' cap cap' : Nat) (rs rs' : List Rc) (hm : n ≤ 100000) (hm' : n' ≤ 100000) (hc : ∀ r ∈ rs, r.chain.length ≤ 100000) (hc' : ∀ r ∈ rs', r.chain.length ≤ 100000) (w : World) (hr : Rs w a n cap rs) (hr' : Rs w a' n' cap' rs') :
    Calls Tryd.prog 28 #[shv h (.slice a n cap) wh, shv h' (.slice a' n' cap') wh'] w fun e w' => e = .returned (.bool (decide (h = h' ∧ wh = wh' ∧ rs = rs'))) ∧ Below w.heap.size w w' := by
  have hb : Below w.heap.size w ((w.alloc (.cells #[.int .i64 h.rel, .int .i64 h.mach, .int .i64 h.num, .int .i64 h.per, .int .u64 ((h.print : Nat) : Int), .slice a n cap, .bool wh] 32)).alloc (.cells #[.int .i64 h'.rel, .int .i64 h'.mach, .int .i64 h'.num, .int .i64 h'.per, .int .u64 ((h'.print : Nat) : Int), .slice a' n' cap', .bool wh'] 32)) := ((Below.refl _ _).alloc (Nat.le_refl _) _).alloc (by simp) _
  have HB := Lib.hid hb
  have HR := Lib.hid (hr.below hb)
  have HR' := Lib.hid (hr'.below hb)
  have HC := Lib.hid hc
  have HC' := Lib.hid hc'
  clear hb hr hr' hc hc'
  by_cases k_rel : h.rel = h'.rel
  case neg =>
    have HNE := Lib.hid (show ¬ (h = h' ∧ wh = wh' ∧ rs = rs') from fun e => k_rel (by rw [e.1]))
    have e_rel : (h.rel == h'.rel) = false := by simp [k_rel]
    clear k_rel
    go_enter Tryd.func28, Tryd.ntmps28
    go_wp2_with fail
    go_ret
    exact ⟨by rw [decide_eq_false HNE.out]; rfl, HB.out⟩
  have e_rel : (h.rel == h'.rel) = true := by simp [k_rel]
  have K_rel := Lib.hid k_rel
  clear k_rel
  by_cases k_mach : h.mach = h'.mach
  case neg =>
    have HNE := Lib.hid (show ¬ (h = h' ∧ wh = wh' ∧ rs = rs') from fun e => k_mach (by rw [e.1]))
    have e_mach : (h.mach == h'.mach) = false := by simp [k_mach]
    clear k_mach
    go_enter Tryd.func28, Tryd.ntmps28
    go_wp2_with fail
    go_ret
    exact ⟨by rw [decide_eq_false HNE.out]; rfl, HB.out⟩
  have e_mach : (h.mach == h'.mach) = true := by simp [k_mach]
  have K_mach := Lib.hid k_mach
  clear k_mach
  by_cases k_num : h.num = h'.num
  case neg =>
    have HNE := Lib.hid (show ¬ (h = h' ∧ wh = wh' ∧ rs = rs') from fun e => k_num (by rw [e.1]))
    have e_num : (h.num == h'.num) = false := by simp [k_num]
    clear k_num
    go_enter Tryd.func28, Tryd.ntmps28
    go_wp2_with fail
    go_ret
    exact ⟨by rw [decide_eq_false HNE.out]; rfl, HB.out⟩
  have e_num : (h.num == h'.num) = true := by simp [k_num]
  have K_num := Lib.hid k_num
  clear k_num
  by_cases k_per : h.per = h'.per
  case neg =>
    have HNE := Lib.hid (show ¬ (h = h' ∧ wh = wh' ∧ rs = rs') from fun e => k_per (by rw [e.1]))
    have e_per : (h.per == h'.per) = false := by simp [k_per]
    clear k_per
    go_enter Tryd.func28, Tryd.ntmps28
    go_wp2_with fail
    go_ret
    exact ⟨by rw [decide_eq_false HNE.out]; rfl, HB.out⟩
  have e_per : (h.per == h'.per) = true := by simp [k_per]
  have K_per := Lib.hid k_per
  clear k_per
  by_cases k_print : h.print = h'.print
  case neg =>
    have HNE := Lib.hid (show ¬ (h = h' ∧ wh = wh' ∧ rs = rs') from fun e => k_print (by rw [e.1]))
    have e_print : (((h.print : Nat) : Int) == ((h'.print : Nat) : Int)) = false := by simp; omega
    clear k_print
    go_enter Tryd.func28, Tryd.ntmps28
    go_wp2_with fail
    go_ret
    exact ⟨by rw [decide_eq_false HNE.out]; rfl, HB.out⟩
  have e_print : (((h.print : Nat) : Int) == ((h'.print : Nat) : Int)) = true := by simp [k_print]
  have K_print := Lib.hid k_print
  clear k_print
  have hh : h = h' := by have := K_rel.out; have := K_mach.out; have := K_num.out; have := K_per.out; have := K_print.out; cases h; cases h'; simp_all
  subst hh
  clear e_rel e_mach e_num e_per e_print
  cases wh <;> cases wh'
  case false.true =>
    go_enter Tryd.func28, Tryd.ntmps28
    go_wp2_with fail
    go_ret
    exact ⟨rfl, HB.out⟩
  case true.false =>
    go_enter Tryd.func28, Tryd.ntmps28
    go_wp2_with fail
    go_ret
    exact ⟨rfl, HB.out⟩
  case false.false =>
    by_cases hnn : n = n'
    case neg =>
      have HNE := Lib.hid (show rs ≠ rs' by intro e; subst e; have := HR.out.1; have := HR'.out.1; omega)
      have e1 : ((n : Int) != (n' : Int)) = true := by simp; omega
      have e2 : ((n : Int) == (n' : Int)) = false := by simp; omega
      clear hnn
      go_enter Tryd.func28, Tryd.ntmps28
      go_wp2_with fail
      go_ret
      exact ⟨by simp; exact HNE.out, HB.out⟩
    subst hnn
    have e1 : ((n : Int) != (n : Int)) = false := by simp
    have HN := Lib.hid HR.out.1
    have HN' := Lib.hid HR'.out.1
    have hs0 : (w.alloc (.cells #[.int .i64 h.rel, .int .i64 h.mach, .int .i64 h.num, .int .i64 h.per, .int .u64 ((h.print : Nat) : Int), .slice a n cap, .bool false] 32)).heap.size = w.heap.size + 1 := by simp
    have p5 : ((w.alloc (.cells #[.int .i64 h.rel, .int .i64 h.mach, .int .i64 h.num, .int .i64 h.per, .int .u64 ((h.print : Nat) : Int), .slice a n cap, .bool false] 32)).alloc (.cells #[.int .i64 h.rel, .int .i64 h.mach, .int .i64 h.num, .int .i64 h.per, .int .u64 ((h.print : Nat) : Int), .slice a' n cap', .bool false] 32)).cell? ⟨w.heap.size, 5, none⟩ = some (.slice a n cap) := by
      rw [World.cell?_alloc_lt _ _ _ (by simp)]
      exact cell_of_row _ _ 5 _ _ _ (heap_alloc_new w _)
    have q5 : ((w.alloc (.cells #[.int .i64 h.rel, .int .i64 h.mach, .int .i64 h.num, .int .i64 h.per, .int .u64 ((h.print : Nat) : Int), .slice a n cap, .bool false] 32)).alloc (.cells #[.int .i64 h.rel, .int .i64 h.mach, .int .i64 h.num, .int .i64 h.per, .int .u64 ((h.print : Nat) : Int), .slice a' n cap', .bool false] 32)).cell? ⟨w.heap.size + 1, 5, none⟩ = some (.slice a' n cap') := by
      rw [← hs0]
      exact cell_of_row _ _ 5 _ _ _ (heap_alloc_new _ _)
    have hsz : w.heap.size + 1 < ((w.alloc (.cells #[.int .i64 h.rel, .int .i64 h.mach, .int .i64 h.num, .int .i64 h.per, .int .u64 ((h.print : Nat) : Int), .slice a n cap, .bool false] 32)).alloc (.cells #[.int .i64 h.rel, .int .i64 h.mach, .int .i64 h.num, .int .i64 h.per, .int .u64 ((h.print : Nat) : Int), .slice a' n cap', .bool false] 32)).heap.size := by simp
    clear hs0
    go_enter Tryd.func28, Tryd.ntmps28
    go_wp2_with fail
    generalize ((w.alloc (.cells #[.int .i64 h.rel, .int .i64 h.mach, .int .i64 h.num, .int .i64 h.per, .int .u64 ((h.print : Nat) : Int), .slice a n cap, .bool false] 32)).alloc (.cells #[.int .i64 h.rel, .int .i64 h.mach, .int .i64 h.num, .int .i64 h.per, .int .u64 ((h.print : Nat) : Int), .slice a' n cap', .bool false] 32)) = W0 at *
    go_loopw [5] (fun v5 wr => ∃ k : Nat, k ≤ n ∧ v5 = .int .i64 k ∧ Below W0.heap.size W0 wr ∧ Hid (rs.take k = rs'.take k)) (fun v _ => n - (intOf v).toNat)
    case atStart => exact ⟨0, by omega, rfl, Below.refl _ _, Lib.hid rfl⟩
    case round =>
      obtain ⟨k, hk, rfl, hb, HT⟩ := hrel
      have r5 := (hb.cell (p := ⟨w.heap.size, 5, none⟩) (show w.heap.size < W0.heap.size by omega)).trans p5
      have s5 := (hb.cell (p := ⟨w.heap.size + 1, 5, none⟩) hsz).trans q5
      by_cases hlt : k < n
      · have hkl : k < rs.length := by have := HN.out; omega
        have hkl' : k < rs'.length := by have := HN'.out; omega
        obtain ⟨b, off, rfl, hbl, hx⟩ := (HR.out.below hb).2.2.2.2 k hlt
        obtain ⟨b', off', rfl, hbl', hy⟩ := (HR'.out.below hb).2.2.2.2 k hlt
        have hcx := HC.out (rs.getD k default) (by simp [List.getD, hkl])
        have hcy := HC'.out (rs'.getD k default) (by simp [List.getD, hkl'])
        obtain ⟨x, hxx⟩ : ∃ x, rs.getD k default = x := ⟨_, rfl⟩
        obtain ⟨y, hyy⟩ : ∃ y, rs'.getD k default = y := ⟨_, rfl⟩
        rw [hxx] at hx hcx
        rw [hyy] at hy hcy
        obtain ⟨cax, cnx, ccx, ⟨x0, x1, x2, x3, x4, x5, x6⟩, hix⟩ := hx
        obtain ⟨cay, cny, ccy, ⟨y0, y1, y2, y3, y4, y5, y6⟩, hiy⟩ := hy
        rw [hix.1] at hcx
        rw [hiy.1] at hcy
        have HIX := Lib.hid (hix.below (Below.refl _ _).drew)
        have HIY := Lib.hid (hiy.below (Below.refl _ _).drew)
        have HTT := Lib.hid (fun e : x = y => take_eq_succ (default : Rc) HT.out hkl hkl' (by rw [hxx, hyy]; exact e))
        have HNE := Lib.hid (fun e : x ≠ y => ne_of_get (default : Rc) (xs := rs) (ys := rs') k (by rw [hxx, hyy]; exact e))
        have i0 : (0 : Int) ≤ (k : Int) := by omega
        have i1 : (k : Int) < (n : Int) := by omega
        clear hix hiy hxx hyy
        go_wp2_with fail
        go_still_tail 10, (by kernel_rfl)
        change wpList _ _ _ _ _ wr.drew
        go_wp2_with fail
        refine (SameRecord_any x y cax cay cnx cny ccx ccy hcx hcy _ HIX.out HIY.out).mono ?_
        rintro e w2 ⟨rfl, hb2⟩
        have hb3 := hb.drew.trans (hb2.mono (show W0.heap.size ≤ wr.drew.heap.size from hb.size))
        have hb4 := HB.out.trans (hb3.mono HB.out.size)
        clear hb2 hb
        by_cases hxy : x = y
        · have HT2 := Lib.hid (HTT.out hxy)
          rw [decide_eq_true hxy]
          clear hxy
          go_wp2_with fail
          go_roundw
          case rel => exact ⟨k + 1, by omega, by go_num, hb3, HT2⟩
          case measure => simp [intOf]; omega
        · have HN2 := Lib.hid (HNE.out hxy)
          rw [decide_eq_false hxy]
          clear hxy
          go_wp2_with fail
          go_ret
          exact ⟨by rw [decide_eq_false (fun e => HN2.out (by simpa using e))]; rfl, hb4⟩
      · obtain rfl : k = n := by omega
        have HE := Lib.hid (show rs = rs' by
          have := HT.out
          rwa [List.take_of_length_le (by have := HN.out; omega), List.take_of_length_le (by have := HN'.out; omega)] at this)
        have hb4 := HB.out.trans (hb.mono HB.out.size)
        go_wp2_with fail
        go_ret
        exact ⟨by rw [decide_eq_true (by simp [HE.out])]; rfl, hb4⟩
  case true.true =>
    by_cases hnn : n = n'
    case neg =>
      have HNE := Lib.hid (show rs ≠ rs' by intro e; subst e; have := HR.out.1; have := HR'.out.1; omega)
      have e1 : ((n : Int) != (n' : Int)) = true := by simp; omega
      have e2 : ((n : Int) == (n' : Int)) = false := by simp; omega
      clear hnn
      go_enter Tryd.func28, Tryd.ntmps28
      go_wp2_with fail
      go_ret
      exact ⟨by simp; exact HNE.out, HB.out⟩
    subst hnn
    have e1 : ((n : Int) != (n : Int)) = false := by simp
    have HN := Lib.hid HR.out.1
    have HN' := Lib.hid HR'.out.1
    have hs0 : (w.alloc (.cells #[.int .i64 h.rel, .int .i64 h.mach, .int .i64 h.num, .int .i64 h.per, .int .u64 ((h.print : Nat) : Int), .slice a n cap, .bool true] 32)).heap.size = w.heap.size + 1 := by simp
    have p5 : ((w.alloc (.cells #[.int .i64 h.rel, .int .i64 h.mach, .int .i64 h.num, .int .i64 h.per, .int .u64 ((h.print : Nat) : Int), .slice a n cap, .bool true] 32)).alloc (.cells #[.int .i64 h.rel, .int .i64 h.mach, .int .i64 h.num, .int .i64 h.per, .int .u64 ((h.print : Nat) : Int), .slice a' n cap', .bool true] 32)).cell? ⟨w.heap.size, 5, none⟩ = some (.slice a n cap) := by
      rw [World.cell?_alloc_lt _ _ _ (by simp)]
      exact cell_of_row _ _ 5 _ _ _ (heap_alloc_new w _)
    have q5 : ((w.alloc (.cells #[.int .i64 h.rel, .int .i64 h.mach, .int .i64 h.num, .int .i64 h.per, .int .u64 ((h.print : Nat) : Int), .slice a n cap, .bool true] 32)).alloc (.cells #[.int .i64 h.rel, .int .i64 h.mach, .int .i64 h.num, .int .i64 h.per, .int .u64 ((h.print : Nat) : Int), .slice a' n cap', .bool true] 32)).cell? ⟨w.heap.size + 1, 5, none⟩ = some (.slice a' n cap') := by
      rw [← hs0]
      exact cell_of_row _ _ 5 _ _ _ (heap_alloc_new _ _)
    have hsz : w.heap.size + 1 < ((w.alloc (.cells #[.int .i64 h.rel, .int .i64 h.mach, .int .i64 h.num, .int .i64 h.per, .int .u64 ((h.print : Nat) : Int), .slice a n cap, .bool true] 32)).alloc (.cells #[.int .i64 h.rel, .int .i64 h.mach, .int .i64 h.num, .int .i64 h.per, .int .u64 ((h.print : Nat) : Int), .slice a' n cap', .bool true] 32)).heap.size := by simp
    clear hs0
    go_enter Tryd.func28, Tryd.ntmps28
    go_wp2_with fail
    generalize ((w.alloc (.cells #[.int .i64 h.rel, .int .i64 h.mach, .int .i64 h.num, .int .i64 h.per, .int .u64 ((h.print : Nat) : Int), .slice a n cap, .bool true] 32)).alloc (.cells #[.int .i64 h.rel, .int .i64 h.mach, .int .i64 h.num, .int .i64 h.per, .int .u64 ((h.print : Nat) : Int), .slice a' n cap', .bool true] 32)) = W0 at *
    go_loopw [5] (fun v5 wr => ∃ k : Nat, k ≤ n ∧ v5 = .int .i64 k ∧ Below W0.heap.size W0 wr ∧ Hid (rs.take k = rs'.take k)) (fun v _ => n - (intOf v).toNat)
    case atStart => exact ⟨0, by omega, rfl, Below.refl _ _, Lib.hid rfl⟩
    case round =>
      obtain ⟨k, hk, rfl, hb, HT⟩ := hrel
      have r5 := (hb.cell (p := ⟨w.heap.size, 5, none⟩) (show w.heap.size < W0.heap.size by omega)).trans p5
      have s5 := (hb.cell (p := ⟨w.heap.size + 1, 5, none⟩) hsz).trans q5
      by_cases hlt : k < n
      · have hkl : k < rs.length := by have := HN.out; omega
        have hkl' : k < rs'.length := by have := HN'.out; omega
        obtain ⟨b, off, rfl, hbl, hx⟩ := (HR.out.below hb).2.2.2.2 k hlt
        obtain ⟨b', off', rfl, hbl', hy⟩ := (HR'.out.below hb).2.2.2.2 k hlt
        have hcx := HC.out (rs.getD k default) (by simp [List.getD, hkl])
        have hcy := HC'.out (rs'.getD k default) (by simp [List.getD, hkl'])
        obtain ⟨x, hxx⟩ : ∃ x, rs.getD k default = x := ⟨_, rfl⟩
        obtain ⟨y, hyy⟩ : ∃ y, rs'.getD k default = y := ⟨_, rfl⟩
        rw [hxx] at hx hcx
        rw [hyy] at hy hcy
        obtain ⟨cax, cnx, ccx, ⟨x0, x1, x2, x3, x4, x5, x6⟩, hix⟩ := hx
        obtain ⟨cay, cny, ccy, ⟨y0, y1, y2, y3, y4, y5, y6⟩, hiy⟩ := hy
        rw [hix.1] at hcx
        rw [hiy.1] at hcy
        have HIX := Lib.hid (hix.below (Below.refl _ _).drew)
        have HIY := Lib.hid (hiy.below (Below.refl _ _).drew)
        have HTT := Lib.hid (fun e : x = y => take_eq_succ (default : Rc) HT.out hkl hkl' (by rw [hxx, hyy]; exact e))
        have HNE := Lib.hid (fun e : x ≠ y => ne_of_get (default : Rc) (xs := rs) (ys := rs') k (by rw [hxx, hyy]; exact e))
        have i0 : (0 : Int) ≤ (k : Int) := by omega
        have i1 : (k : Int) < (n : Int) := by omega
        clear hix hiy hxx hyy
        go_wp2_with fail
        go_still_tail 10, (by kernel_rfl)
        change wpList _ _ _ _ _ wr.drew
        go_wp2_with fail
        refine (SameRecord_any x y cax cay cnx cny ccx ccy hcx hcy _ HIX.out HIY.out).mono ?_
        rintro e w2 ⟨rfl, hb2⟩
        have hb3 := hb.drew.trans (hb2.mono (show W0.heap.size ≤ wr.drew.heap.size from hb.size))
        have hb4 := HB.out.trans (hb3.mono HB.out.size)
        clear hb2 hb
        by_cases hxy : x = y
        · have HT2 := Lib.hid (HTT.out hxy)
          rw [decide_eq_true hxy]
          clear hxy
          go_wp2_with fail
          go_roundw
          case rel => exact ⟨k + 1, by omega, by go_num, hb3, HT2⟩
          case measure => simp [intOf]; omega
        · have HN2 := Lib.hid (HNE.out hxy)
          rw [decide_eq_false hxy]
          clear hxy
          go_wp2_with fail
          go_ret
          exact ⟨by rw [decide_eq_false (fun e => HN2.out (by simpa using e))]; rfl, hb4⟩
      · obtain rfl : k = n := by omega
        have HE := Lib.hid (show rs = rs' by
          have := HT.out
          rwa [List.take_of_length_le (by have := HN.out; omega), List.take_of_length_le (by have := HN'.out; omega)] at this)
        have hb4 := HB.out.trans (hb.mono HB.out.size)
        go_wp2_with fail
        go_ret
        exact ⟨by rw [decide_eq_true (by simp [HE.out])]; rfl, hb4⟩
end Go.Proofs.YtkgdogccnkjcgaaDoor
