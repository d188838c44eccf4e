/-
  Records and headers: plain words; WALKS of within (both), CheckHeader (both), blank, form, IndexFunc and ContainsFunc at CheckRecord's test, CheckRecord (both).
-/
import Derived.Test.YtkgdogccnkjcgaaDoorFr
namespace Go.Proofs.YtkgdogccnkjcgaaDoor
open Go.ChangeShapes Go.WideShapes Go.ChangeAt Go.RowKit

def inR (n lo hi : Int) : Bool := decide (lo ≤ n) && decide (n ≤ hi)
theorem inR_t {n lo hi : Int} (h : inR n lo hi = true) : lo ≤ n ∧ n ≤ hi := by simpa [inR] using h
theorem inR_of {n lo hi : Int} (h : lo ≤ n ∧ n ≤ hi) : inR n lo hi = true := by simpa [inR] using h
/-- a header -/
structure Hd where
  rel : Int
  mach : Int
  num : Int
  per : Int
  print : Nat
abbrev Hd.val (h : Hd) : Value := .agg #[.int .i64 h.rel, .int .i64 h.mach, .int .i64 h.num, .int .i64 h.per, .int .u64 ((h.print : Nat) : Int)]
def ckH (h : Hd) : Nat := if (inR h.rel 0 1073741824 && inR h.mach 0 1073741824 && inR h.num 0 1073741824 && inR h.per 0 1099511627776) = true then 0 else 1
/-- a record -/
structure Rc where
  kind : Int
  clock : Int
  addr : Int
  lost : Int
  index : Int
  value : Int
  chain : List Int
abbrev Rc.val (r : Rc) (s : Value) : Value := .agg #[.int .i64 r.kind, .int .i64 r.clock, .int .i64 r.addr, s, .int .i64 r.lost, .int .i64 r.index, .int .i64 r.value]
/-- the integers that a slice reads as -/
def Is (w : World) (a : Option Addr) (n cap : Nat) (zs : List Int) : Prop := zs.length = n ∧ n ≤ cap ∧ cap ≤ maxLen ∧ (a = none → cap = 0) ∧ Cells w a (ints zs)
theorem Is.below {w w' : World} {a : Option Addr} {n cap : Nat} {zs : List Int} (h : Is w a n cap zs) (hb : Below w.heap.size w w') : Is w' a n cap zs := ⟨h.1, h.2.1, h.2.2.1, h.2.2.2.1, h.2.2.2.2.below hb⟩
theorem Is.of_own {w : World} {base n e : Nat} {v : Value} {zs : List Int} (h : w.ownsRow base e 1 v n (ints zs)) : ∃ a cap, v = .slice a n cap ∧ Is w a n cap zs := by
  obtain ⟨a, cap, rfl, h1, h2, h3, h4, _⟩ := Cells.of_own h
  exact ⟨a, cap, rfl, by simpa using h1, h2, h3, own_nil h, h4⟩
def blankR (r : Rc) : Bool := (r.clock == 0) && (r.addr == 0) && (r.chain.length == 0) && (r.lost == 0)
def formR (r : Rc) : Bool :=
  if r.kind = 1 then (r.index == 0) && (r.value == 0)
  else if r.kind = 2 then blankR r
  else if r.kind = 3 then (r.index == 0) && (r.value == 0) && blankR r
  else false
def okA (x : Int) : Bool := inR x 0 1048576
def rangeR (r : Rc) : Bool := inR r.clock (-1125899906842624) 1125899906842624 && okA r.addr && inR r.lost 0 1073741824 && r.chain.all okA && inR r.index 0 4095 && inR r.value 0 1099511627776
/-- the first error of a record -/
def ckR (r : Rc) : Nat := if formR r = false then 3 else if rangeR r = false then 1 else if 32 < r.chain.length then 5 else 0

set_option maxRecDepth 100000 in
set_option maxHeartbeats 2000000 in
theorem within_any (n lo hi : Int) (w : World) : Calls Tryd.prog 40 #[.int .i64 n, .int .i64 lo, .int .i64 hi] w fun e w' => e = .returned (.bool (inR n lo hi)) ∧ w' = w := by
  by_cases h1 : lo ≤ n
  · have d1 : decide (lo ≤ n) = true := by simpa using h1
    have e1 : inR n lo hi = decide (n ≤ hi) := by simp [inR, h1]
    have E1 := Lib.hid e1
    clear e1 h1
    go_enter Tryd.func40, Tryd.ntmps40
    go_wp2_with fail
    go_ret
    exact ⟨by rw [E1.out]; rfl, rfl⟩
  · have d1 : decide (lo ≤ n) = false := by simpa using h1
    have e1 : inR n lo hi = false := by simp [inR, h1]
    have E1 := Lib.hid e1
    clear e1 h1
    go_enter Tryd.func40, Tryd.ntmps40
    go_wp2_with fail
    go_ret
    exact ⟨by rw [E1.out]; rfl, rfl⟩
set_option maxRecDepth 100000 in
set_option maxHeartbeats 4000000 in
theorem CheckHeader_any (h : Hd) (w : World) : Calls Tryd.prog 18 #[h.val] w fun e w' => e = .returned (.int .i64 ((ckH h : Nat) : Int)) ∧ Below w.heap.size w w' := by
  have hb := (Below.refl w.heap.size w).alloc (Nat.le_refl _) (.cells #[.int .i64 h.rel, .int .i64 h.mach, .int .i64 h.num, .int .i64 h.per, .int .u64 ((h.print : Nat) : Int)] 29)
  cases h1 : inR h.rel 0 1073741824
  · have e1 := Lib.hid (show ckH h = 1 by unfold ckH; rw [h1]; rfl)
    go_enter Tryd.func18, Tryd.ntmps18
    go_wp2_with (go_at_call 40; refine (within_any _ _ _ _).mono ?_; rintro e w1 ⟨rfl, rfl⟩)
    go_ret
    exact ⟨by rw [e1.out]; rfl, hb⟩
  cases h2 : inR h.mach 0 1073741824
  · have e1 := Lib.hid (show ckH h = 1 by unfold ckH; rw [h1, h2]; rfl)
    go_enter Tryd.func18, Tryd.ntmps18
    go_wp2_with (go_at_call 40; refine (within_any _ _ _ _).mono ?_; rintro e w1 ⟨rfl, rfl⟩)
    go_ret
    exact ⟨by rw [e1.out]; rfl, hb⟩
  cases h3 : inR h.num 0 1073741824
  · have e1 := Lib.hid (show ckH h = 1 by unfold ckH; rw [h1, h2, h3]; rfl)
    go_enter Tryd.func18, Tryd.ntmps18
    go_wp2_with (go_at_call 40; refine (within_any _ _ _ _).mono ?_; rintro e w1 ⟨rfl, rfl⟩)
    go_ret
    exact ⟨by rw [e1.out]; rfl, hb⟩
  cases h4 : inR h.per 0 1099511627776
  · have e1 := Lib.hid (show ckH h = 1 by unfold ckH; rw [h1, h2, h3, h4]; rfl)
    go_enter Tryd.func18, Tryd.ntmps18
    go_wp2_with (go_at_call 40; refine (within_any _ _ _ _).mono ?_; rintro e w1 ⟨rfl, rfl⟩)
    go_ret
    exact ⟨by rw [e1.out]; rfl, hb⟩
  · have e1 := Lib.hid (show ckH h = 0 by unfold ckH; rw [h1, h2, h3, h4]; rfl)
    go_enter Tryd.func18, Tryd.ntmps18
    go_wp2_with (go_at_call 40; refine (within_any _ _ _ _).mono ?_; rintro e w1 ⟨rfl, rfl⟩)
    go_ret
    exact ⟨by rw [e1.out]; rfl, hb⟩
set_option maxRecDepth 100000 in
set_option maxHeartbeats 2000000 in
theorem refwithin_any (n lo hi : Int) (w : World) : Calls Tryd.prog 41 #[.int .i64 n, .int .i64 lo, .int .i64 hi] w fun e w' => e = .returned (.bool (inR n lo hi)) ∧ w' = w := by
  by_cases h1 : lo ≤ n
  · have d1 : decide (lo ≤ n) = true := by simpa using h1
    have e1 : inR n lo hi = decide (n ≤ hi) := by simp [inR, h1]
    have E1 := Lib.hid e1
    clear e1 h1
    go_enter Tryd.func41, Tryd.ntmps41
    go_wp2_with fail
    go_ret
    exact ⟨by rw [E1.out]; rfl, rfl⟩
  · have d1 : decide (lo ≤ n) = false := by simpa using h1
    have e1 : inR n lo hi = false := by simp [inR, h1]
    have E1 := Lib.hid e1
    clear e1 h1
    go_enter Tryd.func41, Tryd.ntmps41
    go_wp2_with fail
    go_ret
    exact ⟨by rw [E1.out]; rfl, rfl⟩
set_option maxRecDepth 100000 in
set_option maxHeartbeats 4000000 in
theorem refCheckHeader_any (h : Hd) (w : World) : Calls Tryd.prog 19 #[h.val] w fun e w' => e = .returned (.int .i64 ((ckH h : Nat) : Int)) ∧ Below w.heap.size w w' := by
  have hb := (Below.refl w.heap.size w).alloc (Nat.le_refl _) (.cells #[.int .i64 h.rel, .int .i64 h.mach, .int .i64 h.num, .int .i64 h.per, .int .u64 ((h.print : Nat) : Int)] 29)
  cases h1 : inR h.rel 0 1073741824
  · have e1 := Lib.hid (show ckH h = 1 by unfold ckH; rw [h1]; rfl)
    go_enter Tryd.func19, Tryd.ntmps19
    go_wp2_with (go_at_call 41; refine (refwithin_any _ _ _ _).mono ?_; rintro e w1 ⟨rfl, rfl⟩)
    go_ret
    exact ⟨by rw [e1.out]; rfl, hb⟩
  cases h2 : inR h.mach 0 1073741824
  · have e1 := Lib.hid (show ckH h = 1 by unfold ckH; rw [h1, h2]; rfl)
    go_enter Tryd.func19, Tryd.ntmps19
    go_wp2_with (go_at_call 41; refine (refwithin_any _ _ _ _).mono ?_; rintro e w1 ⟨rfl, rfl⟩)
    go_ret
    exact ⟨by rw [e1.out]; rfl, hb⟩
  cases h3 : inR h.num 0 1073741824
  · have e1 := Lib.hid (show ckH h = 1 by unfold ckH; rw [h1, h2, h3]; rfl)
    go_enter Tryd.func19, Tryd.ntmps19
    go_wp2_with (go_at_call 41; refine (refwithin_any _ _ _ _).mono ?_; rintro e w1 ⟨rfl, rfl⟩)
    go_ret
    exact ⟨by rw [e1.out]; rfl, hb⟩
  cases h4 : inR h.per 0 1099511627776
  · have e1 := Lib.hid (show ckH h = 1 by unfold ckH; rw [h1, h2, h3, h4]; rfl)
    go_enter Tryd.func19, Tryd.ntmps19
    go_wp2_with (go_at_call 41; refine (refwithin_any _ _ _ _).mono ?_; rintro e w1 ⟨rfl, rfl⟩)
    go_ret
    exact ⟨by rw [e1.out]; rfl, hb⟩
  · have e1 := Lib.hid (show ckH h = 0 by unfold ckH; rw [h1, h2, h3, h4]; rfl)
    go_enter Tryd.func19, Tryd.ntmps19
    go_wp2_with (go_at_call 41; refine (refwithin_any _ _ _ _).mono ?_; rintro e w1 ⟨rfl, rfl⟩)
    go_ret
    exact ⟨by rw [e1.out]; rfl, hb⟩

set_option maxRecDepth 100000 in
set_option maxHeartbeats 4000000 in
theorem blank_any (r : Rc) (a : Option Addr) (n cap : Nat) (hn : r.chain.length = n) (w : World) : Calls Tryd.prog 61 #[.agg #[.int .i64 r.clock, .int .i64 r.addr, .slice a n cap, .int .i64 r.lost]] w fun e w' => e = .returned (.bool (blankR r)) ∧ Below w.heap.size w w' := by
  have hb := (Below.refl w.heap.size w).alloc (Nat.le_refl _) (.cells #[.int .i64 r.clock, .int .i64 r.addr, .slice a n cap, .int .i64 r.lost] 43)
  have e : blankR r = ((r.clock == 0) && (r.addr == 0) && ((n : Int) == 0) && (r.lost == 0)) := by
    unfold blankR; rw [hn]
    congr 2
    cases n <;> simp; omega
  have E := Lib.hid e
  clear e hn
  cases h1 : (r.clock == 0) <;> cases h2 : (r.addr == 0) <;> cases h3 : ((n : Int) == 0) <;> cases h4 : (r.lost == 0)
  all_goals
    have e1 := Lib.hid (E.out.trans (by rw [h1, h2, h3, h4]))
    go_enter Tryd.func61, Tryd.ntmps61
    go_wp2_with fail
    go_ret
    exact ⟨by rw [e1.out]; rfl, hb⟩
set_option maxRecDepth 100000 in
set_option maxHeartbeats 4000000 in
theorem form_any (r : Rc) (a : Option Addr) (n cap : Nat) (hn : r.chain.length = n) (w : World) : Calls Tryd.prog 44 #[r.val (.slice a n cap)] w fun e w' => e = .returned (.bool (formR r)) ∧ Below w.heap.size w w' := by
  have hb := (Below.refl w.heap.size w).alloc (Nat.le_refl _) (.cells #[.int .i64 r.kind, .int .i64 r.clock, .int .i64 r.addr, .slice a n cap, .int .i64 r.lost, .int .i64 r.index, .int .i64 r.value] 45)
  have hs : w.heap.size ≤ (w.alloc (.cells #[.int .i64 r.kind, .int .i64 r.clock, .int .i64 r.addr, .slice a n cap, .int .i64 r.lost, .int .i64 r.index, .int .i64 r.value] 45)).heap.size := by simp
  cases h1 : (r.index == 0) <;> cases h2 : (r.value == 0)
  all_goals
    by_cases k1 : r.kind = 1
    · have e1 := Lib.hid (show formR r = _ by unfold formR; rw [if_pos k1, h1, h2])
      have d1 : (r.kind == 1) = true := by simp [k1]
      clear k1
      go_enter Tryd.func44, Tryd.ntmps44
      go_wp2_with fail
      go_ret
      exact ⟨by rw [e1.out]; rfl, hb⟩
    have d1 : (r.kind == 1) = false := by simp [k1]
    by_cases k2 : r.kind = 2
    · have e1 := Lib.hid (show formR r = blankR r by unfold formR; rw [if_neg k1, if_pos k2])
      have d2 : (r.kind == 2) = true := by simp [k2]
      clear k1 k2
      go_enter Tryd.func44, Tryd.ntmps44
      go_wp2_with fail
      refine (blank_any r a n cap hn _).mono ?_
      rintro e w1 ⟨rfl, hb1⟩
      have hb2 := hb.trans (hb1.mono hs)
      go_wp2_with fail
      go_ret
      exact ⟨by rw [e1.out]; rfl, hb2⟩
    have d2 : (r.kind == 2) = false := by simp [k2]
    by_cases k3 : r.kind = 3
    · have e1 := Lib.hid (show formR r = _ by unfold formR; rw [if_neg k1, if_neg k2, if_pos k3, h1, h2])
      have d3 : (r.kind == 3) = true := by simp [k3]
      clear k1 k2 k3
      go_enter Tryd.func44, Tryd.ntmps44
      go_wp2_with fail
      first
        | (go_ret; exact ⟨by rw [e1.out]; rfl, hb⟩)
        | (refine (blank_any r a n cap hn _).mono ?_
           rintro e w1 ⟨rfl, hb1⟩
           have hb2 := hb.trans (hb1.mono hs)
           go_wp2_with fail
           go_ret
           exact ⟨by rw [e1.out]; rfl, hb2⟩)
    · have e1 := Lib.hid (show formR r = false by unfold formR; rw [if_neg k1, if_neg k2, if_neg k3])
      have d3 : (r.kind == 3) = false := by simp [k3]
      clear k1 k2 k3
      go_enter Tryd.func44, Tryd.ntmps44
      go_wp2_with fail
      go_ret
      exact ⟨by rw [e1.out]; rfl, hb⟩
set_option maxRecDepth 100000 in
set_option maxHeartbeats 2000000 in
theorem test_any (x : Int) (w : World) : Calls Tryd.prog 46 #[.int .i64 x] w fun e w' => e = .returned (.bool (!okA x)) ∧ w' = w := by
  go_enter Tryd.func46, Tryd.ntmps46
  go_wp2_with (go_at_call 40; refine (within_any _ _ _ _).mono ?_; rintro e w1 ⟨rfl, rfl⟩)
  go_ret
  exact ⟨rfl, rfl⟩
set_option maxRecDepth 100000 in
set_option maxHeartbeats 4000000 in
theorem Index_any (a : Option Addr) (n cap : Nat) (zs : List Int) (hm : n ≤ 100000) (w : World) (h : Is w a n cap zs) :
    Calls Tryd.prog 62 #[.slice a n cap, .func (.func 46) #[] #[]] w fun e w' => (∃ z : Int, e = .returned (.int .i64 z) ∧ decide (0 ≤ z) = !(zs.all okA)) ∧ w' = w := by
  have HC := Lib.hid h
  have HN := Lib.hid h.1
  clear h
  go_enter Tryd.func62, Tryd.ntmps62
  go_wp2_with fail
  go_loopw [8] (fun v8 wr => ∃ k : Nat, k ≤ n ∧ v8 = .int .i64 k ∧ Hid ((zs.take k).all okA = true) ∧ wr = w) (fun v _ => n - (intOf v).toNat)
  case atStart => exact ⟨0, by omega, rfl, Lib.hid rfl, rfl⟩
  case round =>
    obtain ⟨k, hk, rfl, HA, rfl⟩ := hrel
    by_cases hlt : k < n
    · have hkl : k < zs.length := by have := HN.out; omega
      obtain ⟨b, off, rfl, hbl, hcell⟩ := HC.out.2.2.2.2.int k hkl
      have c1 := hcell k hkl
      have ht : (zs.take (k + 1)).all okA = okA (zs.getD k 0) := by
        rw [List.take_succ_eq_append_getElem hkl, List.all_append, HA.out]; simp [List.getD, hkl]
      have hall : okA (zs.getD k 0) = false → zs.all okA = false := by
        intro hf
        rw [← Bool.not_eq_true]
        intro hall
        have := List.all_eq_true.1 hall (zs.getD k 0) (by simp [List.getD, hkl])
        rw [hf] at this; cases this
      obtain ⟨x, hx⟩ : ∃ x, zs.getD k 0 = x := ⟨_, rfl⟩
      rw [hx] at c1 ht hall
      cases hok : okA x
      · have HF := Lib.hid (hall hok)
        clear hcell hx ht hall
        go_wp2_with (go_at_call 46; refine (test_any _ _).mono ?_; rintro e w1 ⟨rfl, rfl⟩)
        go_ret
        exact ⟨⟨_, rfl, by rw [HF.out]; simp⟩, rfl⟩
      · rw [hok] at ht
        have HT := Lib.hid ht
        clear hcell hx ht hall HA
        go_wp2_with (go_at_call 46; refine (test_any _ _).mono ?_; rintro e w1 ⟨rfl, rfl⟩)
        exact ⟨⟨k + 1, by omega, by go_num, HT, trivial⟩, by simp [intOf]; omega⟩
    · obtain rfl : k = n := by omega
      have hall := HA.out
      rw [List.take_of_length_le (by have := HN.out; omega)] at hall
      have HF := Lib.hid hall
      clear HA hall
      go_wp2_with fail
      go_ret
      exact ⟨⟨_, rfl, by rw [HF.out]; rfl⟩, rfl⟩
set_option maxRecDepth 100000 in
set_option maxHeartbeats 2000000 in
theorem Contains_any (a : Option Addr) (n cap : Nat) (zs : List Int) (hm : n ≤ 100000) (w : World) (h : Is w a n cap zs) :
    Calls Tryd.prog 45 #[.slice a n cap, .func (.func 46) #[] #[]] w fun e w' => e = .returned (.bool (!(zs.all okA))) ∧ w' = w := by
  have HC := Lib.hid h
  clear h
  go_enter Tryd.func45, Tryd.ntmps45
  go_wp2_with fail
  refine (Index_any a n cap zs hm _ HC.out).mono ?_
  rintro e w1 ⟨⟨z, rfl, hz⟩, rfl⟩
  have HZ := Lib.hid hz
  clear hz
  go_wp2_with fail
  go_ret
  exact ⟨by rw [← HZ.out]; rfl, rfl⟩

/-- the two blocks that CheckRecord lays -/
def boxed (w : World) (r : Rc) (s : Value) : World := (w.alloc (.cells #[.int .i64 r.kind, .int .i64 r.clock, .int .i64 r.addr, s, .int .i64 r.lost, .int .i64 r.index, .int .i64 r.value] 45)).alloc (.cells #[.int .i64 r.clock, .int .i64 r.addr, s, .int .i64 r.lost] 43)
theorem boxed_cells {w w2 : World} {r : Rc} {s : Value} (hb : Below (boxed w r s).heap.size (boxed w r s) w2) :
    (w2.cell? ⟨w.heap.size, 0, none⟩ = some (.int .i64 r.kind) ∧ w2.cell? ⟨w.heap.size, 5, none⟩ = some (.int .i64 r.index) ∧ w2.cell? ⟨w.heap.size, 6, none⟩ = some (.int .i64 r.value)) ∧
    (w2.cell? ⟨w.heap.size + 1, 0, none⟩ = some (.int .i64 r.clock) ∧ w2.cell? ⟨w.heap.size + 1, 1, none⟩ = some (.int .i64 r.addr) ∧ w2.cell? ⟨w.heap.size + 1, 2, none⟩ = some s ∧ w2.cell? ⟨w.heap.size + 1, 3, none⟩ = some (.int .i64 r.lost)) ∧ Below w.heap.size w w2 := by
  have hs : (boxed w r s).heap.size = w.heap.size + 2 := by simp [boxed]
  have k1 : ∀ i v, (#[.int .i64 r.kind, .int .i64 r.clock, .int .i64 r.addr, s, .int .i64 r.lost, .int .i64 r.index, .int .i64 r.value] : Array Value)[i]? = some v → w2.cell? ⟨w.heap.size, i, none⟩ = some v := fun i v h => by
    refine (hb.cell (p := ⟨w.heap.size, i, none⟩) (by rw [hs]; show w.heap.size < w.heap.size + 2; omega)).trans ?_
    unfold boxed
    refine (World.cell?_alloc_lt _ _ _ (by simp)).trans ?_
    rw [cell_of_row _ _ _ _ _ _ (heap_alloc_new w _)]; exact h
  have k2 : ∀ i v, (#[.int .i64 r.clock, .int .i64 r.addr, s, .int .i64 r.lost] : Array Value)[i]? = some v → w2.cell? ⟨w.heap.size + 1, i, none⟩ = some v := fun i v h => by
    refine (hb.cell (p := ⟨w.heap.size + 1, i, none⟩) (by rw [hs]; show w.heap.size + 1 < w.heap.size + 2; omega)).trans ?_
    unfold boxed
    have e : (w.alloc (.cells #[.int .i64 r.kind, .int .i64 r.clock, .int .i64 r.addr, s, .int .i64 r.lost, .int .i64 r.index, .int .i64 r.value] 45)).heap.size = w.heap.size + 1 := by simp
    rw [← e, cell_of_row _ _ _ _ _ _ (heap_alloc_new _ _)]; exact h
  refine ⟨⟨k1 0 _ rfl, k1 5 _ rfl, k1 6 _ rfl⟩, ⟨k2 0 _ rfl, k2 1 _ rfl, k2 2 _ rfl, k2 3 _ rfl⟩, ?_⟩
  have h0 : Below w.heap.size w (boxed w r s) := ((Below.refl _ _).alloc (Nat.le_refl _) _).alloc (by simp) _
  exact h0.trans (hb.mono h0.size)
set_option maxRecDepth 100000 in
set_option maxHeartbeats 8000000 in
theorem CheckRecord_any (r : Rc) (a : Option Addr) (n cap : Nat) (hm : n ≤ 100000) (w : World) (h : Is w a n cap r.chain) : Calls Tryd.prog 23 #[r.val (.slice a n cap)] w fun e w' => e = .returned (.int .i64 ((ckR r : Nat) : Int)) ∧ Below w.heap.size w w' := by
  have HCH := Lib.hid h
  have hn := h.1
  clear h
  cases hf : formR r
  · have e1 := Lib.hid (show ckR r = 3 by unfold ckR; rw [if_pos hf])
    go_enter Tryd.func23, Tryd.ntmps23
    go_wp2_with fail
    refine (form_any r a n cap hn _).mono ?_
    rintro e w2 ⟨rfl, hb2⟩
    obtain ⟨_, _, hb⟩ := boxed_cells hb2
    rw [hf]
    clear hb2
    go_wp2_with fail
    go_ret
    exact ⟨by rw [e1.out]; rfl, hb⟩
  cases q1 : inR r.clock (-1125899906842624) 1125899906842624
  · have e1 := Lib.hid (show ckR r = 1 by unfold ckR rangeR; rw [hf, q1]; simp)
    go_enter Tryd.func23, Tryd.ntmps23
    go_wp2_with fail
    refine (form_any r a n cap hn _).mono ?_
    rintro e w2 ⟨rfl, hb2⟩
    obtain ⟨⟨c0, c5, c6⟩, ⟨b0, b1, b2, b3⟩, hb⟩ := boxed_cells hb2
    have HI := Lib.hid (HCH.out.below hb)
    rw [hf]
    clear hb2
    go_wp2_with (first | (go_at_call 40; refine (within_any _ _ _ _).mono ?_; rintro e w1 ⟨rfl, rfl⟩) | (go_at_call 45; refine (Contains_any a n cap r.chain hm _ HI.out).mono ?_; rintro e w1 ⟨rfl, rfl⟩))
    go_ret
    exact ⟨by rw [e1.out]; rfl, hb⟩
  cases q2 : okA r.addr
  · have e1 := Lib.hid (show ckR r = 1 by unfold ckR rangeR; rw [hf, q1, q2]; simp)
    have z1 : inR r.addr 0 1048576 = false := q2
    go_enter Tryd.func23, Tryd.ntmps23
    go_wp2_with fail
    refine (form_any r a n cap hn _).mono ?_
    rintro e w2 ⟨rfl, hb2⟩
    obtain ⟨⟨c0, c5, c6⟩, ⟨b0, b1, b2, b3⟩, hb⟩ := boxed_cells hb2
    have HI := Lib.hid (HCH.out.below hb)
    rw [hf]
    clear hb2
    go_wp2_with (first | (go_at_call 40; refine (within_any _ _ _ _).mono ?_; rintro e w1 ⟨rfl, rfl⟩) | (go_at_call 45; refine (Contains_any a n cap r.chain hm _ HI.out).mono ?_; rintro e w1 ⟨rfl, rfl⟩))
    go_ret
    exact ⟨by rw [e1.out]; rfl, hb⟩
  cases q3 : inR r.lost 0 1073741824
  · have e1 := Lib.hid (show ckR r = 1 by unfold ckR rangeR; rw [hf, q1, q2, q3]; simp)
    have z2 : inR r.addr 0 1048576 = true := q2
    go_enter Tryd.func23, Tryd.ntmps23
    go_wp2_with fail
    refine (form_any r a n cap hn _).mono ?_
    rintro e w2 ⟨rfl, hb2⟩
    obtain ⟨⟨c0, c5, c6⟩, ⟨b0, b1, b2, b3⟩, hb⟩ := boxed_cells hb2
    have HI := Lib.hid (HCH.out.below hb)
    rw [hf]
    clear hb2
    go_wp2_with (first | (go_at_call 40; refine (within_any _ _ _ _).mono ?_; rintro e w1 ⟨rfl, rfl⟩) | (go_at_call 45; refine (Contains_any a n cap r.chain hm _ HI.out).mono ?_; rintro e w1 ⟨rfl, rfl⟩))
    go_ret
    exact ⟨by rw [e1.out]; rfl, hb⟩
  cases q4 : r.chain.all okA
  · have e1 := Lib.hid (show ckR r = 1 by unfold ckR rangeR; rw [hf, q1, q2, q3, q4]; simp)
    have z3 : inR r.addr 0 1048576 = true := q2
    go_enter Tryd.func23, Tryd.ntmps23
    go_wp2_with fail
    refine (form_any r a n cap hn _).mono ?_
    rintro e w2 ⟨rfl, hb2⟩
    obtain ⟨⟨c0, c5, c6⟩, ⟨b0, b1, b2, b3⟩, hb⟩ := boxed_cells hb2
    have HI := Lib.hid (HCH.out.below hb)
    rw [hf]
    clear hb2
    go_wp2_with (first | (go_at_call 40; refine (within_any _ _ _ _).mono ?_; rintro e w1 ⟨rfl, rfl⟩) | (go_at_call 45; refine (Contains_any a n cap r.chain hm _ HI.out).mono ?_; rintro e w1 ⟨rfl, rfl⟩))
    go_ret
    exact ⟨by rw [e1.out]; rfl, hb⟩
  cases q5 : inR r.index 0 4095
  · have e1 := Lib.hid (show ckR r = 1 by unfold ckR rangeR; rw [hf, q1, q2, q3, q4, q5]; simp)
    have z4 : inR r.addr 0 1048576 = true := q2
    go_enter Tryd.func23, Tryd.ntmps23
    go_wp2_with fail
    refine (form_any r a n cap hn _).mono ?_
    rintro e w2 ⟨rfl, hb2⟩
    obtain ⟨⟨c0, c5, c6⟩, ⟨b0, b1, b2, b3⟩, hb⟩ := boxed_cells hb2
    have HI := Lib.hid (HCH.out.below hb)
    rw [hf]
    clear hb2
    go_wp2_with (first | (go_at_call 40; refine (within_any _ _ _ _).mono ?_; rintro e w1 ⟨rfl, rfl⟩) | (go_at_call 45; refine (Contains_any a n cap r.chain hm _ HI.out).mono ?_; rintro e w1 ⟨rfl, rfl⟩))
    go_ret
    exact ⟨by rw [e1.out]; rfl, hb⟩
  cases q6 : inR r.value 0 1099511627776
  · have e1 := Lib.hid (show ckR r = 1 by unfold ckR rangeR; rw [hf, q1, q2, q3, q4, q5, q6]; simp)
    have z5 : inR r.addr 0 1048576 = true := q2
    go_enter Tryd.func23, Tryd.ntmps23
    go_wp2_with fail
    refine (form_any r a n cap hn _).mono ?_
    rintro e w2 ⟨rfl, hb2⟩
    obtain ⟨⟨c0, c5, c6⟩, ⟨b0, b1, b2, b3⟩, hb⟩ := boxed_cells hb2
    have HI := Lib.hid (HCH.out.below hb)
    rw [hf]
    clear hb2
    go_wp2_with (first | (go_at_call 40; refine (within_any _ _ _ _).mono ?_; rintro e w1 ⟨rfl, rfl⟩) | (go_at_call 45; refine (Contains_any a n cap r.chain hm _ HI.out).mono ?_; rintro e w1 ⟨rfl, rfl⟩))
    go_ret
    exact ⟨by rw [e1.out]; rfl, hb⟩
  have z9 : inR r.addr 0 1048576 = true := q2
  by_cases hl : 32 < n
  · have e1 := Lib.hid (show ckR r = 5 by unfold ckR rangeR; rw [hf, q1, q2, q3, q4, q5, q6]; simp; omega)
    have dl : decide ((32 : Int) < (n : Int)) = true := by simp; omega
    go_enter Tryd.func23, Tryd.ntmps23
    go_wp2_with fail
    refine (form_any r a n cap hn _).mono ?_
    rintro e w2 ⟨rfl, hb2⟩
    obtain ⟨⟨c0, c5, c6⟩, ⟨b0, b1, b2, b3⟩, hb⟩ := boxed_cells hb2
    have HI := Lib.hid (HCH.out.below hb)
    rw [hf]
    clear hb2
    go_wp2_with (first | (go_at_call 40; refine (within_any _ _ _ _).mono ?_; rintro e w1 ⟨rfl, rfl⟩) | (go_at_call 45; refine (Contains_any a n cap r.chain hm _ HI.out).mono ?_; rintro e w1 ⟨rfl, rfl⟩))
    go_ret
    exact ⟨by rw [e1.out]; rfl, hb⟩
  · have e1 := Lib.hid (show ckR r = 0 by unfold ckR rangeR; rw [hf, q1, q2, q3, q4, q5, q6]; simp; omega)
    have dl : decide ((32 : Int) < (n : Int)) = false := by simp; omega
    go_enter Tryd.func23, Tryd.ntmps23
    go_wp2_with fail
    refine (form_any r a n cap hn _).mono ?_
    rintro e w2 ⟨rfl, hb2⟩
    obtain ⟨⟨c0, c5, c6⟩, ⟨b0, b1, b2, b3⟩, hb⟩ := boxed_cells hb2
    have HI := Lib.hid (HCH.out.below hb)
    rw [hf]
    clear hb2
    go_wp2_with (first | (go_at_call 40; refine (within_any _ _ _ _).mono ?_; rintro e w1 ⟨rfl, rfl⟩) | (go_at_call 45; refine (Contains_any a n cap r.chain hm _ HI.out).mono ?_; rintro e w1 ⟨rfl, rfl⟩))
    go_ret
    exact ⟨by rw [e1.out]; rfl, hb⟩
end Go.Proofs.YtkgdogccnkjcgaaDoor
