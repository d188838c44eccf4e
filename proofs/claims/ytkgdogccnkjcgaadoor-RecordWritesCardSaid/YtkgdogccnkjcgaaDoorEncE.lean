/-
  WALKS of Encode (both) with its errors, and of the draw of a header.
-/
import Derived.Test.YtkgdogccnkjcgaaDoorRef
namespace Go.Proofs.YtkgdogccnkjcgaaDoor
open Go.ChangeShapes Go.WideShapes Go.ChangeAt Go.RowKit
/-- the first error of records in a profile -/
def recErr : List Rc → Nat
  | [] => 0
  | r :: rs => if ckR r ≠ 0 then ckR r else if r.kind = 3 then 3 else recErr rs
def encErr (h : Hd) (rs : List Rc) : Nat := if ckH h ≠ 0 then ckH h else recErr rs
theorem drop_cons {rs : List Rc} {k : Nat} (h : k < rs.length) : rs.drop k = rs.getD k default :: rs.drop (k + 1) := by
  rw [List.drop_eq_getElem_cons h]; simp [List.getD, h]
theorem recErr_zero : ∀ {rs : List Rc}, recErr rs = 0 → ∀ r ∈ rs, Good r ∧ r.kind ≠ 3
  | [], _, r, hr => by cases hr
  | x :: rs, h, r, hr => by
    unfold recErr at h
    split at h
    · rename_i h1; exact absurd h h1
    · rename_i h1
      split at h
      · cases h
      · rename_i h2
        rcases List.mem_cons.1 hr with rfl | hr
        · exact ⟨good_of (by simpa using h1), h2⟩
        · exact recErr_zero h r hr
theorem ownErr_err {zs : List Nat} {w w' : World} {k : Nat} {x : Int} (hk : k ≠ 0) (hx : x = (k : Int)) (hb : Below w.heap.size w w') : OwnErr k zs w (.returned (.tuple #[.slice none 0 0, .int .i64 x])) w' := by
  subst hx
  exact ⟨.slice none 0 0, rfl, by rw [if_neg hk]; exact World.ownsRow_nil _ _ _ _, hb⟩
set_option maxRecDepth 100000 in
set_option maxHeartbeats 16000000 in
theorem Encode_err (h : Hd) (a : Option Addr) (n cap : Nat) (rs : List Rc) (whole : Bool) (hp : h.print < 18446744073709551616) (hc : ∀ i, i < n → (rs.getD i default).chain.length ≤ 4000) (hnm : n ≤ 100) (he : encErr h rs ≠ 0) (w : World) (hr : Rs w a n cap rs) (hl : Laid w) :
    Calls Tryd.prog 11 #[shv h (.slice a n cap) whole] w (OwnErr (encErr h rs) (encB h rs whole) w) := by
  have hb1 : Below w.heap.size w (w.alloc (.cells #[.int .i64 h.rel, .int .i64 h.mach, .int .i64 h.num, .int .i64 h.per, .int .u64 ((h.print : Nat) : Int), .slice a n cap, .bool whole] 32)) := (Below.refl _ _).alloc (Nat.le_refl _) _
  have hT := heap_alloc_new w (.cells #[.int .i64 h.rel, .int .i64 h.mach, .int .i64 h.num, .int .i64 h.per, .int .u64 ((h.print : Nat) : Int), .slice a n cap, .bool whole] 32)
  have hA1 : w.heap.size < (w.alloc (.cells #[.int .i64 h.rel, .int .i64 h.mach, .int .i64 h.num, .int .i64 h.per, .int .u64 ((h.print : Nat) : Int), .slice a n cap, .bool whole] 32)).heap.size := by simp
  have HR := Lib.hid (hr.below hb1)
  have HC := Lib.hid hc
  have HL := Lib.hid (hl.below hb1)
  clear hr hc hl
  go_enter Tryd.func11, Tryd.ntmps11
  go_upto_region 1 with fail
  generalize (w.alloc (.cells #[.int .i64 h.rel, .int .i64 h.mach, .int .i64 h.num, .int .i64 h.per, .int .u64 ((h.print : Nat) : Int), .slice a n cap, .bool whole] 32)) = w1 at *
  have c0 : w1.cell? ⟨w.heap.size, 0, none⟩ = some (.int .i64 h.rel) := cell_of_row _ _ 0 _ _ _ hT
  have c1 : w1.cell? ⟨w.heap.size, 1, none⟩ = some (.int .i64 h.mach) := cell_of_row _ _ 1 _ _ _ hT
  have c2 : w1.cell? ⟨w.heap.size, 2, none⟩ = some (.int .i64 h.num) := cell_of_row _ _ 2 _ _ _ hT
  have c3 : w1.cell? ⟨w.heap.size, 3, none⟩ = some (.int .i64 h.per) := cell_of_row _ _ 3 _ _ _ hT
  have c4 : w1.cell? ⟨w.heap.size, 4, none⟩ = some (.int .u64 ((h.print : Nat) : Int)) := cell_of_row _ _ 4 _ _ _ hT
  have c5 : w1.cell? ⟨w.heap.size, 5, none⟩ = some (.slice a n cap) := cell_of_row _ _ 5 _ _ _ hT
  have c6 : w1.cell? ⟨w.heap.size, 6, none⟩ = some (.bool whole) := cell_of_row _ _ 6 _ _ _ hT
  go_wp2_with fail
  refine (Begin_any h hp _ HL.out).mono ?_
  rintro e w2 ⟨v2, rfl, hown2, hb2⟩
  have hb02 := hb1.trans (hb2.mono hb1.size)
  clear hown2
  cases h1 : ckH h with
  | succ k =>
    have hE : encErr h rs = k + 1 := by unfold encErr; rw [if_pos (by omega), h1]
    have d1 : (((k + 1 : Nat) : Int) != 0) = true := by simp; omega
    have d2 : (((k + 1 : Nat) : Int) == 0) = false := by simp; omega
    have HE := Lib.hid hE
    clear c0 c1 c2 c3 c4 c5 c6 he hE h1
    go_wp2_with fail
    go_ret2
    rw [HE.out]
    exact ownErr_err (by omega) (by first | rfl | simp) hb02
  | zero =>
    have hE : encErr h rs = recErr rs := by unfold encErr; rw [if_neg (by omega)]
    have HEE := Lib.hid hE
    rw [hE] at he
    have HRR := Lib.hid he
    have q5 := (hb2.cell (p := ⟨w.heap.size, 5, none⟩) hA1).trans c5
    have hA2 : w.heap.size < w2.heap.size := Nat.lt_of_lt_of_le hA1 hb2.size
    have HR2 := Lib.hid (HR.out.below hb2)
    clear c0 c1 c2 c3 c4 c5 c6 he hE h1 hb2
    go_wp2_with fail
    go_loopw [25] (fun v25 wr => ∃ k : Nat, k ≤ n ∧ v25 = .int .i64 k ∧ Below w2.heap.size w2 wr ∧ Hid (recErr rs = recErr (rs.drop k))) (fun v _ => n - (intOf v).toNat)
    case atStart => exact ⟨0, by omega, rfl, Below.refl _ _, Lib.hid rfl⟩
    case round =>
      obtain ⟨k, hk, rfl, hb, HD⟩ := hrel
      have hb0r := hb02.trans (hb.mono hb02.size)
      have r5 := (hb.cell (p := ⟨w.heap.size, 5, none⟩) hA2).trans q5
      by_cases hlt : k < n
      · have HRr := Lib.hid (HR2.out.below hb)
        have hkl : k < rs.length := by rw [HRr.out.1]; exact hlt
        have hcc := HC.out k hlt
        obtain ⟨b, off, rfl, hbl, hrec⟩ := HRr.out.2.2.2.2 k hlt
        have hdc := drop_cons hkl
        obtain ⟨r, hrr⟩ : ∃ r, rs.getD k default = r := ⟨_, rfl⟩
        rw [hrr] at hrec hcc hdc
        obtain ⟨ca, cn, cc, ⟨c0, c1, c2, c3, c4, c5, c6⟩, hic⟩ := hrec
        have hcn : cn ≤ 100000 := by rw [← hic.1]; omega
        have hE : recErr rs = if ckR r ≠ 0 then ckR r else if r.kind = 3 then 3 else recErr (rs.drop (k + 1)) := by rw [HD.out, hdc]; rfl
        have HE := Lib.hid hE
        have hal := (Below.refl wr.heap.size wr).alloc (Nat.le_refl _) (.cells #[.int .i64 r.kind, .int .i64 r.clock, .int .i64 r.addr, .slice ca cn cc, .int .i64 r.lost, .int .i64 r.index, .int .i64 r.value] 45)
        have hT3 := heap_alloc_new wr (.cells #[.int .i64 r.kind, .int .i64 r.clock, .int .i64 r.addr, .slice ca cn cc, .int .i64 r.lost, .int .i64 r.index, .int .i64 r.value] 45)
        have hT3l : wr.heap.size < (wr.alloc (.cells #[.int .i64 r.kind, .int .i64 r.clock, .int .i64 r.addr, .slice ca cn cc, .int .i64 r.lost, .int .i64 r.index, .int .i64 r.value] 45)).heap.size := by simp
        have HIC := Lib.hid (hic.below hal)
        clear hic hrr hdc hE HD
        go_wp2_with fail
        refine (CheckRecord_any r ca cn cc hcn _ HIC.out).mono ?_
        rintro e w3 ⟨rfl, hb3⟩
        have hbx := hal.trans (hb3.mono hal.size)
        have hbk := hb.trans (hbx.mono hb.size)
        have hb03 := hb0r.trans (hbx.mono hb0r.size)
        have e0 : w3.cell? ⟨wr.heap.size, 0, none⟩ = some (.int .i64 r.kind) := (hb3.cell (p := ⟨wr.heap.size, 0, none⟩) hT3l).trans (cell_of_row _ _ 0 _ _ _ hT3)
        clear hal hbx hT3 hT3l
        clear hb3 c0 c1 c2 c3 c4 c5 c6 hb hb0r r5
        cases hz : ckR r with
        | succ j =>
          have d1 : (((j + 1 : Nat) : Int) != 0) = true := by simp; omega
          have d2 : (((j + 1 : Nat) : Int) == 0) = false := by simp; omega
          have HE2 := Lib.hid (show recErr rs = j + 1 by rw [HE.out, if_pos (by omega), hz])
          clear hz
          go_wp2_with fail
          go_ret2
          rw [HEE.out, HE2.out]
          exact ownErr_err (by omega) (by first | rfl | simp) hb03
        | zero =>
          by_cases hk3 : r.kind = 3
          · have d3 : (r.kind == 3) = true := by simp [hk3]
            have HE2 := Lib.hid (show recErr rs = 3 by rw [HE.out, if_neg (by omega), if_pos hk3])
            clear hz hk3
            go_wp2_with fail
            go_ret2
            rw [HEE.out, HE2.out]
            exact ownErr_err (by omega) rfl hb03
          · have d3 : (r.kind == 3) = false := by simp [hk3]
            have HE2 := Lib.hid (show recErr rs = recErr (rs.drop (k + 1)) by rw [HE.out, if_neg (by omega), if_neg hk3])
            clear hz hk3
            go_wp2_with fail
            exact ⟨⟨k + 1, by omega, by go_num, hbk, HE2⟩, by simp [intOf]; omega⟩
      · obtain rfl : k = n := by omega
        exfalso
        apply HRR.out
        rw [HD.out, List.drop_eq_nil_of_le (by rw [HR2.out.1]; omega)]
        rfl
set_option maxRecDepth 100000 in
set_option maxHeartbeats 16000000 in
theorem refEncode_err (h : Hd) (a : Option Addr) (n cap : Nat) (rs : List Rc) (whole : Bool) (hp : h.print < 18446744073709551616) (hc : ∀ i, i < n → (rs.getD i default).chain.length ≤ 4000) (hnm : n ≤ 100) (he : encErr h rs ≠ 0) (w : World) (hr : Rs w a n cap rs) :
    Calls Tryd.prog 26 #[shv h (.slice a n cap) whole] w (OwnErr (encErr h rs) (encB h rs whole) w) := by
  have hb1 : Below w.heap.size w (w.alloc (.cells #[.int .i64 h.rel, .int .i64 h.mach, .int .i64 h.num, .int .i64 h.per, .int .u64 ((h.print : Nat) : Int), .slice a n cap, .bool whole] 32)) := (Below.refl _ _).alloc (Nat.le_refl _) _
  have hT := heap_alloc_new w (.cells #[.int .i64 h.rel, .int .i64 h.mach, .int .i64 h.num, .int .i64 h.per, .int .u64 ((h.print : Nat) : Int), .slice a n cap, .bool whole] 32)
  have hA1 : w.heap.size < (w.alloc (.cells #[.int .i64 h.rel, .int .i64 h.mach, .int .i64 h.num, .int .i64 h.per, .int .u64 ((h.print : Nat) : Int), .slice a n cap, .bool whole] 32)).heap.size := by simp
  have HR := Lib.hid (hr.below hb1)
  have HC := Lib.hid hc
  clear hr hc
  go_enter Tryd.func26, Tryd.ntmps26
  go_upto_region 1 with fail
  generalize (w.alloc (.cells #[.int .i64 h.rel, .int .i64 h.mach, .int .i64 h.num, .int .i64 h.per, .int .u64 ((h.print : Nat) : Int), .slice a n cap, .bool whole] 32)) = w1 at *
  have c0 : w1.cell? ⟨w.heap.size, 0, none⟩ = some (.int .i64 h.rel) := cell_of_row _ _ 0 _ _ _ hT
  have c1 : w1.cell? ⟨w.heap.size, 1, none⟩ = some (.int .i64 h.mach) := cell_of_row _ _ 1 _ _ _ hT
  have c2 : w1.cell? ⟨w.heap.size, 2, none⟩ = some (.int .i64 h.num) := cell_of_row _ _ 2 _ _ _ hT
  have c3 : w1.cell? ⟨w.heap.size, 3, none⟩ = some (.int .i64 h.per) := cell_of_row _ _ 3 _ _ _ hT
  have c4 : w1.cell? ⟨w.heap.size, 4, none⟩ = some (.int .u64 ((h.print : Nat) : Int)) := cell_of_row _ _ 4 _ _ _ hT
  have c5 : w1.cell? ⟨w.heap.size, 5, none⟩ = some (.slice a n cap) := cell_of_row _ _ 5 _ _ _ hT
  have c6 : w1.cell? ⟨w.heap.size, 6, none⟩ = some (.bool whole) := cell_of_row _ _ 6 _ _ _ hT
  go_wp2_with fail
  refine (refBegin_any h hp _).mono ?_
  rintro e w2 ⟨v2, rfl, hown2, hb2⟩
  have hb02 := hb1.trans (hb2.mono hb1.size)
  clear hown2
  cases h1 : ckH h with
  | succ k =>
    have hE : encErr h rs = k + 1 := by unfold encErr; rw [if_pos (by omega), h1]
    have d1 : (((k + 1 : Nat) : Int) != 0) = true := by simp; omega
    have d2 : (((k + 1 : Nat) : Int) == 0) = false := by simp; omega
    have HE := Lib.hid hE
    clear c0 c1 c2 c3 c4 c5 c6 he hE h1
    go_wp2_with fail
    go_ret2
    rw [HE.out]
    exact ownErr_err (by omega) (by first | rfl | simp) hb02
  | zero =>
    have hE : encErr h rs = recErr rs := by unfold encErr; rw [if_neg (by omega)]
    have HEE := Lib.hid hE
    rw [hE] at he
    have HRR := Lib.hid he
    have q5 := (hb2.cell (p := ⟨w.heap.size, 5, none⟩) hA1).trans c5
    have hA2 : w.heap.size < w2.heap.size := Nat.lt_of_lt_of_le hA1 hb2.size
    have HR2 := Lib.hid (HR.out.below hb2)
    clear c0 c1 c2 c3 c4 c5 c6 he hE h1 hb2
    go_wp2_with fail
    go_loopw [6] (fun v25 wr => ∃ k : Nat, k ≤ n ∧ v25 = .int .i64 k ∧ Below w2.heap.size w2 wr ∧ Hid (recErr rs = recErr (rs.drop k))) (fun v _ => n - (intOf v).toNat)
    case atStart => exact ⟨0, by omega, rfl, Below.refl _ _, Lib.hid rfl⟩
    case round =>
      obtain ⟨k, hk, rfl, hb, HD⟩ := hrel
      have hb0r := hb02.trans (hb.mono hb02.size)
      have r5 := (hb.cell (p := ⟨w.heap.size, 5, none⟩) hA2).trans q5
      by_cases hlt : k < n
      · have HRr := Lib.hid (HR2.out.below hb)
        have hkl : k < rs.length := by rw [HRr.out.1]; exact hlt
        have hcc := HC.out k hlt
        obtain ⟨b, off, rfl, hbl, hrec⟩ := HRr.out.2.2.2.2 k hlt
        have hdc := drop_cons hkl
        obtain ⟨r, hrr⟩ : ∃ r, rs.getD k default = r := ⟨_, rfl⟩
        rw [hrr] at hrec hcc hdc
        obtain ⟨ca, cn, cc, ⟨c0, c1, c2, c3, c4, c5, c6⟩, hic⟩ := hrec
        have hcn : cn ≤ 100000 := by rw [← hic.1]; omega
        have hE : recErr rs = if ckR r ≠ 0 then ckR r else if r.kind = 3 then 3 else recErr (rs.drop (k + 1)) := by rw [HD.out, hdc]; rfl
        have HE := Lib.hid hE
        have HIC := Lib.hid hic
        clear hic hrr hdc hE HD
        go_wp2_with fail
        refine (refCheckRecord_any r ca cn cc hcn _ HIC.out).mono ?_
        rintro e w3 ⟨rfl, hb3⟩
        have hbk := hb.trans (hb3.mono hb.size)
        have hb03 := hb0r.trans (hb3.mono hb0r.size)
        have e0 := (hb3.cell (p := ⟨b, off + k * 7, none⟩) hbl).trans c0
        have s5 := (hb3.cell (p := ⟨w.heap.size, 5, none⟩) (Nat.lt_of_lt_of_le hA2 hb.size)).trans r5
        clear hb3 c0 c1 c2 c3 c4 c5 c6 hb hb0r r5
        cases hz : ckR r with
        | succ j =>
          have d1 : (((j + 1 : Nat) : Int) != 0) = true := by simp; omega
          have d2 : (((j + 1 : Nat) : Int) == 0) = false := by simp; omega
          have HE2 := Lib.hid (show recErr rs = j + 1 by rw [HE.out, if_pos (by omega), hz])
          clear hz
          go_wp2_with fail
          go_ret2
          rw [HEE.out, HE2.out]
          exact ownErr_err (by omega) (by first | rfl | simp) hb03
        | zero =>
          by_cases hk3 : r.kind = 3
          · have d3 : (r.kind == 3) = true := by simp [hk3]
            have HE2 := Lib.hid (show recErr rs = 3 by rw [HE.out, if_neg (by omega), if_pos hk3])
            clear hz hk3
            go_wp2_with fail
            go_ret2
            rw [HEE.out, HE2.out]
            exact ownErr_err (by omega) rfl hb03
          · have d3 : (r.kind == 3) = false := by simp [hk3]
            have HE2 := Lib.hid (show recErr rs = recErr (rs.drop (k + 1)) by rw [HE.out, if_neg (by omega), if_neg hk3])
            clear hz hk3
            go_wp2_with fail
            exact ⟨⟨k + 1, by omega, by go_num, hbk, HE2⟩, by simp [intOf]; omega⟩
      · obtain rfl : k = n := by omega
        exfalso
        apply HRR.out
        rw [HD.out, List.drop_eq_nil_of_le (by rw [HR2.out.1]; omega)]
        rfl
theorem encErr_zero {h : Hd} {rs : List Rc} (he : encErr h rs = 0) : ckH h = 0 ∧ ∀ r ∈ rs, Good r ∧ r.kind ≠ 3 := by
  unfold encErr at he
  split at he
  · rename_i h1; exact absurd he h1
  · rename_i h1; exact ⟨by simpa using h1, recErr_zero he⟩
theorem Encode_all (h : Hd) (a : Option Addr) (n cap : Nat) (rs : List Rc) (whole : Bool) (hp : h.print < 18446744073709551616) (hc : ∀ i, i < n → (rs.getD i default).chain.length ≤ 4000) (hnm : n ≤ 100) (w : World) (hr : Rs w a n cap rs) (hl : Laid w) :
    Calls Tryd.prog 11 #[shv h (.slice a n cap) whole] w (OwnErr (encErr h rs) (encB h rs whole) w) := by
  by_cases he : encErr h rs = 0
  · obtain ⟨h1, h2⟩ := encErr_zero he
    have hn := hr.1
    have hle := recs_le (fun r hr => (h2 r hr).1)
    refine (Encode_good h a n cap rs whole h1 hp (fun i hi => h2 _ (by simp [List.getD, show i < rs.length by omega])) (by omega) (by omega) w hr hl).mono ?_
    rintro e w' (⟨h9, _⟩ | ⟨_, v, rfl, ho, hb⟩)
    · omega
    · exact ownErr_ok he ho hb
  · exact Encode_err h a n cap rs whole hp hc hnm he w hr hl
set_option maxRecDepth 100000 in
set_option maxHeartbeats 16000000 in
theorem refEncode_good (h : Hd) (a : Option Addr) (n cap : Nat) (rs : List Rc) (whole : Bool) (hp : h.print < 18446744073709551616) (hnm : n ≤ 100) (he : encErr h rs = 0) (w : World) (hr : Rs w a n cap rs) :
    Calls Tryd.prog 26 #[shv h (.slice a n cap) whole] w (OwnErr (encErr h rs) (encB h rs whole) w) := by
  obtain ⟨hh, hg⟩ := encErr_zero he
  have hb1 : Below w.heap.size w (w.alloc (.cells #[.int .i64 h.rel, .int .i64 h.mach, .int .i64 h.num, .int .i64 h.per, .int .u64 ((h.print : Nat) : Int), .slice a n cap, .bool whole] 32)) := (Below.refl _ _).alloc (Nat.le_refl _) _
  have hT := heap_alloc_new w (.cells #[.int .i64 h.rel, .int .i64 h.mach, .int .i64 h.num, .int .i64 h.per, .int .u64 ((h.print : Nat) : Int), .slice a n cap, .bool whole] 32)
  have hA1 : w.heap.size < (w.alloc (.cells #[.int .i64 h.rel, .int .i64 h.mach, .int .i64 h.num, .int .i64 h.per, .int .u64 ((h.print : Nat) : Int), .slice a n cap, .bool whole] 32)).heap.size := by simp
  have HR := Lib.hid (hr.below hb1)
  have HN := Lib.hid hr.1
  have hpre := pre_len hh hp
  have hrl := recs_le (fun r hr => (hg r hr).1)
  have HG := Lib.hid hg
  have HE0 := Lib.hid he
  rw [hr.1] at hrl
  obtain ⟨PR, hPR⟩ : ∃ L, lettersV ++ frame (hpay h) = L := ⟨_, rfl⟩
  rw [hPR] at hpre
  have HPR := Lib.hid hPR
  clear hr hg he hPR
  go_enter Tryd.func26, Tryd.ntmps26
  go_upto_region 1 with fail
  generalize (w.alloc (.cells #[.int .i64 h.rel, .int .i64 h.mach, .int .i64 h.num, .int .i64 h.per, .int .u64 ((h.print : Nat) : Int), .slice a n cap, .bool whole] 32)) = w1 at *
  have c0 : w1.cell? ⟨w.heap.size, 0, none⟩ = some (.int .i64 h.rel) := cell_of_row _ _ 0 _ _ _ hT
  have c1 : w1.cell? ⟨w.heap.size, 1, none⟩ = some (.int .i64 h.mach) := cell_of_row _ _ 1 _ _ _ hT
  have c2 : w1.cell? ⟨w.heap.size, 2, none⟩ = some (.int .i64 h.num) := cell_of_row _ _ 2 _ _ _ hT
  have c3 : w1.cell? ⟨w.heap.size, 3, none⟩ = some (.int .i64 h.per) := cell_of_row _ _ 3 _ _ _ hT
  have c4 : w1.cell? ⟨w.heap.size, 4, none⟩ = some (.int .u64 ((h.print : Nat) : Int)) := cell_of_row _ _ 4 _ _ _ hT
  have c5 : w1.cell? ⟨w.heap.size, 5, none⟩ = some (.slice a n cap) := cell_of_row _ _ 5 _ _ _ hT
  have c6 : w1.cell? ⟨w.heap.size, 6, none⟩ = some (.bool whole) := cell_of_row _ _ 6 _ _ _ hT
  go_wp2_with fail
  refine (refBegin_any h hp _).mono ?_
  rintro e w2 ⟨v2, rfl, hown2, hb2⟩
  rw [hh]
  rw [if_pos hh, HPR.out] at hown2
  have hb02 := hb1.trans (hb2.mono hb1.size)
  have hown2 := ownsRow_mono2 (b' := w.heap.size + 1) hown2 (by omega)
  have HO2 := Lib.hid hown2
  have hT2 := (hb2.block w.heap.size hA1).trans hT
  have hA2 : w.heap.size < w2.heap.size := Nat.lt_of_lt_of_le hA1 hb2.size
  have HR2 := Lib.hid (HR.out.below hb2)
  have HH := Lib.hid hh
  have d4 : decide ((4096 : Int) < (n : Int)) = false := by simp; omega
  have q5 : w2.cell? ⟨w.heap.size, 5, none⟩ = some (.slice a n cap) := cell_of_row _ _ 5 _ _ _ hT2
  have q6 : w2.cell? ⟨w.heap.size, 6, none⟩ = some (.bool whole) := cell_of_row _ _ 6 _ _ _ hT2
  clear c0 c1 c2 c3 c4 c5 c6 hown2 hb2 hh hT hT2
  go_wp2_with fail
  go_loopw [6] (fun v25 wr => ∃ k : Nat, k ≤ n ∧ v25 = .int .i64 k ∧ Below w2.heap.size w2 wr) (fun v _ => n - (intOf v).toNat)
  case atStart => exact ⟨0, by omega, rfl, Below.refl _ _⟩
  case round =>
    obtain ⟨k, hk, rfl, hb⟩ := hrel
    have hb0r := hb02.trans (hb.mono hb02.size)
    have r5 := (hb.cell (p := ⟨w.heap.size, 5, none⟩) hA2).trans q5
    have r6 := (hb.cell (p := ⟨w.heap.size, 6, none⟩) hA2).trans q6
    have hAr : w.heap.size < wr.heap.size := Nat.lt_of_lt_of_le hA2 hb.size
    have HRr := Lib.hid (HR2.out.below hb)
    by_cases hlt : k < n
    · have hkl : k < rs.length := by rw [HRr.out.1]; exact hlt
      obtain ⟨b, off, rfl, hbl, hrec⟩ := HRr.out.2.2.2.2 k hlt
      have hgk := HG.out (rs.getD k default) (by simp [List.getD, hkl])
      obtain ⟨r, hrr⟩ : ∃ r, rs.getD k default = r := ⟨_, rfl⟩
      rw [hrr] at hrec hgk
      obtain ⟨ca, cn, cc, ⟨c0, c1, c2, c3, c4, c5, c6⟩, hic⟩ := hrec
      have hcn : cn ≤ 100000 := by have := hic.1; have := hgk.1.chain; omega
      have hz := hgk.1.zero
      have d3 : (r.kind == 3) = false := by simp [hgk.2]
      have HIC := Lib.hid hic
      clear hic hrr hgk
      go_wp2_with fail
      refine (refCheckRecord_any r ca cn cc hcn _ HIC.out).mono ?_
      rintro e w3 ⟨rfl, hb3⟩
      rw [hz]
      have hbk := hb.trans (hb3.mono hb.size)
      have e0 := (hb3.cell (p := ⟨b, off + k * 7, none⟩) hbl).trans c0
      have s5 := (hb3.cell (p := ⟨w.heap.size, 5, none⟩) (Nat.lt_of_lt_of_le hA2 hb.size)).trans r5
      clear hb3 c0 c1 c2 c3 c4 c5 c6 hb hb0r r5 hz
      go_wp2_with fail
      exact ⟨⟨k + 1, by omega, by go_num, hbk⟩, by simp [intOf]; omega⟩
    · obtain rfl : k = n := by omega
      have HOr := Lib.hid (own_below HO2.out hb)
      clear hb
      go_wp2_with fail
      go_loopw [4, 8] (fun v4 v8 wx => ∃ j : Nat, j ≤ k ∧ v8 = .int .i64 j ∧ wx.ownsRow (w.heap.size + 1) 5 1 v4 (PR ++ recs (rs.take j)).length (byts (PR ++ recs (rs.take j))) ∧ Below wr.heap.size wr wx) (fun _ v _ => k - (intOf v).toNat)
      case atStart => exact ⟨0, by omega, rfl, by simpa [recs] using HOr.out, Below.refl _ _⟩
      case round =>
        obtain ⟨j, hj, rfl, hown, hbx⟩ := hrel
        have hb0x := hb0r.trans (hbx.mono hb0r.size)
        have s5 := (hbx.cell (p := ⟨w.heap.size, 5, none⟩) hAr).trans r5
        have s6 := (hbx.cell (p := ⟨w.heap.size, 6, none⟩) hAr).trans r6
        have hle := recs_take_le rs j
        have hLl : (PR ++ recs (rs.take j)).length ≤ 50200 := by rw [List.length_append]; omega
        by_cases hlt2 : j < k
        · have HRx := Lib.hid (HRr.out.below hbx)
          have hjl : j < rs.length := by rw [HRx.out.1]; exact hlt2
          obtain ⟨b, off, rfl, hbl, hrec⟩ := HRx.out.2.2.2.2 j hlt2
          have hgk := HG.out (rs.getD j default) (by simp [List.getD, hjl])
          have hrt := recs_take rs j hjl
          obtain ⟨r, hrr⟩ : ∃ r, rs.getD j default = r := ⟨_, rfl⟩
          rw [hrr] at hrec hgk hrt
          obtain ⟨ca, cn, cc, ⟨c0, c1, c2, c3, c4, c5, c6⟩, hic⟩ := hrec
          have hcn : cn ≤ 4000 := by have := hic.1; have := hgk.1.chain; omega
          have hz := hgk.1.zero
          have HIC := Lib.hid hic
          obtain ⟨LJ, hLJ⟩ : ∃ L, PR ++ recs (rs.take j) = L := ⟨_, rfl⟩
          have hnext : PR ++ recs (rs.take (j + 1)) = LJ ++ frame (pay r) := by rw [hrt, ← List.append_assoc, hLJ]
          rw [hLJ] at hown hLl
          obtain ⟨aj, cj, rfl, hbsj⟩ := Bs.of_own hown
          obtain ⟨lj, hlj⟩ : ∃ l, LJ.length = l := ⟨_, rfl⟩
          rw [hlj] at hbsj hLl ⊢
          have HBJ := Lib.hid hbsj
          have HNX := Lib.hid hnext
          clear hic hrr hgk hrt hLJ hnext hown hbsj hlj hle
          go_wp2_with fail
          refine (refAppend_any aj ca lj cj cn cc LJ r (by omega) hcn _ HBJ.out HIC.out).mono ?_
          rintro e w3 ⟨v3, rfl, hown3, hb3⟩
          rw [hz]
          rw [if_pos hz, ← HNX.out] at hown3
          have HO3 := Lib.hid (ownsRow_mono2 (b' := w.heap.size + 1) hown3 (by have := hbx.size; omega))
          have hbn := hbx.trans (hb3.mono hbx.size)
          clear hown3 hb3 hbx hb0x c0 c1 c2 c3 c4 c5 c6 s5 s6 hz
          go_wp2_with fail
          exact ⟨⟨j + 1, by omega, by go_num, HO3.out, hbn⟩, by simp [intOf]; omega⟩
        · obtain rfl : j = k := by omega
          rw [List.take_of_length_le (by have := HN.out; omega)] at hown hLl
          obtain ⟨LJ, hLJ⟩ : ∃ L, PR ++ recs rs = L := ⟨_, rfl⟩
          rw [hLJ] at hown hLl
          cases whole with
          | false =>
            have hE : encB h rs false = LJ := by unfold encB; rw [HPR.out, hLJ]; simp
            have HE := Lib.hid hE
            obtain ⟨lj, hlj⟩ : ∃ l, LJ.length = l := ⟨_, rfl⟩
            have hown' := hown
            rw [hlj] at hown'
            obtain ⟨aj, cj, rfl, _⟩ := Bs.of_own hown'
            rw [hlj] at hLl
            have dl2 : decide ((1048576 : Int) < (lj : Int)) = false := by simp; omega
            have HO9 := Lib.hid hown
            clear hown hown' hle hLJ hE hlj
            go_wp2_with fail
            go_ret2
            refine ownErr_ok HE0.out ?_ hb0x
            rw [HE.out]
            exact ownsRow_mono2 HO9.out (by omega)
          | true =>
            have hE : encB h rs true = LJ ++ frame (pay ⟨3, 0, 0, 0, 0, 0, []⟩) := by unfold encB; rw [HPR.out, hLJ, pay_3]; simp
            have HE := Lib.hid hE
            obtain ⟨aj, cj, rfl, hbsj⟩ := Bs.of_own hown
            obtain ⟨lj, hlj⟩ : ∃ l, LJ.length = l := ⟨_, rfl⟩
            have hf3 : (frame (pay ⟨3, 0, 0, 0, 0, 0, []⟩)).length ≤ 100 := by rw [pay_3]; unfold frame; simp [le4, uenc_small]
            have hEl : (encB h rs true).length ≤ 60000 := by rw [hE, List.length_append]; omega
            rw [hlj] at hbsj hLl ⊢
            have HBJ := Lib.hid hbsj
            have HEL := Lib.hid hEl
            clear hown hbsj hle hLJ hE hlj hf3 hEl
            go_wp2_with fail
            refine (refAppend_any aj none lj cj 0 0 LJ ⟨3, 0, 0, 0, 0, 0, []⟩ (by omega) (by omega) _ HBJ.out ⟨rfl, Nat.le_refl _, by simp [maxLen], fun _ => rfl, Cells.nil _ _⟩).mono ?_
            rintro e w3 ⟨v3, rfl, hown3, hb3⟩
            rw [good_end.zero]
            rw [if_pos good_end.zero, ← HE.out] at hown3
            obtain ⟨l9, hl9⟩ : ∃ l, (encB h rs true).length = l := ⟨_, rfl⟩
            have hel9 : l9 ≤ 60000 := by rw [← hl9]; exact HEL.out
            have hown4 := hown3
            rw [hl9] at hown4
            obtain ⟨a3, c3', rfl, _⟩ := Bs.of_own hown4
            have dl2 : decide ((1048576 : Int) < (l9 : Int)) = false := by simp; omega
            have HO9 := Lib.hid (ownsRow_mono2 (b' := w.heap.size) hown3 hb0x.size)
            have hend := hb0x.trans (hb3.mono hb0x.size)
            clear hown3 hown4 hb3 hb0x hl9
            go_wp2_with fail
            go_ret2
            exact ownErr_ok HE0.out HO9.out hend
theorem refEncode_all (h : Hd) (a : Option Addr) (n cap : Nat) (rs : List Rc) (whole : Bool) (hp : h.print < 18446744073709551616) (hc : ∀ i, i < n → (rs.getD i default).chain.length ≤ 4000) (hnm : n ≤ 100) (w : World) (hr : Rs w a n cap rs) :
    Calls Tryd.prog 26 #[shv h (.slice a n cap) whole] w (OwnErr (encErr h rs) (encB h rs whole) w) := by
  by_cases he : encErr h rs = 0
  · exact refEncode_good h a n cap rs whole hp hnm he w hr
  · exact refEncode_err h a n cap rs whole hp hc hnm he w hr
end Go.Proofs.YtkgdogccnkjcgaaDoor
