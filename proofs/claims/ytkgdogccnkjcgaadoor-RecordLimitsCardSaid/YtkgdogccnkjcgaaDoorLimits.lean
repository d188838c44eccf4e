/-
  For all inputs a profile of as many records as the limit is encoded and decoded back, and one of one more is refused with the limit's error; no condition beyond the listed table, which is tied.
-/
import Derived.Test.YtkgdogccnkjcgaaDoorDec
import Derived.Test.YtkgdogccnkjcgaaDoorLaidT
import Derived.Test.YtkgdogccnkjcgaaDoorTie
import Derived.Test.YtkgdogccnkjcgaaDoorCards
namespace Go.Proofs.YtkgdogccnkjcgaaDoor.recordLimits
open Go.ChangeShapes Go.WideShapes Go.ChangeAt Go.RowKit
set_option linter.unusedVariables false

def lr (i : Nat) : Rc := ⟨2, 0, 0, 0, (i : Int) % 4096, (i : Int), []⟩
def lls (n : Nat) : List (Rc × Value) := (List.range n).map fun i => (lr i, .slice none 0 0)
def lrs (n : Nat) : List Rc := (List.range n).map lr
theorem lls_map (n : Nat) : (lls n).map (·.1) = lrs n := by simp [lls, lrs]
theorem lls_len (n : Nat) : (lls n).length = n := by simp [lls]
theorem lrs_len (n : Nat) : (lrs n).length = n := by simp [lrs]
theorem lls_succ (n : Nat) : lls (n + 1) = lls n ++ [(lr n, .slice none 0 0)] := by simp [lls, List.range_succ]
theorem lr_good {i : Nat} (h : i ≤ 100000) : Good (lr i) :=
  ⟨rfl, by
    unfold rangeR lr okA
    simp only [Bool.and_eq_true]
    refine ⟨⟨⟨⟨⟨inR_of ⟨by decide, by decide⟩, inR_of ⟨by decide, by decide⟩⟩, inR_of ⟨by decide, by decide⟩⟩, rfl⟩, inR_of ⟨by omega, by omega⟩⟩, inR_of ⟨by omega, by omega⟩⟩, by simp [lr]⟩
theorem lr_pay {i : Nat} (h : i ≤ 16000) : (frame (pay (lr i))).length ≤ 10 := by
  have e : pay (lr i) = uenc 2 ++ (uenc ((i : Int) % 4096).toNat ++ uenc (i : Int).toNat) := pay_cnt _ _
  have h1 := uenc_len 1 ((i : Int) % 4096).toNat (by have : (128 : Nat) ^ (1 + 1) = 16384 := by decide
                                                     omega)
  have h2 := uenc_len 1 (i : Int).toNat (by have : (128 : Nat) ^ (1 + 1) = 16384 := by decide
                                            omega)
  have h3 : (uenc 2).length = 1 := by rw [uenc_small (by decide)]; rfl
  have h4 : (pay (lr i)).length ≤ 5 := by rw [e, List.length_append, List.length_append]; omega
  have h5 : (uenc (pay (lr i)).length).length = 1 := by rw [uenc_small (by omega)]; rfl
  unfold frame
  simp [le4]; omega
theorem lrs_recs : ∀ n, n ≤ 16000 → (recs (lrs n)).length ≤ 10 * n
  | 0, _ => by simp [lrs, recs]
  | n + 1, h => by
    have := lrs_recs n (by omega)
    have h1 := lr_pay (i := n) (by omega)
    have e : lrs (n + 1) = lrs n ++ [lr n] := by simp [lrs, List.range_succ]
    have e2 : recs (lrs (n + 1)) = recs (lrs n) ++ frame (pay (lr n)) := by rw [e]; simp [recs]
    rw [e2, List.length_append]; omega
theorem lrs_get {n i : Nat} (h : i < n) : (lrs n).getD i default = lr i := by simp [lrs, List.getD, h]
/-- the profile under way -/
structure Lm (S : Nat) (v : Value) (wh : Bool) (ls : List (Rc × Value)) (B : Nat) (w0 w : World) : Prop where
  s : w.heap[S]? = some (.cells #[.int .i64 0, .int .i64 0, .int .i64 0, .int .i64 0, .int .u64 0, v, .bool wh] 32 (0, 0))
  own : w.ownsRow (S + 1) 45 7 v ls.length (ls.flatMap rv)
  chains : Chains w (S + 1) ls
  below : Below B w0 w
theorem Lm.lt {S B : Nat} {v : Value} {wh : Bool} {ls : List (Rc × Value)} {w0 w : World} (g : Lm S v wh ls B w0 w) : S < w.heap.size := (Array.getElem?_eq_some_iff.1 g.s).1
theorem Lm.more {S B : Nat} {v : Value} {wh : Bool} {ls : List (Rc × Value)} {w0 w w' : World} (g : Lm S v wh ls B w0 w) (hb : Below w.heap.size w w') (hB : B ≤ S) : Lm S v wh ls B w0 w' :=
  ⟨(hb.block S g.lt).trans g.s, own_below g.own hb, g.chains.below hb, g.below.trans (hb.mono (by have := g.lt; omega))⟩
theorem Lm.push {S B : Nat} {v v' : Value} {wh : Bool} {ls : List (Rc × Value)} {p : Rc × Value} {w0 w w4 : World} (g : Lm S v wh ls B w0 w) (hBS : B ≤ S) (hp : Chains w (S + 1) [p])
    (hown : w4.ownsRow (S + 1) 45 7 v' (ls.length + 1) (ls.flatMap rv ++ rv p)) (hgr : w.grownBy w4 v.ownBlock) : Lm S v' wh (ls ++ [p]) B w0 (w4.setCell ⟨S, 5, none⟩ v') := by
  have ho : ∀ k, v.ownBlock = some k → S + 1 ≤ k := fun k hk => (g.own.lt k hk).1
  have hg5 := grownBy_set w4 S 5 v'
  have hs := (hgr.block S g.lt (fun e => by have := ho S e.symm; omega)).trans g.s
  have hz := hgr.size
  have hl := g.lt
  refine ⟨heap_setCell_same w4 S 5 _ _ _ hs, ?_, ?_, ?_⟩
  · rw [List.length_append, List.flatMap_append]
    have e : [p].flatMap rv = rv p := by simp
    rw [e]
    exact hown.kept hg5 (.inr (fun e => by have := hown.lt _ e; omega))
  · intro q hq
    have hc : Chains w4 (S + 1) (ls ++ [p]) := fun q hq => by
      rcases List.mem_append.1 hq with hq | hq
      · exact g.chains.row g.own hgr q hq
      · exact hp.row g.own hgr q hq
    exact hc.block hg5 (by omega) q hq
  · exact below_grown1 (g.below.grown hgr (by omega) (fun k e => by have := ho k e; omega)) hg5 (by omega) (by omega)
set_option maxRecDepth 100000 in
set_option maxHeartbeats 16000000 in
theorem walk (more whole : Bool) (w : World) (hl : Laid w) :
    Calls Tryd.prog 7 #[.bool more, .bool whole] w fun e w' => e = .returned (.bool true) ∧ Below w.heap.size w w' := by
  obtain ⟨i0, hi0, hz0, hz1, hz2⟩ := info_parts Tryd.info45
  have HL := Lib.hid hl
  clear hl
  cases more
  case true =>
    go_enter Tryd.func7, Tryd.ntmps7
    go_wp2_with fail
    refine (awake_any _ HL.out).mono ?_
    rintro e w1 ⟨rfl, hb1⟩
    have hA : Lm w1.heap.size (.slice none 0 0) whole (lls 0) w.heap.size w (w1.alloc (.cells #[.int .i64 0, .int .i64 0, .int .i64 0, .int .i64 0, .int .u64 0, .slice none 0 0, .bool whole] 32)) :=
      ⟨heap_alloc_new _ _, World.ownsRow_nil _ _ _ _, fun p hp => (by simp [lls] at hp), hb1.alloc hb1.size _⟩
    have hBS := hb1.size
    clear hb1
    go_wp2_with fail
    generalize (w1.alloc (.cells #[.int .i64 0, .int .i64 0, .int .i64 0, .int .i64 0, .int .u64 0, .slice none 0 0, .bool whole] 32)) = w2 at *
    generalize w1.heap.size = S at *
    go_loopw [7] (fun v7 wr => ∃ (i : Nat) (v : Value), v7 = .int .i64 (i : Int) ∧ i ≤ 4097 ∧ Lm S v whole (lls i) w.heap.size w wr) (fun v7 _ => 4097 - (intOf v7).toNat)
    case atStart => exact ⟨0, _, rfl, by omega, hA⟩
    case round =>
      clear hA
      obtain ⟨i, v, rfl, hi, hA⟩ := hrel
      by_cases hlt : i < 4097
      case pos =>
        have hA8 := hA.more ((Below.refl wr.heap.size wr).alloc (Nat.le_refl _) (.cells #[.int .i64 2, .int .i64 0, .int .i64 0, .slice none 0 0, .int .i64 0, .int .i64 ((i : Int) % 4096), .int .i64 (i : Int)] 45)) hBS
        obtain ⟨va, vn, vc, rfl⟩ := own_sl hA8.own
        have hvn := own_len hA8.own
        rw [lls_len] at hvn
        subst hvn
        have HX := Lib.hid (show Chains (wr.alloc (.cells #[.int .i64 2, .int .i64 0, .int .i64 0, .slice none 0 0, .int .i64 0, .int .i64 ((i : Int) % 4096), .int .i64 (i : Int)] 45)) (S + 1) [(lr i, .slice none 0 0)] by
          intro y hy
          rw [List.mem_singleton] at hy
          subst hy
          exact ⟨⟨_, _, _, rfl⟩, World.ownsRow_nil _ _ _ _⟩)
        have HNEW := Lib.hid (show Cells (wr.alloc (.cells #[.int .i64 2, .int .i64 0, .int .i64 0, .slice none 0 0, .int .i64 0, .int .i64 ((i : Int) % 4096), .int .i64 (i : Int)] 45)) (some ⟨wr.heap.size, 0, none⟩) (rv (lr i, .slice none 0 0)) from fun _ => ⟨_, 0, rfl, by simp, fun j u hj => by rw [Nat.zero_add, cell_of_row _ _ _ _ _ _ (heap_alloc_new wr _)]; unfold rv lr at hj; simpa using hj⟩)
        have hown := hA8.own
        rw [lls_len] at hown
        have HOWN := Lib.hid hown
        have hl8 := hA8.lt
        have g5 : wr.cell? ⟨S, 5, none⟩ = some (.slice va i vc) := cell_of_row _ _ 5 _ _ _ hA.s
        have u5 : (wr.alloc (.cells #[.int .i64 2, .int .i64 0, .int .i64 0, .slice none 0 0, .int .i64 0, .int .i64 ((i : Int) % 4096), .int .i64 (i : Int)] 45)).cell? ⟨S, 5, none⟩ = some (.slice va i vc) := cell_of_row _ _ 5 _ _ _ hA8.s
        have u7 : (wr.alloc (.cells #[.int .i64 2, .int .i64 0, .int .i64 0, .slice none 0 0, .int .i64 0, .int .i64 ((i : Int) % 4096), .int .i64 (i : Int)] 45)).frozen? ⟨S, 5, none⟩ = false := unfrozen_of_row hA8.s
        have HA8 := Lib.hid hA8
        have hSw := hA.lt
        clear hA hA8 hown
        have hz7 : (wr.alloc (.cells #[.int .i64 2, .int .i64 0, .int .i64 0, .slice none 0 0, .int .i64 0, .int .i64 ((i : Int) % 4096), .int .i64 (i : Int)] 45)).heap.size = wr.heap.size + 1 := by simp
        go_wp2_with (at_builtin; refine wpList_append_src rfl _ _ _ rfl (S + 1) 45 i0 _ 7 72 Tryd.underlying30 hi0 hz0 hz1 hz2 rfl (by omega) _ _ _ rfl HOWN.out _ 1 1 (rv (lr i, .slice none 0 0)) rfl (Nat.le_refl _) (fun e => by cases e) rfl HNEW.out (by intro u hu; simp [rv] at hu; rcases hu with rfl | rfl | rfl | rfl | rfl | rfl | rfl <;> rfl) (by unfold maxLen; omega) (by omega) (by omega) ?_; intro v8 w8 hown9 hgr9; obtain ⟨va8, vn8, vc8, rfl⟩ := own_sl hown9; have HA9 := Lib.hid (HA8.out.push hBS HX.out (by rw [lls_len]; exact hown9) hgr9); have ho9 := (fun k hk => (HOWN.out.lt k hk).1); have c59 := (hgr9.cell_far ⟨S, 5, none⟩ hl8 (fun e => by have := ho9 S e.symm; omega)).trans u5; have f59 := (hgr9.frozen_far ⟨S, 5, none⟩ hl8 (fun e => by have := ho9 S e.symm; omega)).trans u7; clear hown9 hgr9 ho9)
        exact ⟨⟨i + 1, _, by go_num, by omega, by rw [lls_succ]; exact HA9.out⟩, by simp [intOf]; omega⟩
      obtain rfl : i = 4097 := by omega
      obtain ⟨sa, sc, rfl, hrs⟩ := Rs.of_own hA.own hA.chains
      rw [lls_map] at hrs
      rw [lls_len] at hrs
      have hT := hA.s
      rw [lls_len] at hT
      have hb4 := hA.below
      have hSl := hA.lt
      have HRS := Lib.hid hrs
      have c0 : wr.cell? ⟨S, 0, none⟩ = some (.int .i64 0) := cell_of_row _ _ 0 _ _ _ hT
      have c1 : wr.cell? ⟨S, 1, none⟩ = some (.int .i64 0) := cell_of_row _ _ 1 _ _ _ hT
      have c2 : wr.cell? ⟨S, 2, none⟩ = some (.int .i64 0) := cell_of_row _ _ 2 _ _ _ hT
      have c3 : wr.cell? ⟨S, 3, none⟩ = some (.int .i64 0) := cell_of_row _ _ 3 _ _ _ hT
      have c4 : wr.cell? ⟨S, 4, none⟩ = some (.int .u64 0) := cell_of_row _ _ 4 _ _ _ hT
      have c5 : wr.cell? ⟨S, 5, none⟩ = some (.slice sa 4097 sc) := cell_of_row _ _ 5 _ _ _ hT
      have c6 : wr.cell? ⟨S, 6, none⟩ = some (.bool whole) := cell_of_row _ _ 6 _ _ _ hT
      have hr8 := lrs_recs 4097 (by omega)
      have hll := lrs_len 4097
      obtain ⟨RS, hRS⟩ : ∃ RS, lrs 4097 = RS := ⟨_, rfl⟩
      have HGI := Lib.hid (show ∀ i, i < 4097 → Good (RS.getD i default) ∧ (RS.getD i default).kind ≠ 3 from fun i hi => by rw [← hRS, lrs_get hi]; exact ⟨lr_good (by omega), by simp [lr]⟩)
      have HGM := Lib.hid (show ∀ r ∈ RS, Good r ∧ r.kind ≠ 3 from fun r hr => by
        rw [← hRS] at hr
        obtain ⟨j, hj, rfl⟩ := List.mem_map.1 hr
        exact ⟨lr_good (by have := List.mem_range.1 hj; omega), by simp [lr]⟩)
      rw [hRS] at hr8 hll hrs
      have HRS := Lib.hid hrs
      have HLL := Lib.hid hll
      clear hrs hA hRS hll
      go_wp2_with fail
      refine (Encode_good ⟨0, 0, 0, 0, 0⟩ sa 4097 sc RS whole (by decide) (by decide) HGI.out (by omega) (by omega) _ HRS.out (HL.out.below hb4)).mono ?_
      rintro e w5 (⟨_, rfl, hb5⟩ | ⟨h9, _⟩)
      · have hend := hb4.trans (hb5.mono hb4.size)
        clear c0 c1 c2 c3 c4 c5 c6
        go_wp2_with fail
        go_ret
        exact ⟨rfl, hend⟩
      · omega
  case false =>
    go_enter Tryd.func7, Tryd.ntmps7
    go_wp2_with fail
    refine (awake_any _ HL.out).mono ?_
    rintro e w1 ⟨rfl, hb1⟩
    have hA : Lm w1.heap.size (.slice none 0 0) whole (lls 0) w.heap.size w (w1.alloc (.cells #[.int .i64 0, .int .i64 0, .int .i64 0, .int .i64 0, .int .u64 0, .slice none 0 0, .bool whole] 32)) :=
      ⟨heap_alloc_new _ _, World.ownsRow_nil _ _ _ _, fun p hp => (by simp [lls] at hp), hb1.alloc hb1.size _⟩
    have hBS := hb1.size
    clear hb1
    go_wp2_with fail
    generalize (w1.alloc (.cells #[.int .i64 0, .int .i64 0, .int .i64 0, .int .i64 0, .int .u64 0, .slice none 0 0, .bool whole] 32)) = w2 at *
    generalize w1.heap.size = S at *
    go_loopw [7] (fun v7 wr => ∃ (i : Nat) (v : Value), v7 = .int .i64 (i : Int) ∧ i ≤ 4096 ∧ Lm S v whole (lls i) w.heap.size w wr) (fun v7 _ => 4096 - (intOf v7).toNat)
    case atStart => exact ⟨0, _, rfl, by omega, hA⟩
    case round =>
      clear hA
      obtain ⟨i, v, rfl, hi, hA⟩ := hrel
      by_cases hlt : i < 4096
      case pos =>
        have hA8 := hA.more ((Below.refl wr.heap.size wr).alloc (Nat.le_refl _) (.cells #[.int .i64 2, .int .i64 0, .int .i64 0, .slice none 0 0, .int .i64 0, .int .i64 ((i : Int) % 4096), .int .i64 (i : Int)] 45)) hBS
        obtain ⟨va, vn, vc, rfl⟩ := own_sl hA8.own
        have hvn := own_len hA8.own
        rw [lls_len] at hvn
        subst hvn
        have HX := Lib.hid (show Chains (wr.alloc (.cells #[.int .i64 2, .int .i64 0, .int .i64 0, .slice none 0 0, .int .i64 0, .int .i64 ((i : Int) % 4096), .int .i64 (i : Int)] 45)) (S + 1) [(lr i, .slice none 0 0)] by
          intro y hy
          rw [List.mem_singleton] at hy
          subst hy
          exact ⟨⟨_, _, _, rfl⟩, World.ownsRow_nil _ _ _ _⟩)
        have HNEW := Lib.hid (show Cells (wr.alloc (.cells #[.int .i64 2, .int .i64 0, .int .i64 0, .slice none 0 0, .int .i64 0, .int .i64 ((i : Int) % 4096), .int .i64 (i : Int)] 45)) (some ⟨wr.heap.size, 0, none⟩) (rv (lr i, .slice none 0 0)) from fun _ => ⟨_, 0, rfl, by simp, fun j u hj => by rw [Nat.zero_add, cell_of_row _ _ _ _ _ _ (heap_alloc_new wr _)]; unfold rv lr at hj; simpa using hj⟩)
        have hown := hA8.own
        rw [lls_len] at hown
        have HOWN := Lib.hid hown
        have hl8 := hA8.lt
        have g5 : wr.cell? ⟨S, 5, none⟩ = some (.slice va i vc) := cell_of_row _ _ 5 _ _ _ hA.s
        have u5 : (wr.alloc (.cells #[.int .i64 2, .int .i64 0, .int .i64 0, .slice none 0 0, .int .i64 0, .int .i64 ((i : Int) % 4096), .int .i64 (i : Int)] 45)).cell? ⟨S, 5, none⟩ = some (.slice va i vc) := cell_of_row _ _ 5 _ _ _ hA8.s
        have u7 : (wr.alloc (.cells #[.int .i64 2, .int .i64 0, .int .i64 0, .slice none 0 0, .int .i64 0, .int .i64 ((i : Int) % 4096), .int .i64 (i : Int)] 45)).frozen? ⟨S, 5, none⟩ = false := unfrozen_of_row hA8.s
        have HA8 := Lib.hid hA8
        have hSw := hA.lt
        clear hA hA8 hown
        have hz7 : (wr.alloc (.cells #[.int .i64 2, .int .i64 0, .int .i64 0, .slice none 0 0, .int .i64 0, .int .i64 ((i : Int) % 4096), .int .i64 (i : Int)] 45)).heap.size = wr.heap.size + 1 := by simp
        go_wp2_with (at_builtin; refine wpList_append_src rfl _ _ _ rfl (S + 1) 45 i0 _ 7 72 Tryd.underlying30 hi0 hz0 hz1 hz2 rfl (by omega) _ _ _ rfl HOWN.out _ 1 1 (rv (lr i, .slice none 0 0)) rfl (Nat.le_refl _) (fun e => by cases e) rfl HNEW.out (by intro u hu; simp [rv] at hu; rcases hu with rfl | rfl | rfl | rfl | rfl | rfl | rfl <;> rfl) (by unfold maxLen; omega) (by omega) (by omega) ?_; intro v8 w8 hown9 hgr9; obtain ⟨va8, vn8, vc8, rfl⟩ := own_sl hown9; have HA9 := Lib.hid (HA8.out.push hBS HX.out (by rw [lls_len]; exact hown9) hgr9); have ho9 := (fun k hk => (HOWN.out.lt k hk).1); have c59 := (hgr9.cell_far ⟨S, 5, none⟩ hl8 (fun e => by have := ho9 S e.symm; omega)).trans u5; have f59 := (hgr9.frozen_far ⟨S, 5, none⟩ hl8 (fun e => by have := ho9 S e.symm; omega)).trans u7; clear hown9 hgr9 ho9)
        exact ⟨⟨i + 1, _, by go_num, by omega, by rw [lls_succ]; exact HA9.out⟩, by simp [intOf]; omega⟩
      obtain rfl : i = 4096 := by omega
      obtain ⟨sa, sc, rfl, hrs⟩ := Rs.of_own hA.own hA.chains
      rw [lls_map] at hrs
      rw [lls_len] at hrs
      have hT := hA.s
      rw [lls_len] at hT
      have hb4 := hA.below
      have hSl := hA.lt
      have HRS := Lib.hid hrs
      have c0 : wr.cell? ⟨S, 0, none⟩ = some (.int .i64 0) := cell_of_row _ _ 0 _ _ _ hT
      have c1 : wr.cell? ⟨S, 1, none⟩ = some (.int .i64 0) := cell_of_row _ _ 1 _ _ _ hT
      have c2 : wr.cell? ⟨S, 2, none⟩ = some (.int .i64 0) := cell_of_row _ _ 2 _ _ _ hT
      have c3 : wr.cell? ⟨S, 3, none⟩ = some (.int .i64 0) := cell_of_row _ _ 3 _ _ _ hT
      have c4 : wr.cell? ⟨S, 4, none⟩ = some (.int .u64 0) := cell_of_row _ _ 4 _ _ _ hT
      have c5 : wr.cell? ⟨S, 5, none⟩ = some (.slice sa 4096 sc) := cell_of_row _ _ 5 _ _ _ hT
      have c6 : wr.cell? ⟨S, 6, none⟩ = some (.bool whole) := cell_of_row _ _ 6 _ _ _ hT
      have hr8 := lrs_recs 4096 (by omega)
      have hll := lrs_len 4096
      obtain ⟨RS, hRS⟩ : ∃ RS, lrs 4096 = RS := ⟨_, rfl⟩
      have HGI := Lib.hid (show ∀ i, i < 4096 → Good (RS.getD i default) ∧ (RS.getD i default).kind ≠ 3 from fun i hi => by rw [← hRS, lrs_get hi]; exact ⟨lr_good (by omega), by simp [lr]⟩)
      have HGM := Lib.hid (show ∀ r ∈ RS, Good r ∧ r.kind ≠ 3 from fun r hr => by
        rw [← hRS] at hr
        obtain ⟨j, hj, rfl⟩ := List.mem_map.1 hr
        exact ⟨lr_good (by have := List.mem_range.1 hj; omega), by simp [lr]⟩)
      rw [hRS] at hr8 hll hrs
      have HRS := Lib.hid hrs
      have HLL := Lib.hid hll
      clear hrs hA hRS hll
      go_wp2_with fail
      refine (Encode_good ⟨0, 0, 0, 0, 0⟩ sa 4096 sc RS whole (by decide) (by decide) HGI.out (by omega) (by omega) _ HRS.out (HL.out.below hb4)).mono ?_
      rintro e w5 (⟨h9, _⟩ | ⟨_, v5, rfl, hown5, hb5⟩)
      · omega
      have hel : (encB ⟨0, 0, 0, 0, 0⟩ RS whole).length ≤ 90000 := by
        have h1 := pre_len (h := ⟨0, 0, 0, 0, 0⟩) (by decide) (by decide)
        have h3 : (frame [3]).length = 6 := by unfold frame; simp [le4, uenc_small]
        unfold encB
        rw [List.length_append, List.length_append]
        cases whole
        · rw [show (if false = true then frame [3] else []) = ([] : List Nat) from rfl, List.length_nil]; omega
        · rw [show (if true = true then frame [3] else []) = frame [3] from rfl]; omega
      obtain ⟨E, hE⟩ : ∃ E, encB ⟨0, 0, 0, 0, 0⟩ RS whole = E := ⟨_, rfl⟩
      rw [hE] at hown5 hel
      obtain ⟨a5, cap5, rfl, hbs5⟩ := Bs.of_own hown5
      obtain ⟨ne, hne⟩ : ∃ ne, E.length = ne := ⟨_, rfl⟩
      rw [hne] at hbs5 hel ⊢
      have hT5 := (hb5.block S hSl).trans hT
      have hb45 := hb4.trans (hb5.mono hb4.size)
      have hS5 : S < w5.heap.size := Nat.lt_of_lt_of_le hSl hb5.size
      have HE := Lib.hid hE
      have HB5 := Lib.hid hbs5
      have HRS5 := Lib.hid (HRS.out.below hb5)
      clear c0 c1 c2 c3 c4 c5 c6 hT hSl hb4 hb5 hown5 hbs5 hE hne HRS
      go_wp2_with fail
      refine (Decode_good ⟨0, 0, 0, 0, 0⟩ (by decide) (by decide) RS HGM.out (by rw [HLL.out]; omega) whole a5 ne cap5 _ hel (by rw [HE.out]; exact HB5.out) (HL.out.below hb45)).mono ?_
      rintro e w6 ⟨ls6, v6, rfl, hown6, hch6, hls6, hb6⟩
      obtain ⟨sa6, sc6, rfl, hrs6⟩ := Rs.of_own hown6 hch6
      have hrl6 : ls6.length = 4096 := by rw [← HLL.out, ← hls6]; simp
      rw [hls6] at hrs6
      rw [hrl6] at hrs6 ⊢
      have hal := (Below.refl w6.heap.size w6).alloc (Nat.le_refl _) (.cells #[.int .i64 0, .int .i64 0, .int .i64 0, .int .i64 0, .int .u64 0, .slice sa6 4096 sc6, .bool whole] 32)
      have hb67 := hb6.trans (hal.mono hb6.size)
      have hb7 := hb45.trans (hb67.mono hb45.size)
      have hT7 : (w6.alloc (.cells #[.int .i64 0, .int .i64 0, .int .i64 0, .int .i64 0, .int .u64 0, .slice sa6 4096 sc6, .bool whole] 32)).heap[w6.heap.size]? = some (.cells #[.int .i64 0, .int .i64 0, .int .i64 0, .int .i64 0, .int .u64 0, .slice sa6 4096 sc6, .bool whole] 32 (0, 0)) := heap_alloc_new _ _
      have hU7 := (hb67.block S hS5).trans hT5
      have HRS7 := Lib.hid (HRS5.out.below hb67)
      have HRT7 := Lib.hid (hrs6.below hal)
      clear hrs6 hb6 hal hb67 hT5 HRS5 HB5 hown6 hch6 hls6 hrl6 hb45 hS5
      go_upto_region 15 with fail
      generalize (w6.alloc (.cells #[.int .i64 0, .int .i64 0, .int .i64 0, .int .i64 0, .int .u64 0, .slice sa6 4096 sc6, .bool whole] 32)) = w7 at *
      generalize w6.heap.size = T at *
      have c0 : w7.cell? ⟨S, 0, none⟩ = some (.int .i64 0) := cell_of_row _ _ 0 _ _ _ hU7
      have c1 : w7.cell? ⟨S, 1, none⟩ = some (.int .i64 0) := cell_of_row _ _ 1 _ _ _ hU7
      have c2 : w7.cell? ⟨S, 2, none⟩ = some (.int .i64 0) := cell_of_row _ _ 2 _ _ _ hU7
      have c3 : w7.cell? ⟨S, 3, none⟩ = some (.int .i64 0) := cell_of_row _ _ 3 _ _ _ hU7
      have c4 : w7.cell? ⟨S, 4, none⟩ = some (.int .u64 0) := cell_of_row _ _ 4 _ _ _ hU7
      have c5 : w7.cell? ⟨S, 5, none⟩ = some (.slice sa 4096 sc) := cell_of_row _ _ 5 _ _ _ hU7
      have c6 : w7.cell? ⟨S, 6, none⟩ = some (.bool whole) := cell_of_row _ _ 6 _ _ _ hU7
      have d0 : w7.cell? ⟨T, 0, none⟩ = some (.int .i64 0) := cell_of_row _ _ 0 _ _ _ hT7
      have d1 : w7.cell? ⟨T, 1, none⟩ = some (.int .i64 0) := cell_of_row _ _ 1 _ _ _ hT7
      have d2 : w7.cell? ⟨T, 2, none⟩ = some (.int .i64 0) := cell_of_row _ _ 2 _ _ _ hT7
      have d3 : w7.cell? ⟨T, 3, none⟩ = some (.int .i64 0) := cell_of_row _ _ 3 _ _ _ hT7
      have d4 : w7.cell? ⟨T, 4, none⟩ = some (.int .u64 0) := cell_of_row _ _ 4 _ _ _ hT7
      have d5 : w7.cell? ⟨T, 5, none⟩ = some (.slice sa6 4096 sc6) := cell_of_row _ _ 5 _ _ _ hT7
      have d6 : w7.cell? ⟨T, 6, none⟩ = some (.bool whole) := cell_of_row _ _ 6 _ _ _ hT7
      go_wp2_with fail
      have hcl : ∀ r ∈ RS, r.chain.length ≤ 100000 := fun r hr => by have := (HGM.out r hr).1.chain; omega
      refine (Same_any ⟨0, 0, 0, 0, 0⟩ ⟨0, 0, 0, 0, 0⟩ whole whole sa sa6 4096 4096 sc sc6 RS RS (by omega) (by omega) hcl hcl _ HRS7.out HRT7.out).mono ?_
      rintro e w9 ⟨rfl, hb9⟩
      rw [decide_eq_true ⟨rfl, rfl, rfl⟩]
      have hend := hb7.trans (hb9.mono hb7.size)
      clear hcl hb9 hb7
      go_wp2_with fail
      go_ret
      exact ⟨rfl, hend⟩

/-! ### THE ROW's STEP -/
set_option maxRecDepth 100000 in
theorem lifted (os : Os) (started : os.Started) (H : Type) (enc : TypeId × Value → H) :
    ReturnsInHanded {} Tryd.checked os 7 .any (fun w args => (Rows.recordLimitsSpec.pre enc Tryd.prog Tryd.f7 [] false w args ∧ laidMetH Tryd.prog [("warmpath/codec.remainders", Rows.laid_warmpath_codec_remainders)] w) ∧ sizedMet enc Tryd.prog Tryd.f7 (OpenSpec.ofChange Rows.recordLimitsSpec) false w args)
      (Rows.recordLimitsSpec.post enc Tryd.prog Tryd.f7 false true false false) := by
  refine returnsInHanded_of_change_and (C := Tryd.checked) (X := fun w _ => laidMetH Tryd.prog [("warmpath/codec.remainders", Rows.laid_warmpath_codec_remainders)] w) (fun _ _ _ hh h => h.of_heap hh) own started (by kernel_rfl) Tryd.func7
    (ChangeSpec.witness_shaped (enc := enc) (C := Tryd.checked) (os := os) (X := fun w _ => laidMetH Tryd.prog [("warmpath/codec.remainders", Rows.laid_warmpath_codec_remainders)] w) false (World.doorLaid Tryd.prog 400 os) #[.bool false, .bool false] 8 rfl (World.shaped_of_RefB (by kernel_rfl) (by kernel_rfl)) (by kernel_rfl) (by kernel_rfl) (by kernel_rfl) (door_met os _)) ?_
  intro W base args ds gs before hval0 hW _ _ hL _
  have hval : ∀ (j : Nat) t v, Tryd.f7.params[j]? = some t → args[j]? = some v → Value.okWide Tryd.prog W .any base t v := hval0
  have hW' := hW
  obtain ⟨p, q, hA0, hV, rfl, hfz, hnd⟩ := hW
  have hA : DataW.TrodAll enc Tryd.prog W 0 (fun _ => true) true Tryd.f7.params.toList args.toList ds p := hA0
  rw [Tryd.params7] at hA hval
  obtain ⟨v0, vs0, d0, ds0, p0, q0, hargs, rfl, rfl, h0, r0⟩ := trodAll_cons hA
  obtain ⟨v1, vs1, d1, ds1, p1, q1, rfl, rfl, rfl, h1, r1⟩ := trodAll_cons r0
  obtain ⟨rfl, rfl, rfl⟩ := trodAll_nil r1
  obtain rfl : args = #[v0, v1] := by cases args; simp_all
  obtain ⟨rfl, rfl⟩ := trodVars_none hV
  obtain ⟨a0, rfl, rfl, rfl⟩ := open_bool Tryd.underlying4 (hval 0 4 v0 rfl rfl) h0
  obtain ⟨a1, rfl, rfl, rfl⟩ := open_bool Tryd.underlying4 (hval 1 4 v1 rfl rfl) h1
  clear hA0 hval0
  refine (walk a0 a1 W  (of_laid hL)).mono fun e W' ⟨he, bel⟩ => ?_
  subst he
  exact ⟨_, rfl, _, _, _, [], _, [], hW', trodAll_mk1 (shut_bool Tryd.underlying4 _), (trodAll_cons_mk (shut_bool Tryd.underlying4 a0) (trodAll_cons_mk (shut_bool Tryd.underlying4 a1) trodAll_mk0)), rfl, bel.frame _, fun h => by cases h⟩

theorem over : Rows.RecordLimitsSaid :=
  OpenClaim.holds_of_wide 7 Tryd.f7 rfl rfl rfl rfl rfl rfl rfl ⟨rfl, rfl, rfl, rfl, rfl⟩ rfl rfl rfl rfl rfl (by kernel_rfl) Tryd.func7 (by kernel_rfl)
    (of_decide_eq_true (by kernel_rfl)) (by unfold Func.isWrapper; first | (rw [if_pos (by decide +kernel)]; kernel_rfl) | (rw [if_neg (by decide +kernel)]; exact ⟨rfl, rfl⟩))
    (fun os started H enc _ => lifted os started H enc)

/-- the tied card -/
theorem proved : Rows.RecordLimitsCardSaid :=
  Claim7.holds_tied_plain_at .later [] [.data] true (true, "f64d14c5a3d4b4eaa4502eb95333a910291c6c1f8f25feef7f79f7a8b3cdd731") false
    over (fun _ h => by cases h) (by kernel_rfl) (fun _ h => by cases h) recordLimits_row_tie rfl ⟨rfl, rfl⟩ (by kernel_rfl) rfl
    (fun f fn hf hfn => by
      obtain rfl : f = 7 := Option.some.inj ((show Tryd.prog.funcNamed "warmpath/warmpathlaw22.RecordLimits" = some 7 by kernel_rfl).symm.trans hf) |>.symm
      obtain rfl : fn = Tryd.f7 := (Option.some.inj (Tryd.func7.symm.trans hfn)).symm
      exact ⟨by kernel_rfl, fun j t ht => by
        rw [Tryd.params7] at ht
        have hm : t ∈ [4, 4] := by simpa using Array.mem_of_getElem? ht
        have hall : ([4, 4].all fun u => !Tryd.prog.wantsStandIn u) = true := by kernel_rfl
        exact (show Tryd.prog.wantsStandIn t = false by simpa using List.all_eq_true.1 hall t hm)⟩)
    (by kernel_rfl)
#print axioms proved
end Go.Proofs.YtkgdogccnkjcgaaDoor.recordLimits
