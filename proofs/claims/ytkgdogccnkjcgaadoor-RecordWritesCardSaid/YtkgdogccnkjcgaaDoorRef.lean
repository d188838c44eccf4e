/-
  WALKS of the reference's header, payload, Begin and Append.
-/
import Derived.Test.YtkgdogccnkjcgaaDoorDec
namespace Go.Proofs.YtkgdogccnkjcgaaDoor
open Go.ChangeShapes Go.WideShapes Go.ChangeAt Go.RowKit
theorem up_toNat {l : List Int} (h : ∀ x ∈ l, (0 : Int) ≤ x) : up (l.map Int.toNat) = l := by
  unfold up
  rw [List.map_map]
  conv => rhs; rw [← List.map_id l]
  apply List.map_congr_left
  intro x hx
  have := h x hx
  simp; omega
theorem is_fresh (w : World) (l : List Int) (h : ∀ x ∈ l, (0 : Int) ≤ x) (n : Nat) (hn : l.length = n) (hm : n ≤ 1000) (cs : Array Value) (hc : cs.toList = ints l) : Is (w.alloc (.cells cs 3)) (some ⟨w.heap.size, 0, none⟩) n n (up (l.map Int.toNat)) := by
  rw [up_toNat h]
  refine ⟨hn, Nat.le_refl _, by unfold maxLen; omega, (fun e => by cases e), fun _ => ⟨_, 0, rfl, by simp, fun j u hj => ?_⟩⟩
  rw [Nat.zero_add, cell_of_row _ _ _ _ _ _ (heap_alloc_new w _), ← Array.getElem?_toList, hc]
  exact hj
theorem hd_in {h : Hd} (hh : ckH h = 0) : (0 ≤ h.rel ∧ h.rel ≤ 1073741824) ∧ (0 ≤ h.mach ∧ h.mach ≤ 1073741824) ∧ (0 ≤ h.num ∧ h.num ≤ 1073741824) ∧ (0 ≤ h.per ∧ h.per ≤ 1099511627776) := by
  unfold ckH at hh
  split at hh
  · rename_i h1; simp only [Bool.and_eq_true] at h1; exact ⟨inR_t h1.1.1.1, inR_t h1.1.1.2, inR_t h1.1.2, inR_t h1.2⟩
  · cases hh
set_option maxRecDepth 100000 in
set_option maxHeartbeats 8000000 in
theorem refHeader_any (h : Hd) (hh : ckH h = 0) (hp : h.print < 18446744073709551616) (w : World) : Calls Tryd.prog 39 #[h.val] w (BytMade (hpay h) w) := by
  obtain ⟨r1, r2, r3, r4⟩ := hd_in hh
  have hsm : Small [h.rel.toNat, h.mach.toNat, h.num.toNat, h.per.toNat] := by
    intro x hx
    simp only [List.mem_cons, List.not_mem_nil, or_false] at hx
    rcases hx with rfl | rfl | rfl | rfl <;> omega
  have hl4 := flatL_len _ hsm
  have HNN := Lib.hid (show ∀ x ∈ [h.rel, h.mach, h.num, h.per], (0 : Int) ≤ x by
    intro x hx
    simp only [List.mem_cons, List.not_mem_nil, or_false] at hx
    rcases hx with rfl | rfl | rfl | rfl <;> omega)
  have HSM := Lib.hid hsm
  obtain ⟨F4, hF4⟩ : ∃ F4, flatL [h.rel.toNat, h.mach.toNat, h.num.toNat, h.per.toNat] = F4 := ⟨_, rfl⟩
  rw [hF4] at hl4
  simp only [List.length_cons, List.length_nil] at hl4
  have HF4 := Lib.hid hF4
  have hb0 := (Below.refl w.heap.size w).alloc (Nat.le_refl _) (.cells #[.int .i64 h.rel, .int .i64 h.mach, .int .i64 h.num, .int .i64 h.per, .int .u64 ((h.print : Nat) : Int)] 29)
  have hT := heap_alloc_new w (.cells #[.int .i64 h.rel, .int .i64 h.mach, .int .i64 h.num, .int .i64 h.per, .int .u64 ((h.print : Nat) : Int)] 29)
  have hz0 : (w.alloc (.cells #[.int .i64 h.rel, .int .i64 h.mach, .int .i64 h.num, .int .i64 h.per, .int .u64 ((h.print : Nat) : Int)] 29)).heap.size = w.heap.size + 1 := by simp
  clear r1 r2 r3 r4 hsm hF4
  go_enter Tryd.func39, Tryd.ntmps39
  go_upto_region 1 with fail
  generalize (w.alloc (.cells #[.int .i64 h.rel, .int .i64 h.mach, .int .i64 h.num, .int .i64 h.per, .int .u64 ((h.print : Nat) : Int)] 29)) = w1 at *
  have c0 : w1.cell? ⟨w.heap.size, 0, none⟩ = some (.int .i64 h.rel) := cell_of_row _ _ 0 _ _ _ hT
  have c1 : w1.cell? ⟨w.heap.size, 1, none⟩ = some (.int .i64 h.mach) := cell_of_row _ _ 1 _ _ _ hT
  have c2 : w1.cell? ⟨w.heap.size, 2, none⟩ = some (.int .i64 h.num) := cell_of_row _ _ 2 _ _ _ hT
  have c3 : w1.cell? ⟨w.heap.size, 3, none⟩ = some (.int .i64 h.per) := cell_of_row _ _ 3 _ _ _ hT
  have c4 : w1.cell? ⟨w.heap.size, 4, none⟩ = some (.int .u64 ((h.print : Nat) : Int)) := cell_of_row _ _ 4 _ _ _ hT
  generalize hA : w.heap.size = A at *
  have HA := Lib.hid hA
  clear hA
  have HU := Lib.hid (uints_any none (some ⟨A + 1, 0, none⟩) 0 0 4 4 [] [h.rel.toNat, h.mach.toNat, h.num.toNat, h.per.toNat] (by omega) (by omega) HSM.out ((w1.alloc (.cells #[.int .i64 h.rel, .int .i64 h.mach, .int .i64 h.num, .int .i64 h.per] 3)).drew) (nil_bs _) (by rw [← hz0]; exact (is_fresh w1 [h.rel, h.mach, h.num, h.per] HNN.out 4 rfl (by omega) _ rfl).below (Below.refl _ _).drew))
  have hB1 : Below w1.heap.size w1 ((w1.alloc (.cells #[.int .i64 h.rel, .int .i64 h.mach, .int .i64 h.num, .int .i64 h.per] 3)).drew) := ((Below.refl _ _).alloc (Nat.le_refl _) _).drew
  have hAz : A < ((w1.alloc (.cells #[.int .i64 h.rel, .int .i64 h.mach, .int .i64 h.num, .int .i64 h.per] 3)).drew).heap.size := by have := hB1.size; omega
  have d0 := (hB1.cell (p := ⟨A, 0, none⟩) (show A < w1.heap.size by omega)).trans c0
  have d1 := (hB1.cell (p := ⟨A, 1, none⟩) (show A < w1.heap.size by omega)).trans c1
  have d2 := (hB1.cell (p := ⟨A, 2, none⟩) (show A < w1.heap.size by omega)).trans c2
  have d3 := (hB1.cell (p := ⟨A, 3, none⟩) (show A < w1.heap.size by omega)).trans c3
  have d4 := (hB1.cell (p := ⟨A, 4, none⟩) (show A < w1.heap.size by omega)).trans c4
  have HP := Lib.hid (fun (W : World) (a : Option Addr) (n cap : Nat) (hx : Bs W a n cap ([] ++ flatL [h.rel.toNat, h.mach.toNat, h.num.toNat, h.per.toNat])) => refPutUint_any a n cap h.print ([] ++ flatL [h.rel.toNat, h.mach.toNat, h.num.toNat, h.per.toNat]) (by have := hx.1; rw [List.nil_append, HF4.out] at this; omega) hp W hx)
  go_region_held3 (fun w' => w'.cell? ⟨A, 0, none⟩ = some (.int .i64 h.rel) ∧ w'.cell? ⟨A, 1, none⟩ = some (.int .i64 h.mach) ∧ w'.cell? ⟨A, 2, none⟩ = some (.int .i64 h.num) ∧ w'.cell? ⟨A, 3, none⟩ = some (.int .i64 h.per) ∧ w'.cell? ⟨A, 4, none⟩ = some (.int .u64 ((h.print : Nat) : Int)) ∧ Below w1.heap.size w1 w')
    ((go_split_ands; (repeat' apply And.intro) <;> first | (with_reducible assumption) | (exact c0) | (exact c1) | (exact c2) | (exact c3) | (exact c4) | (exact (Below.refl _ _).drew) | (refine (World.cell?_alloc_lt _ _ _ ?_).trans ?_ <;> first | (with_reducible assumption) | (show A < _; omega)) | (refine Below.alloc (by assumption) ?_ _; exact Below.size (by assumption)) | (exact (hbc.cell (p := ⟨A, 0, none⟩) hAz).trans d0) | (exact (hbc2.cell (p := ⟨A, 0, none⟩) (Nat.lt_of_lt_of_le hAz hbc.size)).trans ((hbc.cell (p := ⟨A, 0, none⟩) hAz).trans d0)) | (exact (hbc.cell (p := ⟨A, 1, none⟩) hAz).trans d1) | (exact (hbc2.cell (p := ⟨A, 1, none⟩) (Nat.lt_of_lt_of_le hAz hbc.size)).trans ((hbc.cell (p := ⟨A, 1, none⟩) hAz).trans d1)) | (exact (hbc.cell (p := ⟨A, 2, none⟩) hAz).trans d2) | (exact (hbc2.cell (p := ⟨A, 2, none⟩) (Nat.lt_of_lt_of_le hAz hbc.size)).trans ((hbc.cell (p := ⟨A, 2, none⟩) hAz).trans d2)) | (exact (hbc.cell (p := ⟨A, 3, none⟩) hAz).trans d3) | (exact (hbc2.cell (p := ⟨A, 3, none⟩) (Nat.lt_of_lt_of_le hAz hbc.size)).trans ((hbc.cell (p := ⟨A, 3, none⟩) hAz).trans d3)) | (exact (hbc.cell (p := ⟨A, 4, none⟩) hAz).trans d4) | (exact (hbc2.cell (p := ⟨A, 4, none⟩) (Nat.lt_of_lt_of_le hAz hbc.size)).trans ((hbc.cell (p := ⟨A, 4, none⟩) hAz).trans d4)) | (exact hB1.trans (hbc.mono hB1.size)) | (exact (hB1.trans (hbc.mono hB1.size)).trans (hbc2.mono (hB1.trans (hbc.mono hB1.size)).size))))
    (first | (go_at_call 59; refine HU.out.mono ?_; rintro e wc ⟨ac, nc, cc, rfl, hbsc, hbc⟩) | (go_at_call 49; refine (HP.out _ _ _ _ (by assumption)).mono ?_; rintro e wc2 ⟨v2, rfl, hown2, hbc2⟩))
  have hend := hb0.trans ((hB1.trans (hbc.mono hB1.size)).trans (hbc2.mono (hB1.trans (hbc.mono hB1.size)).size) |>.mono (by omega))
  have hown3 := ownsRow_mono2 (b' := A) hown2 (by have := (hB1.trans (hbc.mono hB1.size)).size; omega)
  rw [List.nil_append] at hown3
  go_wp2_with fail
  go_ret
  exact ⟨_, rfl, by rw [HA.out]; exact hown3, by rw [HA.out]; exact hend⟩
set_option maxRecDepth 100000 in
set_option maxHeartbeats 8000000 in
theorem refPayload_any (r : Rc) (hg : Good r) (a : Option Addr) (n cap : Nat) (w : World) (h : Is w a n cap r.chain) : Calls Tryd.prog 43 #[r.val (.slice a n cap)] w (BsMade (pay r) w) := by
  obtain ⟨hc, ha, hl, hch, hi, hv⟩ := hg.ranges
  have hcl := hg.chain
  have hn := h.1
  have hk := hg.kind
  have hb0 := (Below.refl w.heap.size w).alloc (Nat.le_refl _) (.cells #[.int .i64 r.kind, .int .i64 r.clock, .int .i64 r.addr, .slice a n cap, .int .i64 r.lost, .int .i64 r.index, .int .i64 r.value] 45)
  have hT := heap_alloc_new w (.cells #[.int .i64 r.kind, .int .i64 r.clock, .int .i64 r.addr, .slice a n cap, .int .i64 r.lost, .int .i64 r.index, .int .i64 r.value] 45)
  have hz0 : (w.alloc (.cells #[.int .i64 r.kind, .int .i64 r.clock, .int .i64 r.addr, .slice a n cap, .int .i64 r.lost, .int .i64 r.index, .int .i64 r.value] 45)).heap.size = w.heap.size + 1 := by simp
  have HI := Lib.hid (h.below hb0)
  have HCH := Lib.hid hch
  have HN := Lib.hid hn
  have hn4 : n ≤ 4000 := by omega
  clear h hch
  by_cases k1 : r.kind = 1
  · have hpay : pay r = [] ++ flatL [r.kind.toNat] ++ uenc (zig r.clock) ++ flatL [r.addr.toNat, r.lost.toNat, n] ++ flatL (nats r.chain) := by
      unfold pay; rw [if_pos k1, hn]; simp [flatL]
    have HPAY := Lib.hid hpay
    have d1 : (r.kind == 1) = true := by simp [k1]
    have HK := Lib.hid k1
    have hk1 : (0 : Int) ≤ r.kind := by omega
    have hk2 : r.kind ≤ 3 := by omega
    have hkl : (flatL [r.kind.toNat]).length = 1 := by simp [flatL, k1, uenc_small]
    have hzl := uenc_len10 (zig_lt (i := r.clock) (by omega) (by omega))
    have hsm3 : Small [r.addr.toNat, r.lost.toNat, n] := by
      intro x hx
      simp only [List.mem_cons, List.not_mem_nil, or_false] at hx
      rcases hx with rfl | rfl | rfl <;> omega
    have hf3 := flatL_len _ hsm3
    simp only [List.length_cons, List.length_nil] at hf3
    obtain ⟨L1, hL1⟩ : ∃ L, [] ++ flatL [r.kind.toNat] = L := ⟨_, rfl⟩
    obtain ⟨L2, hL2⟩ : ∃ L, L1 ++ uenc (zig r.clock) = L := ⟨_, rfl⟩
    obtain ⟨L3, hL3⟩ : ∃ L, L2 ++ flatL [r.addr.toNat, r.lost.toNat, n] = L := ⟨_, rfl⟩
    have l1 : L1.length = 1 := by rw [← hL1]; simpa using hkl
    have l2 : L2.length ≤ 20 := by rw [← hL2, List.length_append]; omega
    have l3 : L3.length ≤ 60 := by rw [← hL3, List.length_append]; omega
    have H1 := Lib.hid hL1
    have H2 := Lib.hid hL2
    have H3 := Lib.hid hL3
    have HS3 := Lib.hid hsm3
    have HZ0 := Lib.hid hz0
    clear hz0 hpay k1 hk hkl hL1 hL2 hL3 hsm3 hf3 hzl hn
    go_enter Tryd.func43, Tryd.ntmps43
    go_upto_region 1 with fail
    generalize (w.alloc (.cells #[.int .i64 r.kind, .int .i64 r.clock, .int .i64 r.addr, .slice a n cap, .int .i64 r.lost, .int .i64 r.index, .int .i64 r.value] 45)) = w1 at *
    have c0 : w1.cell? ⟨w.heap.size, 0, none⟩ = some (.int .i64 r.kind) := cell_of_row _ _ 0 _ _ _ hT
    have c1 : w1.cell? ⟨w.heap.size, 1, none⟩ = some (.int .i64 r.clock) := cell_of_row _ _ 1 _ _ _ hT
    have c2 : w1.cell? ⟨w.heap.size, 2, none⟩ = some (.int .i64 r.addr) := cell_of_row _ _ 2 _ _ _ hT
    have c3 : w1.cell? ⟨w.heap.size, 3, none⟩ = some (.slice a n cap) := cell_of_row _ _ 3 _ _ _ hT
    have c4 : w1.cell? ⟨w.heap.size, 4, none⟩ = some (.int .i64 r.lost) := cell_of_row _ _ 4 _ _ _ hT
    have c5 : w1.cell? ⟨w.heap.size, 5, none⟩ = some (.int .i64 r.index) := cell_of_row _ _ 5 _ _ _ hT
    have c6 : w1.cell? ⟨w.heap.size, 6, none⟩ = some (.int .i64 r.value) := cell_of_row _ _ 6 _ _ _ hT
    go_wp2_with fail
    refine (uints_any none (some ⟨w1.heap.size, 0, none⟩) 0 0 1 1 [] [r.kind.toNat] (by omega) (by omega) (by intro x hx; rw [List.mem_singleton] at hx; subst hx; omega) _ (nil_bs _) (is_fresh w1 [r.kind] (by intro x hx; rw [List.mem_singleton] at hx; subst hx; exact hk1) 1 rfl (by omega) _ rfl)).mono ?_
    rintro e w2 ⟨a2, n2, c2', rfl, hbs2, hb2⟩
    rw [H1.out] at hbs2
    have hn2 := hbs2.1
    rw [l1] at hn2
    subst hn2
    have hb12 : Below w1.heap.size w1 w2 := ((Below.refl w1.heap.size w1).alloc (Nat.le_refl _) _).trans (hb2.mono (by simp))
    have hA1 : w.heap.size < w1.heap.size := by have := HZ0.out; omega
    have HB2 := Lib.hid hbs2
    have b0 : w2.cell? ⟨w.heap.size, 0, none⟩ = some (.int .i64 r.kind) := (hb12.cell (p := ⟨w.heap.size, 0, none⟩) hA1).trans (cell_of_row _ _ 0 _ _ _ hT)
    have b1 : w2.cell? ⟨w.heap.size, 1, none⟩ = some (.int .i64 r.clock) := (hb12.cell (p := ⟨w.heap.size, 1, none⟩) hA1).trans (cell_of_row _ _ 1 _ _ _ hT)
    have b2 : w2.cell? ⟨w.heap.size, 2, none⟩ = some (.int .i64 r.addr) := (hb12.cell (p := ⟨w.heap.size, 2, none⟩) hA1).trans (cell_of_row _ _ 2 _ _ _ hT)
    have b3 : w2.cell? ⟨w.heap.size, 3, none⟩ = some (.slice a n cap) := (hb12.cell (p := ⟨w.heap.size, 3, none⟩) hA1).trans (cell_of_row _ _ 3 _ _ _ hT)
    have b4 : w2.cell? ⟨w.heap.size, 4, none⟩ = some (.int .i64 r.lost) := (hb12.cell (p := ⟨w.heap.size, 4, none⟩) hA1).trans (cell_of_row _ _ 4 _ _ _ hT)
    have b5 : w2.cell? ⟨w.heap.size, 5, none⟩ = some (.int .i64 r.index) := (hb12.cell (p := ⟨w.heap.size, 5, none⟩) hA1).trans (cell_of_row _ _ 5 _ _ _ hT)
    have b6 : w2.cell? ⟨w.heap.size, 6, none⟩ = some (.int .i64 r.value) := (hb12.cell (p := ⟨w.heap.size, 6, none⟩) hA1).trans (cell_of_row _ _ 6 _ _ _ hT)
    clear hb2 hbs2 c0 c1 c2 c3 c4 c5 c6
    go_wp2_with fail
    refine (refPutInt_any a2 1 c2' r.clock L1 (by omega) (by omega) (by omega) _ HB2.out).mono ?_
    rintro e w3 ⟨v3, rfl, hown3, hb3⟩
    rw [H2.out] at hown3
    obtain ⟨a3, c3', rfl, hbs3⟩ := Bs.of_own hown3
    obtain ⟨n3, hn3⟩ : ∃ n3, L2.length = n3 := ⟨_, rfl⟩
    rw [hn3] at hbs3 l2 ⊢
    have hb13 := hb12.trans (hb3.mono hb12.size)
    have hal := (Below.refl w3.heap.size w3).alloc (Nat.le_refl _) (.cells #[.int .i64 r.addr, .int .i64 r.lost, .int .i64 (n : Int)] 3)
    have HB3 := Lib.hid (hbs3.below hal)
    have hb13a := hb13.trans (hal.mono hb13.size)
    have HIS3 := Lib.hid (is_fresh w3 [r.addr, r.lost, (n : Int)] (by intro x hx; simp only [List.mem_cons, List.not_mem_nil, or_false] at hx; rcases hx with rfl | rfl | rfl <;> omega) 3 rfl (by omega) #[.int .i64 r.addr, .int .i64 r.lost, .int .i64 (n : Int)] rfl)
    have hz3 := hb13.size
    have c0 : w3.cell? ⟨w.heap.size, 0, none⟩ = some (.int .i64 r.kind) := (hb13.cell (p := ⟨w.heap.size, 0, none⟩) hA1).trans (cell_of_row _ _ 0 _ _ _ hT)
    have c1 : w3.cell? ⟨w.heap.size, 1, none⟩ = some (.int .i64 r.clock) := (hb13.cell (p := ⟨w.heap.size, 1, none⟩) hA1).trans (cell_of_row _ _ 1 _ _ _ hT)
    have c2 : w3.cell? ⟨w.heap.size, 2, none⟩ = some (.int .i64 r.addr) := (hb13.cell (p := ⟨w.heap.size, 2, none⟩) hA1).trans (cell_of_row _ _ 2 _ _ _ hT)
    have c3 : w3.cell? ⟨w.heap.size, 3, none⟩ = some (.slice a n cap) := (hb13.cell (p := ⟨w.heap.size, 3, none⟩) hA1).trans (cell_of_row _ _ 3 _ _ _ hT)
    have c4 : w3.cell? ⟨w.heap.size, 4, none⟩ = some (.int .i64 r.lost) := (hb13.cell (p := ⟨w.heap.size, 4, none⟩) hA1).trans (cell_of_row _ _ 4 _ _ _ hT)
    have c5 : w3.cell? ⟨w.heap.size, 5, none⟩ = some (.int .i64 r.index) := (hb13.cell (p := ⟨w.heap.size, 5, none⟩) hA1).trans (cell_of_row _ _ 5 _ _ _ hT)
    have c6 : w3.cell? ⟨w.heap.size, 6, none⟩ = some (.int .i64 r.value) := (hb13.cell (p := ⟨w.heap.size, 6, none⟩) hA1).trans (cell_of_row _ _ 6 _ _ _ hT)
    clear hown3 hbs3 hb3 hn3 hb12 b0 b1 b2 b3 b4 b5 b6 hal
    go_wp2_with fail
    refine (uints_any a3 _ n3 c3' 3 3 L2 [r.addr.toNat, r.lost.toNat, n] (by omega) (by omega) HS3.out _ HB3.out HIS3.out).mono ?_
    rintro e w4 ⟨a4, n4, c4', rfl, hbs4, hb4⟩
    rw [H3.out] at hbs4
    have hn4' := hbs4.1
    have hb14 := hb13a.trans (hb4.mono hb13a.size)
    have HB4 := Lib.hid hbs4
    have HI4 := Lib.hid (show Is w4 a n cap (up (nats r.chain)) by rw [up_nats HCH.out]; exact HI.out.below hb14)
    have b0 : w4.cell? ⟨w.heap.size, 0, none⟩ = some (.int .i64 r.kind) := (hb14.cell (p := ⟨w.heap.size, 0, none⟩) hA1).trans (cell_of_row _ _ 0 _ _ _ hT)
    have b1 : w4.cell? ⟨w.heap.size, 1, none⟩ = some (.int .i64 r.clock) := (hb14.cell (p := ⟨w.heap.size, 1, none⟩) hA1).trans (cell_of_row _ _ 1 _ _ _ hT)
    have b2 : w4.cell? ⟨w.heap.size, 2, none⟩ = some (.int .i64 r.addr) := (hb14.cell (p := ⟨w.heap.size, 2, none⟩) hA1).trans (cell_of_row _ _ 2 _ _ _ hT)
    have b3 : w4.cell? ⟨w.heap.size, 3, none⟩ = some (.slice a n cap) := (hb14.cell (p := ⟨w.heap.size, 3, none⟩) hA1).trans (cell_of_row _ _ 3 _ _ _ hT)
    have b4 : w4.cell? ⟨w.heap.size, 4, none⟩ = some (.int .i64 r.lost) := (hb14.cell (p := ⟨w.heap.size, 4, none⟩) hA1).trans (cell_of_row _ _ 4 _ _ _ hT)
    have b5 : w4.cell? ⟨w.heap.size, 5, none⟩ = some (.int .i64 r.index) := (hb14.cell (p := ⟨w.heap.size, 5, none⟩) hA1).trans (cell_of_row _ _ 5 _ _ _ hT)
    have b6 : w4.cell? ⟨w.heap.size, 6, none⟩ = some (.int .i64 r.value) := (hb14.cell (p := ⟨w.heap.size, 6, none⟩) hA1).trans (cell_of_row _ _ 6 _ _ _ hT)
    clear hbs4 hb4 hb13 hb13a c0 c1 c2 c3 c4 c5 c6
    have hn4b : n4 ≤ 50000 := by omega
    clear hn4'
    go_wp2_with fail
    refine (uints_any a4 a n4 c4' n cap L3 (nats r.chain) (by omega) hn4b (nats_small HCH.out) _ HB4.out HI4.out).mono ?_
    rintro e w5 ⟨a5, n5, c5', rfl, hbs5, hb5⟩
    have hend := hb0.trans ((hb14.trans (hb5.mono hb14.size)).mono hb0.size)
    have hfin : Bs w5 a5 n5 c5' (pay r) := by rw [HPAY.out, H1.out, H2.out, H3.out]; exact hbs5
    clear hbs5 hb5 hb14
    go_wp2_with fail
    go_ret
    exact ⟨a5, n5, c5', rfl, hfin, hend⟩
  by_cases k2 : r.kind = 2
  · have hpay : pay r = [] ++ flatL [r.kind.toNat] ++ flatL [r.index.toNat, r.value.toNat] := by
      unfold pay; rw [if_neg k1, if_pos k2]; simp [flatL]
    have HPAY := Lib.hid hpay
    have d1 : (r.kind == 1) = false := by simp [k1]
    have d2 : (r.kind == 2) = true := by simp [k2]
    have hk1 : (0 : Int) ≤ r.kind := by omega
    have hk2 : r.kind ≤ 3 := by omega
    have hkl : (flatL [r.kind.toNat]).length = 1 := by simp [flatL, k2, uenc_small]
    have hsm2 : Small [r.index.toNat, r.value.toNat] := by
      intro x hx
      simp only [List.mem_cons, List.not_mem_nil, or_false] at hx
      rcases hx with rfl | rfl <;> omega
    obtain ⟨L1, hL1⟩ : ∃ L, [] ++ flatL [r.kind.toNat] = L := ⟨_, rfl⟩
    have l1 : L1.length = 1 := by rw [← hL1]; simpa using hkl
    have H1 := Lib.hid hL1
    have HS2 := Lib.hid hsm2
    have HZ0 := Lib.hid hz0
    clear hz0 hpay k1 k2 hk hkl hL1 hsm2 hn
    go_enter Tryd.func43, Tryd.ntmps43
    go_upto_region 1 with fail
    generalize (w.alloc (.cells #[.int .i64 r.kind, .int .i64 r.clock, .int .i64 r.addr, .slice a n cap, .int .i64 r.lost, .int .i64 r.index, .int .i64 r.value] 45)) = w1 at *
    have c0 : w1.cell? ⟨w.heap.size, 0, none⟩ = some (.int .i64 r.kind) := cell_of_row _ _ 0 _ _ _ hT
    have c1 : w1.cell? ⟨w.heap.size, 1, none⟩ = some (.int .i64 r.clock) := cell_of_row _ _ 1 _ _ _ hT
    have c2 : w1.cell? ⟨w.heap.size, 2, none⟩ = some (.int .i64 r.addr) := cell_of_row _ _ 2 _ _ _ hT
    have c3 : w1.cell? ⟨w.heap.size, 3, none⟩ = some (.slice a n cap) := cell_of_row _ _ 3 _ _ _ hT
    have c4 : w1.cell? ⟨w.heap.size, 4, none⟩ = some (.int .i64 r.lost) := cell_of_row _ _ 4 _ _ _ hT
    have c5 : w1.cell? ⟨w.heap.size, 5, none⟩ = some (.int .i64 r.index) := cell_of_row _ _ 5 _ _ _ hT
    have c6 : w1.cell? ⟨w.heap.size, 6, none⟩ = some (.int .i64 r.value) := cell_of_row _ _ 6 _ _ _ hT
    go_wp2_with fail
    refine (uints_any none (some ⟨w1.heap.size, 0, none⟩) 0 0 1 1 [] [r.kind.toNat] (by omega) (by omega) (by intro x hx; rw [List.mem_singleton] at hx; subst hx; omega) _ (nil_bs _) (is_fresh w1 [r.kind] (by intro x hx; rw [List.mem_singleton] at hx; subst hx; exact hk1) 1 rfl (by omega) _ rfl)).mono ?_
    rintro e w2 ⟨a2, n2, c2', rfl, hbs2, hb2⟩
    rw [H1.out] at hbs2
    have hn2 := hbs2.1
    rw [l1] at hn2
    subst hn2
    have hb12 : Below w1.heap.size w1 w2 := ((Below.refl w1.heap.size w1).alloc (Nat.le_refl _) _).trans (hb2.mono (by simp))
    have hA1 : w.heap.size < w1.heap.size := by have := HZ0.out; omega
    have hal := (Below.refl w2.heap.size w2).alloc (Nat.le_refl _) (.cells #[.int .i64 r.index, .int .i64 r.value] 3)
    have HB2 := Lib.hid (hbs2.below hal)
    have hb12a := hb12.trans (hal.mono hb12.size)
    have HIS2 := Lib.hid (is_fresh w2 [r.index, r.value] (by intro x hx; simp only [List.mem_cons, List.not_mem_nil, or_false] at hx; rcases hx with rfl | rfl <;> omega) 2 rfl (by omega) #[.int .i64 r.index, .int .i64 r.value] rfl)
    have hz2 := hb12.size
    have b0 : w2.cell? ⟨w.heap.size, 0, none⟩ = some (.int .i64 r.kind) := (hb12.cell (p := ⟨w.heap.size, 0, none⟩) hA1).trans (cell_of_row _ _ 0 _ _ _ hT)
    have b1 : w2.cell? ⟨w.heap.size, 1, none⟩ = some (.int .i64 r.clock) := (hb12.cell (p := ⟨w.heap.size, 1, none⟩) hA1).trans (cell_of_row _ _ 1 _ _ _ hT)
    have b2 : w2.cell? ⟨w.heap.size, 2, none⟩ = some (.int .i64 r.addr) := (hb12.cell (p := ⟨w.heap.size, 2, none⟩) hA1).trans (cell_of_row _ _ 2 _ _ _ hT)
    have b3 : w2.cell? ⟨w.heap.size, 3, none⟩ = some (.slice a n cap) := (hb12.cell (p := ⟨w.heap.size, 3, none⟩) hA1).trans (cell_of_row _ _ 3 _ _ _ hT)
    have b4 : w2.cell? ⟨w.heap.size, 4, none⟩ = some (.int .i64 r.lost) := (hb12.cell (p := ⟨w.heap.size, 4, none⟩) hA1).trans (cell_of_row _ _ 4 _ _ _ hT)
    have b5 : w2.cell? ⟨w.heap.size, 5, none⟩ = some (.int .i64 r.index) := (hb12.cell (p := ⟨w.heap.size, 5, none⟩) hA1).trans (cell_of_row _ _ 5 _ _ _ hT)
    have b6 : w2.cell? ⟨w.heap.size, 6, none⟩ = some (.int .i64 r.value) := (hb12.cell (p := ⟨w.heap.size, 6, none⟩) hA1).trans (cell_of_row _ _ 6 _ _ _ hT)
    clear hb2 hbs2 c0 c1 c2 c3 c4 c5 c6 hal
    go_wp2_with fail
    refine (uints_any a2 _ 1 c2' 2 2 L1 [r.index.toNat, r.value.toNat] (by omega) (by omega) HS2.out _ HB2.out HIS2.out).mono ?_
    rintro e w5 ⟨a5, n5, c5', rfl, hbs5, hb5⟩
    have hend := hb0.trans ((hb12a.trans (hb5.mono hb12a.size)).mono hb0.size)
    have hfin : Bs w5 a5 n5 c5' (pay r) := by rw [HPAY.out, H1.out]; exact hbs5
    clear hbs5 hb5 hb12a
    go_wp2_with fail
    go_ret
    exact ⟨a5, n5, c5', rfl, hfin, hend⟩
  · have hpay : pay r = [] ++ flatL [r.kind.toNat] := by
      unfold pay; rw [if_neg k1, if_neg k2]; simp [flatL]
    have HPAY := Lib.hid hpay
    have d1 : (r.kind == 1) = false := by simp [k1]
    have d2 : (r.kind == 2) = false := by simp [k2]
    have hk1 : (0 : Int) ≤ r.kind := by omega
    have hk2 : r.kind ≤ 3 := by omega
    have HZ0 := Lib.hid hz0
    clear hz0 hpay k1 k2 hk hn
    go_enter Tryd.func43, Tryd.ntmps43
    go_upto_region 1 with fail
    generalize (w.alloc (.cells #[.int .i64 r.kind, .int .i64 r.clock, .int .i64 r.addr, .slice a n cap, .int .i64 r.lost, .int .i64 r.index, .int .i64 r.value] 45)) = w1 at *
    have c0 : w1.cell? ⟨w.heap.size, 0, none⟩ = some (.int .i64 r.kind) := cell_of_row _ _ 0 _ _ _ hT
    have c1 : w1.cell? ⟨w.heap.size, 1, none⟩ = some (.int .i64 r.clock) := cell_of_row _ _ 1 _ _ _ hT
    have c2 : w1.cell? ⟨w.heap.size, 2, none⟩ = some (.int .i64 r.addr) := cell_of_row _ _ 2 _ _ _ hT
    have c3 : w1.cell? ⟨w.heap.size, 3, none⟩ = some (.slice a n cap) := cell_of_row _ _ 3 _ _ _ hT
    have c4 : w1.cell? ⟨w.heap.size, 4, none⟩ = some (.int .i64 r.lost) := cell_of_row _ _ 4 _ _ _ hT
    have c5 : w1.cell? ⟨w.heap.size, 5, none⟩ = some (.int .i64 r.index) := cell_of_row _ _ 5 _ _ _ hT
    have c6 : w1.cell? ⟨w.heap.size, 6, none⟩ = some (.int .i64 r.value) := cell_of_row _ _ 6 _ _ _ hT
    go_wp2_with fail
    refine (uints_any none (some ⟨w1.heap.size, 0, none⟩) 0 0 1 1 [] [r.kind.toNat] (by omega) (by omega) (by intro x hx; rw [List.mem_singleton] at hx; subst hx; omega) _ (nil_bs _) (is_fresh w1 [r.kind] (by intro x hx; rw [List.mem_singleton] at hx; subst hx; exact hk1) 1 rfl (by omega) _ rfl)).mono ?_
    rintro e w5 ⟨a5, n5, c5', rfl, hbs5, hb5⟩
    have hb12 : Below w1.heap.size w1 w5 := ((Below.refl w1.heap.size w1).alloc (Nat.le_refl _) _).trans (hb5.mono (by simp))
    have hA1 : w.heap.size < w1.heap.size := by have := HZ0.out; omega
    have hend := hb0.trans (hb12.mono hb0.size)
    have hfin : Bs w5 a5 n5 c5' (pay r) := by rw [HPAY.out]; exact hbs5
    have b0 : w5.cell? ⟨w.heap.size, 0, none⟩ = some (.int .i64 r.kind) := (hb12.cell (p := ⟨w.heap.size, 0, none⟩) hA1).trans (cell_of_row _ _ 0 _ _ _ hT)
    have b1 : w5.cell? ⟨w.heap.size, 1, none⟩ = some (.int .i64 r.clock) := (hb12.cell (p := ⟨w.heap.size, 1, none⟩) hA1).trans (cell_of_row _ _ 1 _ _ _ hT)
    have b2 : w5.cell? ⟨w.heap.size, 2, none⟩ = some (.int .i64 r.addr) := (hb12.cell (p := ⟨w.heap.size, 2, none⟩) hA1).trans (cell_of_row _ _ 2 _ _ _ hT)
    have b3 : w5.cell? ⟨w.heap.size, 3, none⟩ = some (.slice a n cap) := (hb12.cell (p := ⟨w.heap.size, 3, none⟩) hA1).trans (cell_of_row _ _ 3 _ _ _ hT)
    have b4 : w5.cell? ⟨w.heap.size, 4, none⟩ = some (.int .i64 r.lost) := (hb12.cell (p := ⟨w.heap.size, 4, none⟩) hA1).trans (cell_of_row _ _ 4 _ _ _ hT)
    have b5 : w5.cell? ⟨w.heap.size, 5, none⟩ = some (.int .i64 r.index) := (hb12.cell (p := ⟨w.heap.size, 5, none⟩) hA1).trans (cell_of_row _ _ 5 _ _ _ hT)
    have b6 : w5.cell? ⟨w.heap.size, 6, none⟩ = some (.int .i64 r.value) := (hb12.cell (p := ⟨w.heap.size, 6, none⟩) hA1).trans (cell_of_row _ _ 6 _ _ _ hT)
    clear hbs5 hb5 hb12 c0 c1 c2 c3 c4 c5 c6
    go_wp2_with fail
    go_ret
    exact ⟨a5, n5, c5', rfl, hfin, hend⟩
set_option maxRecDepth 100000 in
set_option maxHeartbeats 8000000 in
theorem refBegin_any (h : Hd) (hp : h.print < 18446744073709551616) (w : World) : Calls Tryd.prog 16 #[h.val] w (OwnErr (ckH h) (lettersV ++ frame (hpay h)) w) := by
  have hb0 := (Below.refl w.heap.size w).alloc (Nat.le_refl _) (.cells #[.int .i64 h.rel, .int .i64 h.mach, .int .i64 h.num, .int .i64 h.per, .int .u64 ((h.print : Nat) : Int)] 29)
  have hT := heap_alloc_new w (.cells #[.int .i64 h.rel, .int .i64 h.mach, .int .i64 h.num, .int .i64 h.per, .int .u64 ((h.print : Nat) : Int)] 29)
  have hA1 : w.heap.size < (w.alloc (.cells #[.int .i64 h.rel, .int .i64 h.mach, .int .i64 h.num, .int .i64 h.per, .int .u64 ((h.print : Nat) : Int)] 29)).heap.size := by simp
  go_enter Tryd.func16, Tryd.ntmps16
  go_upto_region 1 with fail
  generalize (w.alloc (.cells #[.int .i64 h.rel, .int .i64 h.mach, .int .i64 h.num, .int .i64 h.per, .int .u64 ((h.print : Nat) : Int)] 29)) = w1 at *
  have c0 : w1.cell? ⟨w.heap.size, 0, none⟩ = some (.int .i64 h.rel) := ((Below.refl w1.heap.size w1).cell (p := ⟨w.heap.size, 0, none⟩) hA1).trans (cell_of_row _ _ 0 _ _ _ hT)
  have c1 : w1.cell? ⟨w.heap.size, 1, none⟩ = some (.int .i64 h.mach) := ((Below.refl w1.heap.size w1).cell (p := ⟨w.heap.size, 1, none⟩) hA1).trans (cell_of_row _ _ 1 _ _ _ hT)
  have c2 : w1.cell? ⟨w.heap.size, 2, none⟩ = some (.int .i64 h.num) := ((Below.refl w1.heap.size w1).cell (p := ⟨w.heap.size, 2, none⟩) hA1).trans (cell_of_row _ _ 2 _ _ _ hT)
  have c3 : w1.cell? ⟨w.heap.size, 3, none⟩ = some (.int .i64 h.per) := ((Below.refl w1.heap.size w1).cell (p := ⟨w.heap.size, 3, none⟩) hA1).trans (cell_of_row _ _ 3 _ _ _ hT)
  have c4 : w1.cell? ⟨w.heap.size, 4, none⟩ = some (.int .u64 ((h.print : Nat) : Int)) := ((Below.refl w1.heap.size w1).cell (p := ⟨w.heap.size, 4, none⟩) hA1).trans (cell_of_row _ _ 4 _ _ _ hT)
  go_wp2_with fail
  refine (refCheckHeader_any h _).mono ?_
  rintro e w2 ⟨rfl, hb2⟩
  have hb02 := hb0.trans (hb2.mono hb0.size)
  cases h1 : ckH h with
  | succ k =>
    have d1 : (((k + 1 : Nat) : Int) != 0) = true := by simp; omega
    have d2 : (((k + 1 : Nat) : Int) == 0) = false := by simp; omega
    clear c0 c1 c2 c3 c4
    go_wp2_with fail
    go_ret2
    exact ownErr_no h1 hb02
  | zero =>
    have hA2 : w.heap.size < w2.heap.size := Nat.lt_of_lt_of_le hA1 hb2.size
    have hal := (Below.refl w2.heap.size w2).alloc (Nat.le_refl _) (.cells #[.int .u8 87, .int .u8 80, .int .u8 70, .int .u8 49] 5)
    have hb12a := hb2.trans (hal.mono hb2.size)
    have hsh : (w2.alloc (.cells #[.int .u8 87, .int .u8 80, .int .u8 70, .int .u8 49] 5)).shape? w2.heap.size = some (5, 4) := by unfold World.shape?; rw [heap_alloc_new]; rfl
    obtain ⟨w3, hrun, hkp⟩ := run_mark (P := Tryd.prog) (w := w2.alloc (.cells #[.int .u8 87, .int .u8 80, .int .u8 70, .int .u8 49] 5)) (b := w2.heap.size) (n := 4) (c := 4) Tryd.underlying22 Tryd.underlying5 hsh
    have hk := hkp w2.heap.size (Nat.le_refl _)
    have hb13 : Below w1.heap.size w1 w3 := hb12a.trans (hk.below.mono hb2.size)
    have hbsL : Bs w3 (some ⟨w2.heap.size, 0, none⟩) 4 4 lettersV := by
      refine Bs.keeps (B := w2.heap.size) ⟨rfl, Nat.le_refl _, by simp [maxLen], (fun e => by cases e), fun _ => ⟨_, 0, rfl, by simp, fun j u hj => ?_⟩⟩ hk
      rw [Nat.zero_add, cell_of_row _ _ _ _ _ _ (heap_alloc_new w2 _), ← Array.getElem?_toList]
      exact hj
    have HBL := Lib.hid hbsL
    have hb03 := hb0.trans (hb13.mono hb0.size)
    have hbp := hpay_byt h
    have b0 : w3.cell? ⟨w.heap.size, 0, none⟩ = some (.int .i64 h.rel) := ((hb13).cell (p := ⟨w.heap.size, 0, none⟩) hA1).trans (cell_of_row _ _ 0 _ _ _ hT)
    have b1 : w3.cell? ⟨w.heap.size, 1, none⟩ = some (.int .i64 h.mach) := ((hb13).cell (p := ⟨w.heap.size, 1, none⟩) hA1).trans (cell_of_row _ _ 1 _ _ _ hT)
    have b2 : w3.cell? ⟨w.heap.size, 2, none⟩ = some (.int .i64 h.num) := ((hb13).cell (p := ⟨w.heap.size, 2, none⟩) hA1).trans (cell_of_row _ _ 2 _ _ _ hT)
    have b3 : w3.cell? ⟨w.heap.size, 3, none⟩ = some (.int .i64 h.per) := ((hb13).cell (p := ⟨w.heap.size, 3, none⟩) hA1).trans (cell_of_row _ _ 3 _ _ _ hT)
    have b4 : w3.cell? ⟨w.heap.size, 4, none⟩ = some (.int .u64 ((h.print : Nat) : Int)) := ((hb13).cell (p := ⟨w.heap.size, 4, none⟩) hA1).trans (cell_of_row _ _ 4 _ _ _ hT)
    clear hal hsh hkp hk hb12a hb02 hb2 c0 c1 c2 c3 c4 hbsL
    have HH := Lib.hid h1
    clear h1
    go_wp2_with fail
    refine (refHeader_any h HH.out hp _).mono ?_
    rintro e w4 ⟨v4, rfl, hown4, hb4⟩
    obtain ⟨a4, c4', rfl, hbs4⟩ := Bs.of_own hown4
    have hsm := hpay_len h (by
      obtain ⟨r1, r2, r3, r4⟩ := hd_in HH.out
      intro x hx
      simp only [List.mem_cons, List.not_mem_nil, or_false] at hx
      rcases hx with rfl | rfl | rfl | rfl <;> omega) hp
    obtain ⟨n4, hn4⟩ : ∃ n, (hpay h).length = n := ⟨_, rfl⟩
    rw [hn4] at hbs4 hsm ⊢
    have HBL4 := Lib.hid (HBL.out.below hb4)
    have HB4 := Lib.hid hbs4
    have HN4 := Lib.hid hn4
    have hb04 := hb03.trans (hb4.mono hb03.size)
    clear b0 b1 b2 b3 b4 hown4 hbs4 hn4 hb4
    go_wp2_with fail
    refine (refPutFrame_any _ a4 4 4 n4 c4' lettersV (hpay h) (by omega) (by omega) hbp _ HBL4.out HB4.out).mono ?_
    rintro e w5 (⟨h9, _⟩ | ⟨_, v5, rfl, hown5, hb5⟩)
    · have := HN4.out; omega
    have hb05 := hb04.trans (hb5.mono hb04.size)
    have hown6 := ownsRow_mono2 (b' := w.heap.size) hown5 hb04.size
    clear hb5 hown5
    go_wp2_with fail
    go_ret2
    exact ownErr_ok HH.out hown6 hb05
set_option maxRecDepth 100000 in
set_option maxHeartbeats 8000000 in
theorem refAppend_any (a a' : Option Addr) (n cap n' cap' : Nat) (zs : List Nat) (r : Rc) (hn : n ≤ 90000) (hn' : n' ≤ 4000) (w : World) (h : Bs w a n cap zs) (h' : Is w a' n' cap' r.chain) :
    Calls Tryd.prog 22 #[.slice a n cap, r.val (.slice a' n' cap')] w (OwnErr (ckR r) (zs ++ frame (pay r)) w) := by
  have hb0 := (Below.refl w.heap.size w).alloc (Nat.le_refl _) (.cells #[.int .i64 r.kind, .int .i64 r.clock, .int .i64 r.addr, .slice a' n' cap', .int .i64 r.lost, .int .i64 r.index, .int .i64 r.value] 45)
  have hT := heap_alloc_new w (.cells #[.int .i64 r.kind, .int .i64 r.clock, .int .i64 r.addr, .slice a' n' cap', .int .i64 r.lost, .int .i64 r.index, .int .i64 r.value] 45)
  have hA1 : w.heap.size < (w.alloc (.cells #[.int .i64 r.kind, .int .i64 r.clock, .int .i64 r.addr, .slice a' n' cap', .int .i64 r.lost, .int .i64 r.index, .int .i64 r.value] 45)).heap.size := by simp
  have HB0 := Lib.hid (h.below hb0)
  have HI0 := Lib.hid (h'.below hb0)
  clear h h'
  go_enter Tryd.func22, Tryd.ntmps22
  go_upto_region 1 with fail
  generalize (w.alloc (.cells #[.int .i64 r.kind, .int .i64 r.clock, .int .i64 r.addr, .slice a' n' cap', .int .i64 r.lost, .int .i64 r.index, .int .i64 r.value] 45)) = w1 at *
  have c0 : w1.cell? ⟨w.heap.size, 0, none⟩ = some (.int .i64 r.kind) := ((Below.refl w1.heap.size w1).cell (p := ⟨w.heap.size, 0, none⟩) hA1).trans (cell_of_row _ _ 0 _ _ _ hT)
  have c1 : w1.cell? ⟨w.heap.size, 1, none⟩ = some (.int .i64 r.clock) := ((Below.refl w1.heap.size w1).cell (p := ⟨w.heap.size, 1, none⟩) hA1).trans (cell_of_row _ _ 1 _ _ _ hT)
  have c2 : w1.cell? ⟨w.heap.size, 2, none⟩ = some (.int .i64 r.addr) := ((Below.refl w1.heap.size w1).cell (p := ⟨w.heap.size, 2, none⟩) hA1).trans (cell_of_row _ _ 2 _ _ _ hT)
  have c3 : w1.cell? ⟨w.heap.size, 3, none⟩ = some ((.slice a' n' cap')) := ((Below.refl w1.heap.size w1).cell (p := ⟨w.heap.size, 3, none⟩) hA1).trans (cell_of_row _ _ 3 _ _ _ hT)
  have c4 : w1.cell? ⟨w.heap.size, 4, none⟩ = some (.int .i64 r.lost) := ((Below.refl w1.heap.size w1).cell (p := ⟨w.heap.size, 4, none⟩) hA1).trans (cell_of_row _ _ 4 _ _ _ hT)
  have c5 : w1.cell? ⟨w.heap.size, 5, none⟩ = some (.int .i64 r.index) := ((Below.refl w1.heap.size w1).cell (p := ⟨w.heap.size, 5, none⟩) hA1).trans (cell_of_row _ _ 5 _ _ _ hT)
  have c6 : w1.cell? ⟨w.heap.size, 6, none⟩ = some (.int .i64 r.value) := ((Below.refl w1.heap.size w1).cell (p := ⟨w.heap.size, 6, none⟩) hA1).trans (cell_of_row _ _ 6 _ _ _ hT)
  go_wp2_with fail
  refine (refCheckRecord_any r a' n' cap' (by omega) _ HI0.out).mono ?_
  rintro e w2 ⟨rfl, hb2⟩
  have hb02 := hb0.trans (hb2.mono hb0.size)
  cases h1 : ckR r with
  | succ k =>
    have d1 : (((k + 1 : Nat) : Int) != 0) = true := by simp; omega
    have d2 : (((k + 1 : Nat) : Int) == 0) = false := by simp; omega
    clear c0 c1 c2 c3 c4 c5 c6
    go_wp2_with fail
    go_ret2
    exact ownErr_no h1 hb02
  | zero =>
    have HB2 := Lib.hid (HB0.out.below hb2)
    have HI2 := Lib.hid (HI0.out.below hb2)
    have HH := Lib.hid h1
    have b0 : w2.cell? ⟨w.heap.size, 0, none⟩ = some (.int .i64 r.kind) := ((hb2).cell (p := ⟨w.heap.size, 0, none⟩) hA1).trans (cell_of_row _ _ 0 _ _ _ hT)
    have b1 : w2.cell? ⟨w.heap.size, 1, none⟩ = some (.int .i64 r.clock) := ((hb2).cell (p := ⟨w.heap.size, 1, none⟩) hA1).trans (cell_of_row _ _ 1 _ _ _ hT)
    have b2 : w2.cell? ⟨w.heap.size, 2, none⟩ = some (.int .i64 r.addr) := ((hb2).cell (p := ⟨w.heap.size, 2, none⟩) hA1).trans (cell_of_row _ _ 2 _ _ _ hT)
    have b3 : w2.cell? ⟨w.heap.size, 3, none⟩ = some ((.slice a' n' cap')) := ((hb2).cell (p := ⟨w.heap.size, 3, none⟩) hA1).trans (cell_of_row _ _ 3 _ _ _ hT)
    have b4 : w2.cell? ⟨w.heap.size, 4, none⟩ = some (.int .i64 r.lost) := ((hb2).cell (p := ⟨w.heap.size, 4, none⟩) hA1).trans (cell_of_row _ _ 4 _ _ _ hT)
    have b5 : w2.cell? ⟨w.heap.size, 5, none⟩ = some (.int .i64 r.index) := ((hb2).cell (p := ⟨w.heap.size, 5, none⟩) hA1).trans (cell_of_row _ _ 5 _ _ _ hT)
    have b6 : w2.cell? ⟨w.heap.size, 6, none⟩ = some (.int .i64 r.value) := ((hb2).cell (p := ⟨w.heap.size, 6, none⟩) hA1).trans (cell_of_row _ _ 6 _ _ _ hT)
    clear c0 c1 c2 c3 c4 c5 c6 h1 hb2
    go_wp2_with fail
    refine (refPayload_any r (good_of HH.out) a' n' cap' _ HI2.out).mono ?_
    rintro e w4 ⟨a4, n4, c4', rfl, hbs4, hb4⟩
    have hsm := pay_len (good_of HH.out)
    have hn4 := hbs4.1
    have HB4 := Lib.hid hbs4
    have HBZ := Lib.hid (HB2.out.below hb4)
    have hb04 := hb02.trans (hb4.mono hb02.size)
    have hbp := pay_byt r
    have hn4b : n4 ≤ 400 := by omega
    have HP4 := Lib.hid (show (pay r).length ≤ 400 from hsm)
    clear b0 b1 b2 b3 b4 b5 b6 hbs4 hn4 hb4 hsm hb02
    go_wp2_with fail
    refine (refPutFrame_any a a4 n cap n4 c4' zs (pay r) (by omega) (by omega) hbp _ HBZ.out HB4.out).mono ?_
    rintro e w5 (⟨h9, _⟩ | ⟨_, v5, rfl, hown5, hb5⟩)
    · have := HP4.out; omega
    have hb05 := hb04.trans (hb5.mono hb04.size)
    have hown6 := ownsRow_mono2 (b' := w.heap.size) hown5 hb04.size
    clear hb5 hown5
    go_wp2_with fail
    go_ret2
    exact ownErr_ok HH.out hown6 hb05
end Go.Proofs.YtkgdogccnkjcgaaDoor
