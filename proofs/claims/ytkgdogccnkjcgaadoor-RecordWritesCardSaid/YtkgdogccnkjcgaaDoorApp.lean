/-
  WALK of Append.
-/
import Derived.Test.YtkgdogccnkjcgaaDoorBegin
namespace Go.Proofs.YtkgdogccnkjcgaaDoor
open Go.ChangeShapes Go.WideShapes Go.ChangeAt Go.RowKit
def nats (l : List Int) : List Nat := l.map Int.toNat
theorem up_nats {l : List Int} (h : l.all okA = true) : up (nats l) = l := by
  unfold up nats
  rw [List.map_map]
  conv => rhs; rw [← List.map_id l]
  apply List.map_congr_left
  intro x hx
  have := inR_t (List.all_eq_true.1 h x hx)
  show ((x.toNat : Nat) : Int) = x
  omega
theorem nats_small {l : List Int} (h : l.all okA = true) : Small (nats l) := by
  intro x hx
  obtain ⟨y, hy, rfl⟩ := List.mem_map.1 hx
  have := inR_t (List.all_eq_true.1 h y hy)
  omega
/-- the payload of a record -/
def pay (r : Rc) : List Nat :=
  if r.kind = 1 then uenc r.kind.toNat ++ uenc (zig r.clock) ++ flatL [r.addr.toNat, r.lost.toNat, r.chain.length] ++ flatL (nats r.chain)
  else if r.kind = 2 then uenc r.kind.toNat ++ flatL [r.index.toNat, r.value.toNat]
  else uenc r.kind.toNat
/-- what a right record is -/
structure Good (r : Rc) : Prop where
  form : formR r = true
  range : rangeR r = true
  chain : r.chain.length ≤ 32
theorem good_of {r : Rc} (h : ckR r = 0) : Good r := by
  unfold ckR at h
  split at h
  · cases h
  · split at h
    · cases h
    · split at h
      · cases h
      · rename_i h1 h2 h3
        exact ⟨by simpa using h1, by simpa using h2, by omega⟩
theorem Good.zero {r : Rc} (h : Good r) : ckR r = 0 := by
  unfold ckR; rw [if_neg (by rw [h.form]; simp), if_neg (by rw [h.range]; simp), if_neg (by have := h.chain; omega)]
theorem Good.ranges {r : Rc} (h : Good r) : (-1125899906842624 ≤ r.clock ∧ r.clock ≤ 1125899906842624) ∧ (0 ≤ r.addr ∧ r.addr ≤ 1048576) ∧ (0 ≤ r.lost ∧ r.lost ≤ 1073741824) ∧ r.chain.all okA = true ∧ (0 ≤ r.index ∧ r.index ≤ 4095) ∧ (0 ≤ r.value ∧ r.value ≤ 1099511627776) := by
  have := h.range
  unfold rangeR at this
  simp only [Bool.and_eq_true] at this
  obtain ⟨⟨⟨⟨⟨h1, h2⟩, h3⟩, h4⟩, h5⟩, h6⟩ := this
  exact ⟨inR_t h1, inR_t h2, inR_t h3, h4, inR_t h5, inR_t h6⟩
theorem Good.kind {r : Rc} (h : Good r) : r.kind = 1 ∨ r.kind = 2 ∨ r.kind = 3 := by
  have := h.form
  unfold formR at this
  by_cases k1 : r.kind = 1
  · exact .inl k1
  · rw [if_neg k1] at this
    by_cases k2 : r.kind = 2
    · exact .inr (.inl k2)
    · rw [if_neg k2] at this
      by_cases k3 : r.kind = 3
      · exact .inr (.inr k3)
      · rw [if_neg k3] at this; cases this
theorem kind_len {r : Rc} (h : Good r) : (uenc r.kind.toNat).length = 1 := by
  rcases h.kind with e | e | e <;> rw [e] <;> rw [uenc_small (by decide)] <;> rfl
theorem pay_len {r : Rc} (h : Good r) : (pay r).length ≤ 400 := by
  have hk := kind_len h
  obtain ⟨h1, h2, h3, h4, h5, h6⟩ := h.ranges
  have hz := uenc_len10 (zig_lt (i := r.clock) (by omega) (by omega))
  have hc := h.chain
  have f1 := flatL_len [r.addr.toNat, r.lost.toNat, r.chain.length] (by intro x hx; simp only [List.mem_cons, List.not_mem_nil, or_false] at hx; rcases hx with rfl | rfl | rfl <;> omega)
  have f2 := flatL_len [r.index.toNat, r.value.toNat] (by intro x hx; simp only [List.mem_cons, List.not_mem_nil, or_false] at hx; rcases hx with rfl | rfl <;> omega)
  have f3 := flatL_len (nats r.chain) (nats_small h4)
  have hn : (nats r.chain).length = r.chain.length := by unfold nats; simp
  simp only [List.length_cons, List.length_nil] at f1 f2
  unfold pay
  split
  · simp only [List.length_append]; omega
  · split
    · simp only [List.length_append]; omega
    · omega
theorem pay_byt (r : Rc) : Byt (pay r) := by
  unfold pay
  split
  · exact Byt.append (Byt.append (Byt.append (uenc_byt _) (uenc_byt _)) (flatL_byt _)) (flatL_byt _)
  · split
    · exact Byt.append (uenc_byt _) (flatL_byt _)
    · exact uenc_byt _
/-- what is known behind each operation of the fourth statement of Append -/
def appK (T : Nat) (r : Rc) (s v7 : Value) (n' : Nat) : Nat → Know
  | 0 => .fix v7
  | 1 => .fix (.pointer (some ⟨T, 0, none⟩))
  | 2 => .fix (.int .i64 r.clock)
  | 3 => .bs (uenc r.kind.toNat ++ uenc (zig r.clock))
  | 4 => .fix (.pointer (some ⟨T, 1, none⟩))
  | 5 => .fix (.int .i64 r.addr)
  | 6 => .fix (.pointer (some ⟨T, 3, none⟩))
  | 7 => .fix (.int .i64 r.lost)
  | 8 => .fix (.pointer (some ⟨T, 2, none⟩))
  | 9 => .fix s
  | 10 => .fix (.int .i64 ((n' : Nat) : Int))
  | 11 => .is (up [r.addr.toNat, r.lost.toNat, n'])
  | 12 => .bs (uenc r.kind.toNat ++ uenc (zig r.clock) ++ flatL [r.addr.toNat, r.lost.toNat, n'])
  | 13 => .fix (.pointer (some ⟨T, 2, none⟩))
  | 14 => .fix s
  | 15 => .bs (uenc r.kind.toNat ++ uenc (zig r.clock) ++ flatL [r.addr.toNat, r.lost.toNat, n'] ++ flatL (nats r.chain))
  | _ => .bs (uenc r.kind.toNat ++ uenc (zig r.clock) ++ flatL [r.addr.toNat, r.lost.toNat, n'] ++ flatL (nats r.chain))
set_option maxRecDepth 100000 in
set_option maxHeartbeats 16000000 in
theorem Append_any (a a' : Option Addr) (n cap n' cap' : Nat) (zs : List Nat) (r : Rc) (hn : n ≤ 90000) (hn' : n' ≤ 4000) (w : World) (h : Bs w a n cap zs) (h' : Is w a' n' cap' r.chain) (hl : Laid w) :
    Calls Tryd.prog 21 #[.slice a n cap, r.val (.slice a' n' cap')] w (OwnErr (ckR r) (zs ++ frame (pay r)) w) := by
  have HB := Lib.hid h
  have HC := Lib.hid h'
  have HL := Lib.hid hl
  have hn'' := h'.1
  clear h h' hl
  have hb1 : Below w.heap.size w (w.alloc (.cells #[.int .i64 r.kind, .int .i64 r.clock, .int .i64 r.addr, .slice a' n' cap', .int .i64 r.lost, .int .i64 r.index, .int .i64 r.value] 45)) := (Below.refl _ _).alloc (Nat.le_refl _) _
  have HC1 := Lib.hid (HC.out.below hb1)
  go_enter Tryd.func21, Tryd.ntmps21
  go_wp2_with fail
  refine (CheckRecord_any r a' n' cap' (by omega) _ HC1.out).mono ?_
  rintro e w1 ⟨rfl, hb2⟩
  have hb01 := hb1.trans (hb2.mono (by simp))
  cases h1 : ckR r with
  | succ k =>
    have d1 : (((k + 1 : Nat) : Int) != 0) = true := by simp; omega
    go_wp2_with fail
    go_ret2
    exact ownErr_no h1 hb01
  | zero =>
  have HG := Lib.hid (good_of h1)
  obtain ⟨r1, r2, r3, r4, r5, r6⟩ := HG.out.ranges
  have hkl := kind_len HG.out
  have hch := HG.out.chain
  have hk0 : 0 ≤ r.kind := by rcases HG.out.kind with e | e | e <;> omega
  have g := fun i v (hv : (#[.int .i64 r.kind, .int .i64 r.clock, .int .i64 r.addr, .slice a' n' cap', .int .i64 r.lost, .int .i64 r.index, .int .i64 r.value] : Array Value)[i]? = some v) => (hb2.cell (p := ⟨w.heap.size, i, none⟩) (by simp)).trans ((cell_of_row _ _ _ _ _ _ (heap_alloc_new w _)).trans hv)
  have b0 : w1.cell? ⟨w.heap.size, 0, none⟩ = some (.int .i64 r.kind) := g 0 _ rfl
  have b1 : w1.cell? ⟨w.heap.size, 1, none⟩ = some (.int .i64 r.clock) := g 1 _ rfl
  have b2 : w1.cell? ⟨w.heap.size, 2, none⟩ = some (.int .i64 r.addr) := g 2 _ rfl
  have b3 : w1.cell? ⟨w.heap.size, 3, none⟩ = some (.slice a' n' cap') := g 3 _ rfl
  have b4 : w1.cell? ⟨w.heap.size, 4, none⟩ = some (.int .i64 r.lost) := g 4 _ rfl
  have b5 : w1.cell? ⟨w.heap.size, 5, none⟩ = some (.int .i64 r.index) := g 5 _ rfl
  have b6 : w1.cell? ⟨w.heap.size, 6, none⟩ = some (.int .i64 r.value) := g 6 _ rfl
  have hs1 : w.heap.size < w1.heap.size := by have := hb2.size; simp at this; omega
  clear g hb2 HC1 hb1
  generalize hA : w.heap.size = A at *
  have hksm : Small [r.kind.toNat] := by intro x hx; simp only [List.mem_cons, List.not_mem_nil, or_false] at hx; subst hx; rcases HG.out.kind with e | e | e <;> omega
  have hkis : Is (w1.alloc (.cells #[.int .i64 r.kind] 3)) (some ⟨w1.heap.size, 0, none⟩) 1 1 (up [r.kind.toNat]) := by
    refine ⟨rfl, Nat.le_refl _, by simp [maxLen], (fun e => by cases e), fun _ => ⟨_, _, rfl, by simp, fun j u hj => ?_⟩⟩
    rw [cell_of_row _ _ _ _ _ _ (heap_alloc_new w1 _), Nat.zero_add]
    have q1 := Int.toNat_of_nonneg hk0
    simpa [q1] using hj
  have HKI := Lib.hid hkis
  have HKS := Lib.hid hksm
  clear hkis hksm
  go_wp2_with fail
  refine (put_any none _ 0 0 1 1 [] [r.kind.toNat] (by omega) (by omega) HKS.out _ (nil_bs _) HKI.out).mono ?_
  rintro e wq ⟨aq, nq, cq, rfl, hbsq, hbq⟩
  rw [List.nil_append, show flatL [r.kind.toNat] = uenc r.kind.toNat by simp [flatL]] at hbsq
  have hb0q : Below A w wq := hb01.trans (((Below.refl A w1).alloc (Nat.le_of_lt hs1) _).trans (hbq.mono (by simp; omega)))
  have hq : ∀ o v, w1.cell? ⟨A, o, none⟩ = some v → wq.cell? ⟨A, o, none⟩ = some v := fun o v hv => by
    refine ((((Below.refl w1.heap.size w1).alloc (Nat.le_refl _) _).trans (hbq.mono (by simp))).cell (p := ⟨A, o, none⟩) hs1).trans hv
  replace b0 := hq _ _ b0
  replace b1 := hq _ _ b1
  replace b2 := hq _ _ b2
  replace b3 := hq _ _ b3
  replace b4 := hq _ _ b4
  replace b5 := hq _ _ b5
  replace b6 := hq _ _ b6
  have hsq : A < wq.heap.size := by have := hbq.size; simp at this; omega
  have HQ := Lib.hid hbsq
  have hnq := hbsq.1
  rw [hkl] at hnq
  subst hnq
  clear hq hbq hbsq hb01 HKI HKS
  subst hA
  have hb0T : Below w.heap.size w (wq.alloc (.cells #[.int .i64 r.clock, .int .i64 r.addr, .slice a' n' cap', .int .i64 r.lost] 43)) := hb0q.alloc (by omega) _
  rcases HG.out.kind with hk | hk | hk
  · -- a sample
    have HPE := Lib.hid (show pay r = uenc r.kind.toNat ++ uenc (zig r.clock) ++ flatL [r.addr.toNat, r.lost.toNat, r.chain.length] ++ flatL (nats r.chain) by unfold pay; rw [if_pos hk])
    rw [hn''] at HPE
    have dk : (r.kind == 1) = true := by simp [hk]
    have HCS := Lib.hid (nats_small r4)
    have HCN := Lib.hid (show Is w a' n' cap' (up (nats r.chain)) by rw [up_nats r4]; exact HC.out)
    have hcs := nats_small r4
    have hz10 := uenc_len10 (zig_lt (i := r.clock) (by omega) (by omega))
    have hsm : Small [r.addr.toNat, r.lost.toNat, n'] := by intro x hx; simp only [List.mem_cons, List.not_mem_nil, or_false] at hx; rcases hx with rfl | rfl | rfl <;> omega
    have g := fun i v (hv : (#[.int .i64 r.clock, .int .i64 r.addr, .slice a' n' cap', .int .i64 r.lost] : Array Value)[i]? = some v) => ((cell_of_row _ _ _ _ _ _ (heap_alloc_new wq _)).trans hv : (wq.alloc (.cells #[.int .i64 r.clock, .int .i64 r.addr, .slice a' n' cap', .int .i64 r.lost] 43)).cell? ⟨wq.heap.size, i, none⟩ = some v)
    have s0 := g 0 (.int .i64 r.clock) rfl
    have s1 := g 1 (.int .i64 r.addr) rfl
    have s2 := g 2 (.slice a' n' cap') rfl
    have s3 := g 3 (.int .i64 r.lost) rfl
    have hT2 : wq.heap.size < (wq.alloc (.cells #[.int .i64 r.clock, .int .i64 r.addr, .slice a' n' cap', .int .i64 r.lost] 43)).heap.size := by simp
    have hA2 : w.heap.size < (wq.alloc (.cells #[.int .i64 r.clock, .int .i64 r.addr, .slice a' n' cap', .int .i64 r.lost] 43)).heap.size := by simp; omega
    have HK := Lib.hid (HQ.out.below ((Below.refl wq.heap.size wq).alloc (Nat.le_refl _) (.cells #[.int .i64 r.clock, .int .i64 r.addr, .slice a' n' cap', .int .i64 r.lost] 43)))
    clear g
    go_upto_region 8 with fail
    generalize (wq.alloc (.cells #[.int .i64 r.clock, .int .i64 r.addr, .slice a' n' cap', .int .i64 r.lost] 43)) = w2 at *
    generalize wq.heap.size = T at *
    have hb02 := hb0T
    go_wp2_with fail
    refine wp_region_stab_all 17 rfl (Keeps w2.heap.size) (fun j => (appK T r (.slice a' n' cap') (.slice aq 1 cq) n' j).at) (by kernel_rfl) (by kernel_rfl) (Keeps.refl _) (fun x y z => Keeps.trans) (fun j v w w' hk hr => Know.keeps hk hr) ?_ ?_
    · intro vs i o ho
      rcases i with _|_|_|_|_|_|_|_|_|_|_|_|_|_|_|_|_|i
      · simp at ho; subst ho
        refine ob_plain rfl ?_
        intro wx hS hd
        refine ⟨?_⟩
        simp only [fillN, fillT]
        go_simp
        refine gives_value ⟨Keeps.refl _ _, ?_⟩
        rfl
      · simp at ho; subst ho
        refine ob_plain rfl ?_
        intro wx hS hd
        refine ⟨?_⟩
        simp only [fillN, fillT, putT, dstOf]
        go_simp
        refine gives_value ⟨Keeps.refl _ _, ?_⟩
        rfl
      · simp at ho; subst ho
        refine ob_plain rfl ?_
        intro wx hS hd
        have h1 : vs 1 = _ := hd 1 (by kernel_rfl)
        have y := (hS.cell T 0 (show T < w2.heap.size by omega)).trans s0
        refine ⟨?_⟩
        simp only [fillN, fillT, putT, dstOf]
        simp only [h1]
        go_simp
        refine gives_value ⟨Keeps.refl _ _, ?_⟩
        rfl
      · simp at ho; subst ho
        refine ob_plain rfl ?_
        intro wx hS hd
        have h0 : vs 0 = _ := hd 0 (by kernel_rfl)
        have h2 : vs 2 = _ := hd 2 (by kernel_rfl)
        refine ⟨?_⟩
        simp only [fillN, fillT, putT, dstOf]
        simp only [h0, h2]
        go_simp
        refine gives_enter ?_
        refine (PutInt_any aq 1 cq r.clock (uenc r.kind.toNat) (by omega) (by omega) (by omega) wx (Bs.keeps (w := w2.drew) HK.out hS)).mono ?_
        intro e w3 hm
        obtain ⟨a3, n3, c3, rfl, hb3, hbb3⟩ := hm.bs
        exact ⟨_, rfl, Keeps.of_below hbb3 hS.size, _, _, _, rfl, hb3⟩
      · simp at ho; subst ho
        refine ob_plain rfl ?_
        intro wx hS hd
        refine ⟨?_⟩
        simp only [fillN, fillT, putT, dstOf]
        go_simp
        refine gives_value ⟨Keeps.refl _ _, ?_⟩
        rfl
      · simp at ho; subst ho
        refine ob_plain rfl ?_
        intro wx hS hd
        have h4 : vs 4 = _ := hd 4 (by kernel_rfl)
        have y := (hS.cell T 1 (show T < w2.heap.size by omega)).trans s1
        refine ⟨?_⟩
        simp only [fillN, fillT, putT, dstOf]
        simp only [h4]
        go_simp
        refine gives_value ⟨Keeps.refl _ _, ?_⟩
        rfl
      · simp at ho; subst ho
        refine ob_plain rfl ?_
        intro wx hS hd
        refine ⟨?_⟩
        simp only [fillN, fillT, putT, dstOf]
        go_simp
        refine gives_value ⟨Keeps.refl _ _, ?_⟩
        rfl
      · simp at ho; subst ho
        refine ob_plain rfl ?_
        intro wx hS hd
        have h6 : vs 6 = _ := hd 6 (by kernel_rfl)
        have y := (hS.cell T 3 (show T < w2.heap.size by omega)).trans s3
        refine ⟨?_⟩
        simp only [fillN, fillT, putT, dstOf]
        simp only [h6]
        go_simp
        refine gives_value ⟨Keeps.refl _ _, ?_⟩
        rfl
      · simp at ho; subst ho
        refine ob_plain rfl ?_
        intro wx hS hd
        refine ⟨?_⟩
        simp only [fillN, fillT, putT, dstOf]
        go_simp
        refine gives_value ⟨Keeps.refl _ _, ?_⟩
        rfl
      · simp at ho; subst ho
        refine ob_plain rfl ?_
        intro wx hS hd
        have h8 : vs 8 = _ := hd 8 (by kernel_rfl)
        have y := (hS.cell T 2 (show T < w2.heap.size by omega)).trans s2
        refine ⟨?_⟩
        simp only [fillN, fillT, putT, dstOf]
        simp only [h8]
        go_simp
        refine gives_value ⟨Keeps.refl _ _, ?_⟩
        rfl
      · simp at ho; subst ho
        refine ob_plain rfl ?_
        intro wx hS hd
        have h9 : vs 9 = _ := hd 9 (by kernel_rfl)
        refine ⟨?_⟩
        simp only [fillN, fillT, putT, dstOf]
        simp only [h9]
        go_simp
        refine gives_value ⟨Keeps.refl _ _, ?_⟩
        rfl
      · simp at ho; subst ho
        refine ob_plain rfl ?_
        intro wx hS hd
        have h5 : vs 5 = _ := hd 5 (by kernel_rfl)
        have h7 : vs 7 = _ := hd 7 (by kernel_rfl)
        have h10 : vs 10 = _ := hd 10 (by kernel_rfl)
        refine ⟨?_⟩
        simp only [fillN, fillT, putT, dstOf]
        simp only [h5, h7, h10]
        go_simp
        refine gives_value ⟨Keeps.of_below ((Below.refl _ _).alloc (Nat.le_refl _) _) hS.size, ?_⟩
        refine ⟨_, _, _, rfl, ?_⟩
        refine ⟨rfl, Nat.le_refl _, by simp [maxLen], (fun e => by cases e), fun _ => ⟨_, _, rfl, by simp, fun j u hj => ?_⟩⟩
        rw [cell_of_row _ _ _ _ _ _ (heap_alloc_new wx _), Nat.zero_add]
        have q1 := Int.toNat_of_nonneg r2.1
        have q2 := Int.toNat_of_nonneg r3.1
        simpa [q1, q2] using hj
      · simp at ho; subst ho
        refine ob_plain rfl ?_
        intro wx hS hd
        obtain ⟨x3, n3, c3, e3, k3⟩ := hd 3 (by kernel_rfl)
        obtain ⟨x11, n11, c11, e11, k11⟩ := hd 11 (by kernel_rfl)
        refine ⟨?_⟩
        simp only [fillN, fillT, putT, dstOf]
        simp only [e3, e11]
        go_simp
        have hn11 := k11.1
        simp only [up, List.length_map, List.length_cons, List.length_nil] at hn11
        have hn3 := k3.1
        have hl3 := hz10
        rw [List.length_append] at hn3
        refine gives_enter ?_
        refine (put_any x3 x11 n3 c3 n11 c11 _ _ (by omega) (by omega) hsm _ k3 k11).mono ?_
        rintro e w3 ⟨a3, m3, d3, rfl, hb3, hbb3⟩
        exact ⟨_, rfl, Keeps.of_below hbb3 hS.size, _, _, _, rfl, hb3⟩
      · simp at ho; subst ho
        refine ob_plain rfl ?_
        intro wx hS hd
        refine ⟨?_⟩
        simp only [fillN, fillT, putT, dstOf]
        go_simp
        refine gives_value ⟨Keeps.refl _ _, ?_⟩
        rfl
      · simp at ho; subst ho
        refine ob_plain rfl ?_
        intro wx hS hd
        have h13 : vs 13 = _ := hd 13 (by kernel_rfl)
        have y := (hS.cell T 2 (show T < w2.heap.size by omega)).trans s2
        refine ⟨?_⟩
        simp only [fillN, fillT, putT, dstOf]
        simp only [h13]
        go_simp
        refine gives_value ⟨Keeps.refl _ _, ?_⟩
        rfl
      · simp at ho; subst ho
        refine ob_plain rfl ?_
        intro wx hS hd
        obtain ⟨x12, n12, c12, e12, k12⟩ := hd 12 (by kernel_rfl)
        have h14 : vs 14 = _ := hd 14 (by kernel_rfl)
        refine ⟨?_⟩
        simp only [fillN, fillT, putT, dstOf]
        simp only [e12, h14]
        go_simp
        have hn12 := k12.1
        have hl3 := hz10
        have hl4 := flatL_len _ hsm
        rw [List.length_append, List.length_append] at hn12
        simp only [List.length_cons, List.length_nil] at hl4
        refine gives_enter ?_
        refine (put_any x12 a' n12 c12 n' cap' _ _ (by omega) (by omega) hcs _ k12 (Is.keeps (w := w2.drew) (Is.below (w' := w2.drew) HCN.out (show Below w.heap.size w w2.drew from hb02.drew)) hS)).mono ?_
        rintro e w3 ⟨a3, m3, d3, rfl, hb3, hbb3⟩
        exact ⟨_, rfl, Keeps.of_below hbb3 hS.size, _, _, _, rfl, hb3⟩
      · simp at ho; subst ho
        refine ob_plain rfl ?_
        intro wx hS hd
        obtain ⟨x15, n15, c15, e15, k15⟩ := hd 15 (by kernel_rfl)
        refine ⟨?_⟩
        simp only [fillN, fillT, putT, dstOf]
        simp only [e15]
        go_simp
        refine gives_value ⟨Keeps.refl _ _, ?_⟩
        exact ⟨_, _, _, rfl, k15⟩
      · simp at ho
    · intro vs w' hS hall
      obtain ⟨xF, nF, cF, eF, kF⟩ := hall 16 (by simp)
      simp [fillN, fillT, putT, dstOf, eF]
      have hbF : Below w.heap.size w w' := hb0T.trans ((⟨hS.os, hS.tape, hS.output, hS.size, hS.block⟩ : Below w2.heap.size w2 w').mono (Nat.le_of_lt hA2))
      clear hall hS
      rw [← HPE.out] at kF
      have hpl := pay_len HG.out
      have HPB := Lib.hid (pay_byt r)
      have hnf := kF.1
      have HF := Lib.hid kF
      clear kF
      go_wp2_with fail
      refine (PutFrame_any a xF n cap nF cF zs _ (by omega) (by omega) HPB.out _ (HB.out.below hbF) HF.out (HL.out.below hbF)).mono ?_
      rintro e wz (⟨hx, _⟩ | ⟨_, vz, rfl, hoz, hbz⟩)
      · omega
      have hend := hbF.trans (hbz.mono hbF.size)
      have HBZ := Lib.hid (ownsRow_mono2 hoz hbF.size)
      clear hoz hbz
      go_wp2_with fail
      go_ret2
      exact ownErr_ok h1 HBZ.out hend
  · -- a counter
    have HPE := Lib.hid (show pay r = uenc r.kind.toNat ++ flatL [r.index.toNat, r.value.toNat] by unfold pay; rw [if_neg (by omega), if_pos hk])
    have dk : (r.kind == 1) = false := by simp [hk]
    have dk2 : (r.kind == 2) = true := by simp [hk]
    have HSM := Lib.hid (show Small [r.index.toNat, r.value.toNat] by intro x hx; simp only [List.mem_cons, List.not_mem_nil, or_false] at hx; rcases hx with rfl | rfl <;> omega)
    have f5 : (wq.alloc (.cells #[.int .i64 r.clock, .int .i64 r.addr, .slice a' n' cap', .int .i64 r.lost] 43)).cell? ⟨w.heap.size, 5, none⟩ = some (.int .i64 r.index) := (World.cell?_alloc_lt _ _ _ hsq).trans b5
    have f6 : (wq.alloc (.cells #[.int .i64 r.clock, .int .i64 r.addr, .slice a' n' cap', .int .i64 r.lost] 43)).cell? ⟨w.heap.size, 6, none⟩ = some (.int .i64 r.value) := (World.cell?_alloc_lt _ _ _ hsq).trans b6
    have HK := Lib.hid (HQ.out.below ((Below.refl wq.heap.size wq).alloc (Nat.le_refl _) (.cells #[.int .i64 r.clock, .int .i64 r.addr, .slice a' n' cap', .int .i64 r.lost] 43)))
    have hA2 : w.heap.size < (wq.alloc (.cells #[.int .i64 r.clock, .int .i64 r.addr, .slice a' n' cap', .int .i64 r.lost] 43)).heap.size := by simp; omega
    go_upto_region 10 with fail
    generalize (wq.alloc (.cells #[.int .i64 r.clock, .int .i64 r.addr, .slice a' n' cap', .int .i64 r.lost] 43)) = w2 at *
    have hkis : Is (w2.alloc (.cells #[.int .i64 r.index, .int .i64 r.value] 3)) (some ⟨w2.heap.size, 0, none⟩) 2 2 (up [r.index.toNat, r.value.toNat]) := by
      refine ⟨rfl, Nat.le_refl _, by simp [maxLen], (fun e => by cases e), fun _ => ⟨_, _, rfl, by simp, fun j u hj => ?_⟩⟩
      rw [cell_of_row _ _ _ _ _ _ (heap_alloc_new w2 _), Nat.zero_add]
      have q1 := Int.toNat_of_nonneg r5.1
      have q2 := Int.toNat_of_nonneg r6.1
      simpa [q1, q2] using hj
    have HKI := Lib.hid hkis
    have HK2 := Lib.hid (HK.out.below ((Below.refl w2.heap.size w2).alloc (Nat.le_refl _) (.cells #[.int .i64 r.index, .int .i64 r.value] 3)))
    clear hkis
    go_wp2_with fail
    refine (put_any aq _ 1 cq 2 2 _ [r.index.toNat, r.value.toNat] (by omega) (by omega) HSM.out _ HK2.out HKI.out).mono ?_
    rintro e w' ⟨xF, nF, cF, rfl, kF, hbF'⟩
    have hb2a := hb0T.alloc (Nat.le_of_lt hA2) (.cells #[.int .i64 r.index, .int .i64 r.value] 3)
    have hbF : Below w.heap.size w w' := hb2a.trans (hbF'.mono hb2a.size)
    clear hb2a hbF'
    rw [← HPE.out] at kF
    have hpl := pay_len HG.out
    have HPB := Lib.hid (pay_byt r)
    have hnf := kF.1
    have HF := Lib.hid kF
    clear kF
    go_wp2_with fail
    refine (PutFrame_any a xF n cap nF cF zs _ (by omega) (by omega) HPB.out _ (HB.out.below hbF) HF.out (HL.out.below hbF)).mono ?_
    rintro e wz (⟨hx, _⟩ | ⟨_, vz, rfl, hoz, hbz⟩)
    · omega
    have hend := hbF.trans (hbz.mono hbF.size)
    have HBZ := Lib.hid (ownsRow_mono2 hoz hbF.size)
    clear hoz hbz
    go_wp2_with fail
    go_ret2
    exact ownErr_ok h1 HBZ.out hend
  · -- the end
    have HPE := Lib.hid (show pay r = uenc r.kind.toNat by unfold pay; rw [if_neg (by omega), if_neg (by omega)])
    have dk : (r.kind == 1) = false := by simp [hk]
    have dk2 : (r.kind == 2) = false := by simp [hk]
    have hbF := hb0T
    have kF := HQ.out.below ((Below.refl wq.heap.size wq).alloc (Nat.le_refl _) (.cells #[.int .i64 r.clock, .int .i64 r.addr, .slice a' n' cap', .int .i64 r.lost] 43))
    go_upto_region 11 with fail
    rw [← HPE.out] at kF
    have hpl := pay_len HG.out
    have HPB := Lib.hid (pay_byt r)
    have hnf := kF.1
    have HF := Lib.hid kF
    clear kF
    go_wp2_with fail
    refine (PutFrame_any a aq n cap 1 cq zs _ (by omega) (by omega) HPB.out _ (HB.out.below hbF) HF.out (HL.out.below hbF)).mono ?_
    rintro e wz (⟨hx, _⟩ | ⟨_, vz, rfl, hoz, hbz⟩)
    · omega
    have hend := hbF.trans (hbz.mono hbF.size)
    have HBZ := Lib.hid (ownsRow_mono2 hoz hbF.size)
    clear hoz hbz
    go_wp2_with fail
    go_ret2
    exact ownErr_ok h1 HBZ.out hend
end Go.Proofs.YtkgdogccnkjcgaaDoor
