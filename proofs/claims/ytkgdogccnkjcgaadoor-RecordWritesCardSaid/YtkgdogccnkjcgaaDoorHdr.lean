/-
  WALK of record.header, forwards.
-/
import Derived.Test.YtkgdogccnkjcgaaDoorRdr
import Derived.Laws.ResultCell
namespace Go.Proofs.YtkgdogccnkjcgaaDoor
open Go.ChangeShapes Go.WideShapes Go.ChangeAt Go.RowKit
theorem results_cell_row_tmp {P : Program} {fn : Func} {p u : Tmp} {ty : TypeId} (h : fn.results = #[.cell p ty, .tmp u]) (tmps : Array Value) (w : World) (g : Nat) (t : TypeId) (cs : Array Value) (fr : Nat × Nat) (d : TypeDesc)
    (hp : tmps.getD p undef = .pointer (some ⟨g, 0, none⟩)) (hg : w.heap[g]? = some (.cells cs t fr))
    (hu : P.underlying ty = some d) (hd : (match d with | .struct _ | .array _ _ => true | _ => false) = true) (hi : (P.info? ty).map (·.size) = some cs.size) :
    (results fn tmps).run P w = .ok (.tuple #[.agg cs, tmps.getD u undef]) w := by
  rw [results_cell_tmp h, hp]
  simp [asAddr, run_loadVar_row w g t ty cs fr d hg hu hd hi]
/-- all blocks but D are as they were, D too, or it holds F -/
structure KD (D : Nat) (F : Obj) (w w' : World) : Prop where
  os : w'.os = w.os
  tape : w'.tape = w.tape
  output : w'.output = w.output
  size : w.heap.size ≤ w'.heap.size
  heap : ∀ k, k < w.heap.size → k ≠ D → w'.heap[k]? = w.heap[k]?
  fin : w'.heap[D]? = w.heap[D]? ∨ w'.heap[D]? = some F
theorem KD.refl (D : Nat) (F : Obj) (w : World) : KD D F w w := ⟨rfl, rfl, rfl, Nat.le_refl _, fun _ _ _ => rfl, .inl rfl⟩
theorem KD.trans {D : Nat} {F : Obj} {x y z : World} (h : KD D F x y) (k : KD D F y z) : KD D F x z :=
  ⟨k.os.trans h.os, k.tape.trans h.tape, k.output.trans h.output, Nat.le_trans h.size k.size, fun i hi hn => (k.heap i (Nat.lt_of_lt_of_le hi h.size) hn).trans (h.heap i hi hn), by
    rcases k.fin with e | e
    · rw [e]; exact h.fin
    · exact .inr e⟩
theorem KD.of_below {D : Nat} {F : Obj} {w w' : World} (h : Below w.heap.size w w') (hD : D < w.heap.size) : KD D F w w' := ⟨h.os, h.tape, h.output, h.size, fun k hk _ => h.block k hk, .inl (h.block D hD)⟩
theorem KD.cell {D : Nat} {F : Obj} {w w' : World} (h : KD D F w w') {b o : Nat} {v : Value} (hb : b < w.heap.size) (hn : b ≠ D) (hc : w.cell? ⟨b, o, none⟩ = some v) : w'.cell? ⟨b, o, none⟩ = some v :=
  (World.cell?_of_block (w := w) (h.heap b hb hn)).trans hc
/-- fixed values, and one store -/
def StR (D : Nat) (F : Obj) (q : Nat) (fx : Nat → Value) (j : Nat) (v : Value) (w : World) : Prop := if j = q then w.heap[D]? = some F else v = fx j
theorem StR.fix {D : Nat} {F : Obj} {q : Nat} {fx : Nat → Value} {j : Nat} {v : Value} {w : World} (h : StR D F q fx j v w) (hj : j ≠ q) : v = fx j := by unfold StR at h; rwa [if_neg hj] at h
theorem StR.mk {D : Nat} {F : Obj} {q : Nat} {fx : Nat → Value} {j : Nat} {v : Value} {w : World} (hj : j ≠ q) (h : v = fx j) : StR D F q fx j v w := by unfold StR; rwa [if_neg hj]
theorem StR.fin {D : Nat} {F : Obj} {q : Nat} {fx : Nat → Value} {v : Value} {w : World} (h : StR D F q fx q v w) : w.heap[D]? = some F := by unfold StR at h; rwa [if_pos rfl] at h
theorem StR.keeps {D : Nat} {F : Obj} {q : Nat} {fx : Nat → Value} {j : Nat} {v : Value} {w w' : World} (hk : KD D F w w') (h : StR D F q fx j v w) : StR D F q fx j v w' := by
  unfold StR at *
  split
  · rename_i e
    rw [if_pos e] at h
    rcases hk.fin with e | e
    · rw [e]; exact h
    · exact e
  · rename_i e
    rw [if_neg e] at h; exact h
theorem ob_guard {P : Program} {ops : Array Oper} {S : World → World → Prop} {R : Nat → Value → World → Prop} {w0 : World} {a0 : Act} {vs : Nat → Value} {i : Nat} {o : Oper} {j : Nat} {b : Bool} (hg : o.guard = some (j, b))
    (h : ∀ w, S w0 w → (∀ j, Region.waitsFor .any ops i j = true → R j (vs j) w) → yielded ops (fillN ops a0 vs i).tmps j = some b ∧ oGives P o (fillN ops a0 vs i) w (fun v w' => S w w' ∧ R i v w')) : Ob P ops S R w0 a0 vs i o := by
  intro w hS hd
  obtain ⟨h1, h2⟩ := h w hS hd
  rw [if_pos (by unfold Region.wanted; rw [hg]; simp [h1])]
  exact h2
theorem grown_below2 {w w' : World} {g : Nat} (h : w.grownBy w' (some g)) {B : Nat} (hB : B ≤ w.heap.size) (hg : B ≤ g) : Below B w w' := below_grown1 (Below.refl _ _) h hB hg
theorem setRow_other (w : World) (g : Nat) (cs : Array Value) (k : Nat) (h : k ≠ g) : (w.setRow g cs).heap[k]? = w.heap[k]? := by
  unfold World.setRow
  show (w.heap.modify g _)[k]? = _
  rw [Array.getElem?_modify, if_neg (fun e => h e.symm)]
theorem unfrozen_of_row {w : World} {g i : Nat} {cs : Array Value} {t : TypeId} (h : w.heap[g]? = some (.cells cs t (0, 0))) : w.frozen? ⟨g, i, none⟩ = false := by simp [World.frozen?, h]
theorem kd_of_grown {w w' : World} {D : Nat} {F : Obj} (h : w.grownBy w' (some D)) (hf : w'.heap[D]? = some F) : KD D F w w' :=
  ⟨h.os, h.tape, h.output, h.size, fun k hk hn => h.block k hk (by intro e; injection e with e; exact hn e), .inr hf⟩
theorem grown_set {w w' : World} {D : Nat} (h : w.grownBy w' (some D)) (o : Nat) (v : Value) : w.grownBy (w'.setCell ⟨D, o, none⟩ v) (some D) := grownBy_trans h (grownBy_set w' D o v)
def hdrV (G : Nat) (h : Hd) : Nat → Value
  | 0 => h.val
  | 1 => .pointer (some ⟨G, 0, none⟩)
  | 2 => .bool true
  | 3 => .bool true
  | 4 => h.val
  | 5 => .int .i64 0
  | _ => .bool true
/-- what header says -/
def HdrPost (h : Hd) (w : World) (e : Ending) (w' : World) : Prop := e = .returned (.tuple #[h.val, .bool true]) ∧ Below w.heap.size w w'
set_option maxRecDepth 100000 in
set_option maxHeartbeats 8000000 in
theorem header_good (h : Hd) (hh : ckH h = 0) (hp : h.print < 18446744073709551616) (a : Option Addr) (n cap : Nat) (w : World) (hbs : Bs w a n cap (hpay h)) (hlt : ∀ x, a = some x → x.block < w.heap.size) : Calls Tryd.prog 35 #[.slice a n cap] w (HdrPost h w) := by
  have hin : inR h.rel 0 1073741824 = true ∧ inR h.mach 0 1073741824 = true ∧ inR h.num 0 1073741824 = true ∧ inR h.per 0 1099511627776 = true := by
    unfold ckH at hh
    split at hh
    · rename_i h1; simp only [Bool.and_eq_true] at h1; exact ⟨h1.1.1.1, h1.1.1.2, h1.1.2, h1.2⟩
    · cases hh
  have r1 := inR_t hin.1
  have r2 := inR_t hin.2.1
  have r3 := inR_t hin.2.2.1
  have r4 := inR_t hin.2.2.2
  have hsm : Small [h.rel.toNat, h.mach.toNat, h.num.toNat, h.per.toNat] := by
    intro x hx
    simp only [List.mem_cons, List.not_mem_nil, or_false] at hx
    rcases hx with rfl | rfl | rfl | rfl <;> omega
  have hpl := hpay_len h hsm hp
  have hpe : hpay h = uenc h.rel.toNat ++ (uenc h.mach.toNat ++ (uenc h.num.toNat ++ (uenc h.per.toNat ++ (uenc h.print ++ [])))) := by unfold hpay; simp [flatL]
  have l1 := congrArg List.length hpe
  simp only [List.length_append, List.length_nil] at l1
  have q1 := Int.toNat_of_nonneg r1.1
  have q2 := Int.toNat_of_nonneg r2.1
  have q3 := Int.toNat_of_nonneg r3.1
  have q4 := Int.toNat_of_nonneg r4.1
  have hrd : Rd ((w.alloc (.cells #[.int .i64 0, .int .i64 0, .int .i64 0, .int .i64 0, .int .u64 0] 29)).alloc (.cells #[.slice a n cap, .int .i64 0] 92)) (w.heap.size + 1) (hpay h) := by
    have e1 : (w.alloc (.cells #[.int .i64 0, .int .i64 0, .int .i64 0, .int .i64 0, .int .u64 0] 29)).heap.size = w.heap.size + 1 := by simp
    refine ⟨a, n, cap, by rw [← e1]; exact heap_alloc_new _ _, hbs.below (((Below.refl _ _).alloc (Nat.le_refl _) _).alloc (by simp) _), fun x hx => by have := hlt x hx; omega⟩
  rw [hpe] at hrd
  have HRD := Lib.hid hrd
  have hDz : ((w.alloc (.cells #[.int .i64 0, .int .i64 0, .int .i64 0, .int .i64 0, .int .u64 0] 29)).alloc (.cells #[.slice a n cap, .int .i64 0] 92)).heap[w.heap.size]? = some (.cells #[.int .i64 0, .int .i64 0, .int .i64 0, .int .i64 0, .int .u64 0] 29 (0, 0)) := by
    rw [Below.heap_alloc _ _ _ (by simp)]; exact heap_alloc_new _ _
  have hb1 : Below w.heap.size w ((w.alloc (.cells #[.int .i64 0, .int .i64 0, .int .i64 0, .int .i64 0, .int .u64 0] 29)).alloc (.cells #[.slice a n cap, .int .i64 0] 92)) := ((Below.refl _ _).alloc (Nat.le_refl _) _).alloc (by simp) _
  have hsz1 : w.heap.size + 1 < ((w.alloc (.cells #[.int .i64 0, .int .i64 0, .int .i64 0, .int .i64 0, .int .u64 0] 29)).alloc (.cells #[.slice a n cap, .int .i64 0] 92)).heap.size := by simp
  clear hrd hbs hpe hin hsm
  go_enter Tryd.func35, Tryd.ntmps35
  go_upto_region 2 with fail
  generalize ((w.alloc (.cells #[.int .i64 0, .int .i64 0, .int .i64 0, .int .i64 0, .int .u64 0] 29)).alloc (.cells #[.slice a n cap, .int .i64 0] 92)) = w1 at *
  go_wp2_with fail
  refine (small_good _ h.rel.toNat _ (by omega) (Byt.append (uenc_byt _) (Byt.append (uenc_byt _) (Byt.append (uenc_byt _) (Byt.append (uenc_byt _) Byt.nil)))) (by simp only [List.length_append, List.length_nil]; omega) _ HRD.out).mono ?_
  rintro e w2 ⟨rfl, hrd2, hg2⟩
  rw [q1]
  go_wp2_with fail
  refine (small_good _ h.mach.toNat _ (by omega) (Byt.append (uenc_byt _) (Byt.append (uenc_byt _) (Byt.append (uenc_byt _) Byt.nil))) (by simp only [List.length_append, List.length_nil]; omega) _ hrd2).mono ?_
  rintro e w3 ⟨rfl, hrd3, hg3⟩
  rw [q2]
  go_wp2_with fail
  refine (small_good _ h.num.toNat _ (by omega) (Byt.append (uenc_byt _) (Byt.append (uenc_byt _) Byt.nil)) (by simp only [List.length_append, List.length_nil]; omega) _ hrd3).mono ?_
  rintro e w4 ⟨rfl, hrd4, hg4⟩
  rw [q3]
  go_wp2_with fail
  refine (small_good _ h.per.toNat _ (by omega) (Byt.append (uenc_byt _) Byt.nil) (by simp only [List.length_append, List.length_nil]; omega) _ hrd4).mono ?_
  rintro e w5 ⟨rfl, hrd5, hg5⟩
  rw [q4]
  go_wp2_with fail
  refine (uint_good _ h.print _ hp Byt.nil (by simp only [List.length_append, List.length_nil]; omega) _ hrd5).mono ?_
  rintro e w6 ⟨rfl, hrd6, hg6⟩
  have hg16 := grownBy_trans hg2 (grownBy_trans hg3 (grownBy_trans hg4 (grownBy_trans hg5 hg6)))
  have hD6 := (hg16.block w.heap.size (by omega) (by intro e; injection e with e; omega)).trans hDz
  have hb6 := hb1.trans (grown_below2 hg16 hb1.size (by omega))
  have hs6 := hg16.size
  obtain ⟨ar, nr, cr, hGr, hbsr, _⟩ := hrd6
  have hnr : nr = 0 := by have := hbsr.1; simpa using this.symm
  subst hnr
  clear hg2 hg3 hg4 hg5 hg6 hrd2 hrd3 hrd4 hrd5 hg16 hDz hb1 hbsr HRD
  go_upto_region 3 with fail
  have hT7 := fun i v (hv : (#[.int .i64 h.rel, .int .i64 h.mach, .int .i64 h.num, .int .i64 h.per, .int .u64 ((h.print : Nat) : Int)] : Array Value)[i]? = some v) => ((cell_of_row _ _ _ _ _ _ (heap_alloc_new w6 _)).trans hv : (w6.alloc (.cells #[.int .i64 h.rel, .int .i64 h.mach, .int .i64 h.num, .int .i64 h.per, .int .u64 ((h.print : Nat) : Int)] 29)).cell? ⟨w6.heap.size, i, none⟩ = some v)
  have c0 := hT7 0 (.int .i64 h.rel) rfl
  have c1 := hT7 1 (.int .i64 h.mach) rfl
  have c2 := hT7 2 (.int .i64 h.num) rfl
  have c3 := hT7 3 (.int .i64 h.per) rfl
  have c4 := hT7 4 (.int .u64 ((h.print : Nat) : Int)) rfl
  have hD7 := (Below.heap_alloc w6 (.cells #[.int .i64 h.rel, .int .i64 h.mach, .int .i64 h.num, .int .i64 h.per, .int .u64 ((h.print : Nat) : Int)] 29) w.heap.size (by omega)).trans hD6
  have hG7 := (Below.heap_alloc w6 (.cells #[.int .i64 h.rel, .int .i64 h.mach, .int .i64 h.num, .int .i64 h.per, .int .u64 ((h.print : Nat) : Int)] 29) (w.heap.size + 1) (by omega)).trans hGr
  have hb7 := hb6.alloc (by omega) (.cells #[.int .i64 h.rel, .int .i64 h.mach, .int .i64 h.num, .int .i64 h.per, .int .u64 ((h.print : Nat) : Int)] 29)
  have hT2 : w6.heap.size < (w6.alloc (.cells #[.int .i64 h.rel, .int .i64 h.mach, .int .i64 h.num, .int .i64 h.per, .int .u64 ((h.print : Nat) : Int)] 29)).heap.size := by simp
  have hTD : w6.heap.size ≠ w.heap.size := by omega
  have hG2 : w.heap.size + 1 < (w6.alloc (.cells #[.int .i64 h.rel, .int .i64 h.mach, .int .i64 h.num, .int .i64 h.per, .int .u64 ((h.print : Nat) : Int)] 29)).heap.size := by simp; omega
  have hGD : w.heap.size + 1 ≠ w.heap.size := by omega
  clear hT7 hD6 hb6
  replace hGr := hG7
  clear hG7
  generalize (w6.alloc (.cells #[.int .i64 h.rel, .int .i64 h.mach, .int .i64 h.num, .int .i64 h.per, .int .u64 ((h.print : Nat) : Int)] 29)) = w7 at *
  generalize w6.heap.size = T at *
  go_wp2_with fail
  refine wp_region_stab_all 10 rfl (KD w.heap.size (.cells #[.int .i64 h.rel, .int .i64 h.mach, .int .i64 h.num, .int .i64 h.per, .int .u64 ((h.print : Nat) : Int)] 29 (0, 0))) (StR w.heap.size (.cells #[.int .i64 h.rel, .int .i64 h.mach, .int .i64 h.num, .int .i64 h.per, .int .u64 ((h.print : Nat) : Int)] 29 (0, 0)) 8 (hdrV (w.heap.size + 1) h)) (by kernel_rfl) (by kernel_rfl) (KD.refl _ _) (fun x y z => KD.trans) (fun j v w w' hk hr => StR.keeps hk hr) ?_ ?_
  · intro vs i o ho
    rcases i with _|_|_|_|_|_|_|_|_|_|i
    · simp at ho; subst ho
      refine ob_plain rfl ?_
      intro wx hS hd
      have y0 := hS.cell (b := T) (o := 0) hT2 hTD c0
      have y1 := hS.cell (b := T) (o := 1) hT2 hTD c1
      have y2 := hS.cell (b := T) (o := 2) hT2 hTD c2
      have y3 := hS.cell (b := T) (o := 3) hT2 hTD c3
      have y4 := hS.cell (b := T) (o := 4) hT2 hTD c4
      refine ⟨?_⟩
      simp only [fillN, fillT]
      go_simp
      exact gives_value ⟨KD.refl _ _ _, StR.mk (by decide) rfl⟩
    · simp at ho; subst ho
      refine ob_plain rfl ?_
      intro wx hS hd
      refine ⟨?_⟩
      simp only [fillN, fillT, putT, dstOf]
      go_simp
      exact gives_value ⟨KD.refl _ _ _, StR.mk (by decide) rfl⟩
    · simp at ho; subst ho
      refine ob_plain rfl ?_
      intro wx hS hd
      have h1 : vs 1 = _ := StR.fix (hd 1 (by kernel_rfl)) (by decide)
      have hGx := (hS.heap _ hG2 hGD).trans hGr
      refine ⟨?_⟩
      simp only [fillN, fillT, putT, dstOf]
      simp only [h1]
      go_simp
      refine gives_enter ?_
      refine (done_good _ _ _ _ hGx).mono ?_
      rintro e w3 ⟨rfl, rfl⟩
      exact ⟨_, rfl, KD.refl _ _ _, StR.mk (by decide) rfl⟩
    · simp at ho; subst ho
      refine ob_plain rfl ?_
      intro wx hS hd
      have h2 : vs 2 = _ := StR.fix (hd 2 (by kernel_rfl)) (by decide)
      refine ⟨?_⟩
      simp only [fillN, fillT, putT, dstOf]
      simp only [h2]
      go_simp
      exact gives_value ⟨KD.refl _ _ _, StR.mk (by decide) rfl⟩
    · simp at ho; subst ho
      refine ob_guard rfl ?_
      intro wx hS hd
      have h3 : vs 3 = _ := StR.fix (hd 3 (by kernel_rfl)) (by decide)
      have y0 := hS.cell (b := T) (o := 0) hT2 hTD c0
      have y1 := hS.cell (b := T) (o := 1) hT2 hTD c1
      have y2 := hS.cell (b := T) (o := 2) hT2 hTD c2
      have y3 := hS.cell (b := T) (o := 3) hT2 hTD c3
      have y4 := hS.cell (b := T) (o := 4) hT2 hTD c4
      refine ⟨by simp [yielded, fillN, fillT, putT, dstOf, h3]; rfl, ⟨?_⟩⟩
      simp only [fillN, fillT, putT, dstOf]
      simp only [h3]
      go_simp
      exact gives_value ⟨KD.refl _ _ _, StR.mk (by decide) rfl⟩
    · simp at ho; subst ho
      refine ob_guard rfl ?_
      intro wx hS hd
      have h3 : vs 3 = _ := StR.fix (hd 3 (by kernel_rfl)) (by decide)
      have h4 : vs 4 = _ := StR.fix (hd 4 (by kernel_rfl)) (by decide)
      refine ⟨by simp [yielded, fillN, fillT, putT, dstOf, h3]; rfl, ⟨?_⟩⟩
      simp only [fillN, fillT, putT, dstOf]
      simp only [h3, h4]
      go_simp
      refine gives_enter ?_
      refine (CheckHeader_any h _).mono ?_
      rintro e w3 ⟨rfl, hb3⟩
      rw [hh]
      exact ⟨_, rfl, KD.of_below hb3 (by have := hS.size; have h9 : w7.heap.size ≤ wx.heap.size := hS.size; omega), StR.mk (by decide) rfl⟩
    · simp at ho; subst ho
      refine ob_guard rfl ?_
      intro wx hS hd
      have h3 : vs 3 = _ := StR.fix (hd 3 (by kernel_rfl)) (by decide)
      have h5 : vs 5 = _ := StR.fix (hd 5 (by kernel_rfl)) (by decide)
      refine ⟨by simp [yielded, fillN, fillT, putT, dstOf, h3]; rfl, ⟨?_⟩⟩
      simp only [fillN, fillT, putT, dstOf]
      simp only [h3, h5]
      go_simp
      exact gives_value ⟨KD.refl _ _ _, StR.mk (by decide) rfl⟩
    · simp at ho; subst ho
      refine ob_plain rfl ?_
      intro wx hS hd
      have h3 : vs 3 = _ := StR.fix (hd 3 (by kernel_rfl)) (by decide)
      have h6 : vs 6 = _ := StR.fix (hd 6 (by kernel_rfl)) (by decide)
      refine ⟨?_⟩
      simp only [fillN, fillT, putT, dstOf]
      simp only [h3, h6]
      go_simp
      exact gives_value ⟨KD.refl _ _ _, StR.mk (by decide) rfl⟩
    · simp at ho; subst ho
      refine ob_plain rfl ?_
      intro wx hS hd
      have h0 : vs 0 = h.val := StR.fix (hd 0 (by kernel_rfl)) (by decide)
      rcases hS.fin with e9 | e9
      · have e8 := e9.trans hD7
        have f0 := cell_of_row _ _ 0 _ _ _ e8
        have f1 := cell_of_row _ _ 1 _ _ _ e8
        have f2 := cell_of_row _ _ 2 _ _ _ e8
        have f3 := cell_of_row _ _ 3 _ _ _ e8
        have f4 := cell_of_row _ _ 4 _ _ _ e8
        have z0 := unfrozen_of_row (i := 0) e8
        have z1 := unfrozen_of_row (i := 1) e8
        have z2 := unfrozen_of_row (i := 2) e8
        have z3 := unfrozen_of_row (i := 3) e8
        have z4 := unfrozen_of_row (i := 4) e8
        have hgr := grown_set (grown_set (grown_set (grown_set (grownBy_set wx w.heap.size 0 (.int .i64 h.rel)) 1 (.int .i64 h.mach)) 2 (.int .i64 h.num)) 3 (.int .i64 h.per)) 4 (.int .u64 ((h.print : Nat) : Int))
        have hfin := heap_setCell_same _ w.heap.size 4 _ _ (.int .u64 ((h.print : Nat) : Int)) (heap_setCell_same _ w.heap.size 3 _ _ (.int .i64 h.per) (heap_setCell_same _ w.heap.size 2 _ _ (.int .i64 h.num) (heap_setCell_same _ w.heap.size 1 _ _ (.int .i64 h.mach) (heap_setCell_same wx w.heap.size 0 _ _ (.int .i64 h.rel) e8))))
        refine ⟨?_⟩
        simp only [fillN, fillT, putT, dstOf]
        simp only [h0]
        go_simp
        exact gives_skip ⟨kd_of_grown hgr hfin, hfin⟩
      · have e8 := e9
        have f0 := cell_of_row _ _ 0 _ _ _ e8
        have f1 := cell_of_row _ _ 1 _ _ _ e8
        have f2 := cell_of_row _ _ 2 _ _ _ e8
        have f3 := cell_of_row _ _ 3 _ _ _ e8
        have f4 := cell_of_row _ _ 4 _ _ _ e8
        have z0 := unfrozen_of_row (i := 0) e8
        have z1 := unfrozen_of_row (i := 1) e8
        have z2 := unfrozen_of_row (i := 2) e8
        have z3 := unfrozen_of_row (i := 3) e8
        have z4 := unfrozen_of_row (i := 4) e8
        have hgr := grown_set (grown_set (grown_set (grown_set (grownBy_set wx w.heap.size 0 (.int .i64 h.rel)) 1 (.int .i64 h.mach)) 2 (.int .i64 h.num)) 3 (.int .i64 h.per)) 4 (.int .u64 ((h.print : Nat) : Int))
        have hfin := heap_setCell_same _ w.heap.size 4 _ _ (.int .u64 ((h.print : Nat) : Int)) (heap_setCell_same _ w.heap.size 3 _ _ (.int .i64 h.per) (heap_setCell_same _ w.heap.size 2 _ _ (.int .i64 h.num) (heap_setCell_same _ w.heap.size 1 _ _ (.int .i64 h.mach) (heap_setCell_same wx w.heap.size 0 _ _ (.int .i64 h.rel) e8))))
        refine ⟨?_⟩
        simp only [fillN, fillT, putT, dstOf]
        simp only [h0]
        go_simp
        exact gives_skip ⟨kd_of_grown hgr hfin, hfin⟩
    · simp at ho; subst ho
      refine ob_plain rfl ?_
      intro wx hS hd
      have h7 : vs 7 = _ := StR.fix (hd 7 (by kernel_rfl)) (by decide)
      refine ⟨?_⟩
      simp only [fillN, fillT, putT, dstOf]
      simp only [h7]
      go_simp
      exact gives_value ⟨KD.refl _ _ _, StR.mk (by decide) rfl⟩
    · simp at ho
  · intro vs w' hS hall
    have h9 : vs 9 = .bool true := StR.fix (hall 9 (by simp)) (by decide)
    have hF := (hall 8 (by simp)).fin
    simp [fillN, fillT, putT, dstOf, h9]
    have hend : Below w.heap.size w w' := hb7.trans ⟨hS.os, hS.tape, hS.output, hS.size, fun k hk => hS.heap k (by show k < w7.heap.size; omega) (by omega)⟩
    clear hall hS
    go_wp2_with fail
    exact bodyPost_ret (results_cell_row_tmp Tryd.results35 _ _ w.heap.size 29 _ _ _ rfl hF Tryd.underlying29 rfl (by kernel_rfl)) rfl ⟨rfl, hend⟩
end Go.Proofs.YtkgdogccnkjcgaaDoor
