/-
  WALK of record.record on any bytes.
-/
import Derived.Test.YtkgdogccnkjcgaaDoorRdA
import Derived.Deep.CutRange
import Derived.Deep.RegionLaw
import Derived.Deep.AppendLies
namespace Go.Proofs.YtkgdogccnkjcgaaDoor
open Go.ChangeShapes Go.WideShapes Go.ChangeAt Go.RowKit
theorem Tryd.info3 : (Tryd.prog.info? 3).map (fun i => (i.zero, i.size, i.bytes)) = some (some (.int .i64 0), 1, 8) := by kernel_rfl
theorem Tryd.und41 : Tryd.prog.underlying 41 = some (.slice 3) := by kernel_rfl
def rdN : Nat → St → List Int × St
  | 0, s => ([], s)
  | n + 1, s => if s.2 = 0 then ((rdS s).1 :: (rdN n (rdS s).2).1, (rdN n (rdS s).2).2) else ([], s)
def rdEnd (k : Int) (s : St) : Rc × Bool := (⟨k, 0, 0, 0, 0, 0, []⟩, stDone s && (ckR ⟨k, 0, 0, 0, 0, 0, []⟩ == 0))
def cntOf (s : St) : Rc := ⟨2, 0, 0, 0, (rdS s).1, (rdS (rdS s).2).1, []⟩
def rdCnt (s : St) : Rc × Bool := (cntOf s, stDone (rdS (rdS s).2).2 && (ckR (cntOf s) == 0))
def samN (s : St) : Int × St := rdS (rdS (rdS (rdI s).2).2).2
def samOf (s : St) : Rc := ⟨1, (rdI s).1, (rdS (rdI s).2).1, (rdS (rdS (rdI s).2).2).1, 0, 0, (rdN (samN s).1.toNat (samN s).2).1⟩
def rdSam (s : St) : Rc × Bool := if (samN s).1 < 0 then (⟨1, 0, 0, 0, 0, 0, []⟩, false) else (samOf s, stDone (rdN (samN s).1.toNat (samN s).2).2 && (ckR (samOf s) == 0))
/-- the record of a payload, and whether there is one -/
def rdR (zs : List Nat) : Rc × Bool := if (rdS (zs, 0)).1 = 1 then rdSam (rdS (zs, 0)).2 else if (rdS (zs, 0)).1 = 2 then rdCnt (rdS (zs, 0)).2 else rdEnd (rdS (zs, 0)).1 (rdS (zs, 0)).2
def RecPost (zs : List Nat) (w : World) (e : Ending) (w' : World) : Prop :=
  ∃ (a : Option Addr) (n cap : Nat), e = .returned (.tuple #[(rdR zs).1.val (.slice a n cap), .bool (rdR zs).2]) ∧ w'.ownsRow w.heap.size 3 1 (.slice a n cap) n (ints (rdR zs).1.chain) ∧ Below w.heap.size w w'
def recD (G : Nat) (x : Rc) (v : Value) : Nat → Value
  | 0 => v
  | 1 => .pointer (some ⟨G, 0, none⟩)
  | 2 => .bool true
  | 3 => .bool true
  | 4 => v
  | 5 => .int .i64 ((ckR x : Nat) : Int)
  | _ => .bool (((ckR x : Nat) : Int) == 0)
def recO (G : Nat) (_x : Rc) (v : Value) : Nat → Value
  | 0 => v
  | 1 => .pointer (some ⟨G, 0, none⟩)
  | 2 => .bool false
  | 3 => .bool false
  | 4 => undef
  | 5 => undef
  | 6 => undef
  | _ => .bool false
theorem KD.grown {D : Nat} {F : Obj} {w w' : World} (h : KD D F w w') : w.grownBy w' (some D) := ⟨h.os, h.tape, h.output, h.size, fun k hk hn => h.heap k hk (fun e => hn (by rw [e]))⟩
theorem RdS.kd {B G D : Nat} {F : Obj} {w w' : World} {s : St} (h : RdS w B G s) (hS : KD D F w.drew w') (hG : G < w.heap.size) (hGD : G ≠ B) (hBD : B = D := by rfl) : RdS w' B G s := by
  subst hBD
  obtain ⟨a, n, cap, h1, h2, h3⟩ := h
  exact ⟨a, n, cap, (hS.heap G hG hGD).trans h1, Bs.not_block (w := w.drew) (g := B) h2 (fun x hx => by have := h3 x hx; omega) hS.grown, h3⟩
theorem Is.kd {D : Nat} {F : Obj} {w w' : World} {a : Option Addr} {n cap : Nat} {zs : List Int} (h : Is w a n cap zs) (hS : KD D F w.drew w') (hne : ∀ x, a = some x → x.block ≠ D) : Is w' a n cap zs :=
  ⟨h.1, h.2.1, h.2.2.1, h.2.2.2.1, Cells.grown (w := w.drew) h.2.2.2.2 hS.grown (fun x k e1 e2 => by injection e2 with e2; subst e2; exact hne x e1)⟩
theorem ob_off {P : Program} {ops : Array Oper} {S : World → World → Prop} {R : Nat → Value → World → Prop} {w0 : World} {a0 : Act} {vs : Nat → Value} {i : Nat} {o : Oper} {j : Nat} {b : Bool} (hg : o.guard = some (j, b))
    (h : ∀ w, S w0 w → (∀ j, Region.waitsFor .any ops i j = true → R j (vs j) w) → yielded ops (fillN ops a0 vs i).tmps j = some (!b) ∧ R i undef w) : Ob P ops S R w0 a0 vs i o := by
  intro w hS hd
  obtain ⟨h1, h2⟩ := h w hS hd
  rw [if_neg (by unfold Region.wanted; rw [hg]; cases b <;> simp [h1])]
  exact h2
/-- Ob, closed: whnf stops here -/
structure ObS (P : Program) (ops : Array Oper) (S : World → World → Prop) (R : Nat → Value → World → Prop) (w0 : World) (a0 : Act) (vs : Nat → Value) (i : Nat) (o : Oper) : Prop where
  out : Ob P ops S R w0 a0 vs i o
theorem os_plain {P : Program} {ops : Array Oper} {S : World → World → Prop} {R : Nat → Value → World → Prop} {w0 : World} {a0 : Act} {vs : Nat → Value} {i : Nat} {o : Oper} (hg : o.guard = none)
    (h : ∀ w, S w0 w → (∀ j, Region.waitsFor .any ops i j = true → R j (vs j) w) → oGives P o (fillN ops a0 vs i) w (fun v w' => S w w' ∧ R i v w')) : ObS P ops S R w0 a0 vs i o := ⟨ob_plain hg h⟩
theorem os_guard {P : Program} {ops : Array Oper} {S : World → World → Prop} {R : Nat → Value → World → Prop} {w0 : World} {a0 : Act} {vs : Nat → Value} {i : Nat} {o : Oper} {j : Nat} {b : Bool} (hg : o.guard = some (j, b))
    (h : ∀ w, S w0 w → (∀ j, Region.waitsFor .any ops i j = true → R j (vs j) w) → yielded ops (fillN ops a0 vs i).tmps j = some b ∧ oGives P o (fillN ops a0 vs i) w (fun v w' => S w w' ∧ R i v w')) : ObS P ops S R w0 a0 vs i o := ⟨ob_guard hg h⟩
theorem os_off {P : Program} {ops : Array Oper} {S : World → World → Prop} {R : Nat → Value → World → Prop} {w0 : World} {a0 : Act} {vs : Nat → Value} {i : Nat} {o : Oper} {j : Nat} {b : Bool} (hg : o.guard = some (j, b))
    (h : ∀ w, S w0 w → (∀ j, Region.waitsFor .any ops i j = true → R j (vs j) w) → yielded ops (fillN ops a0 vs i).tmps j = some (!b) ∧ R i undef w) : ObS P ops S R w0 a0 vs i o := ⟨ob_off hg h⟩
theorem wp_stab {P : Program} {id : Nat} {Q : Exit → Act → World → Prop} {a : Act} {w : World} {l : List Oper} (n : Nat) (hlen : l.length = n) (S : World → World → Prop) (R : Nat → Value → World → Prop)
    (hm : P.follows .mixedOrders = true) (hB : stabAllB l.toArray = true) (hrefl : ∀ w, S w w) (htrans : ∀ x y z, S x y → S y z → S x z) (hst : ∀ j v w w', S w w' → R j v w → R j v w')
    (hob : ∀ vs i o, l[i]? = some o → ObS P l.toArray S R w.drew a vs i o)
    (hT : ∀ vs w', S w.drew w' → (∀ j, j < n → R j (vs j) w') → Q .normal (fillN l.toArray a vs n) w') : (Code.region id l.toArray true).wp P Q a w :=
  wp_region_stab_all n hlen S R hm hB hrefl htrans hst (fun vs i o ho => (hob vs i o ho).out) hT
theorem enters54 (args : Array Value) (w : World) : (callFunc 54 args).run Tryd.prog w = .ok (.enter 54 args) w := by
  have := Tryd.func54
  go_simp
theorem ogives_call {P : Program} {o : Oper} {a : Act} {w : World} {K : Value → World → Prop} (f : FuncId) (xs : Array Operand) (ts : Array TypeId) (ho : o.op = .call { callee := .value (.func f), args := xs, argTypes := ts })
    (args : Array Value) (hx0 : (xs.toList.map a.eval).toArray = args) (hf : (callFunc f args).run P w = .ok (.enter f args) w) (h : Calls P f args w fun e w'' => ∃ v, e = .returned v ∧ K v w'') : oGives P o a w K := by
  have hx : xs.map a.eval = args := by rw [← hx0]; exact Array.ext' (by simp)
  refine ⟨?_⟩
  unfold execOp
  simp only [ho, resolve, Act.eval, Deferred.ofValue, invoke, Sem.run_bind, Sem.run_pure, Result.andThen_ok]
  simp [hx, hf]
  exact gives_enter h
theorem RdS.grow {w w' : World} {B G : Nat} {s : St} {row : Option Nat} (h : RdS w B G s) (hg : w.grownBy w' row) (hG : G < w.heap.size) (hr : ∀ k, row = some k → B ≤ k ∧ k ≠ G) : RdS w' B G s := by
  obtain ⟨a, n, cap, h1, h2, h3⟩ := h
  exact ⟨a, n, cap, (hg.block G hG (fun e => (hr G e.symm).2 rfl)).trans h1, ⟨h2.1, h2.2.1, h2.2.2.1, h2.2.2.2.1, h2.2.2.2.2.grown hg (fun x k e1 e2 e => by have := h3 x e1; have := (hr k e2).1; omega)⟩, h3⟩
theorem below_grow {B : Nat} {w0 w w' : World} {row : Option Nat} (h : Below B w0 w) (hB : B ≤ w.heap.size) (hg : w.grownBy w' row) (hr : ∀ k, row = some k → B ≤ k) : Below B w0 w' :=
  h.trans ⟨hg.os, hg.tape, hg.output, hg.size, fun i hi => hg.block i (by omega) (fun e => by have := hr i e.symm; omega)⟩
theorem step11 {w wc w2 w4 : World} {B T S gg cap : Nat} {s' : St} {v : Value} {pre : List Int} {x cl ad lo : Int} {TC ZC : Array Value} (hBT : B + 1 < T) (hTS : T < S) (hS : S < wc.heap.size)
    (hS9 : wc.drew.heap[S]? = some (.cells #[.int .i64 cl, .int .i64 ad, v, .int .i64 lo] 43 (0, 0))) (hT9 : wc.drew.heap[T]? = some (.cells TC 45 (0, 0))) (hD9 : wc.drew.heap[B]? = some (.cells ZC 45 (0, 0)))
    (hb : Below B w wc) (hown : wc.drew.ownsRow (S + 1) 3 1 v pre.length (ints pre)) (hg2 : wc.drew.grownBy w2 (some (B + 1))) (hrd : RdS w2 B (B + 1) s') (hgrow : (w2.alloc (.cells #[.int .i64 x] 3)).grownBy w4 v.ownBlock)
    (hown1 : w4.ownsRow (S + 1) 3 1 (.slice (some ⟨gg, 0, none⟩) (pre.length + 1) cap) (pre.length + 1) (ints pre ++ [.int .i64 x])) :
    RdS (w4.setCell ⟨S, 2, none⟩ (.slice (some ⟨gg, 0, none⟩) (pre.length + 1) cap)) B (B + 1) s' ∧
    (w4.setCell ⟨S, 2, none⟩ (.slice (some ⟨gg, 0, none⟩) (pre.length + 1) cap)).heap[S]? = some (.cells #[.int .i64 cl, .int .i64 ad, .slice (some ⟨gg, 0, none⟩) (pre.length + 1) cap, .int .i64 lo] 43 (0, 0)) ∧
    (w4.setCell ⟨S, 2, none⟩ (.slice (some ⟨gg, 0, none⟩) (pre.length + 1) cap)).heap[T]? = some (.cells TC 45 (0, 0)) ∧
    (w4.setCell ⟨S, 2, none⟩ (.slice (some ⟨gg, 0, none⟩) (pre.length + 1) cap)).heap[B]? = some (.cells ZC 45 (0, 0)) ∧
    (w4.setCell ⟨S, 2, none⟩ (.slice (some ⟨gg, 0, none⟩) (pre.length + 1) cap)).ownsRow (S + 1) 3 1 (.slice (some ⟨gg, 0, none⟩) (pre.length + 1) cap) (pre ++ [x]).length (ints (pre ++ [x])) ∧
    Below B w (w4.setCell ⟨S, 2, none⟩ (.slice (some ⟨gg, 0, none⟩) (pre.length + 1) cap)) ∧
    S < (w4.setCell ⟨S, 2, none⟩ (.slice (some ⟨gg, 0, none⟩) (pre.length + 1) cap)).heap.size := by
  have hs2 : wc.heap.size ≤ w2.heap.size := hg2.size
  have hs3 : (w2.alloc (.cells #[.int .i64 x] 3)).heap.size = w2.heap.size + 1 := by simp
  have hs4 := hgrow.size
  rw [hs3] at hs4
  have ho : ∀ k, v.ownBlock = some k → S + 1 ≤ k := fun k hk => (hown.lt k hk).1
  have blk : ∀ k, k < wc.heap.size → k ≤ S → k ≠ B + 1 → w4.heap[k]? = wc.heap[k]? := fun k hk hks hn =>
    (hgrow.block k (by omega) (fun e => by have := ho k e.symm; omega)).trans ((Below.heap_alloc w2 _ k (by omega)).trans (hg2.block k hk (fun e => by injection e with e; exact hn e)))
  have hgS := grownBy_set w4 S 2 (.slice (some ⟨gg, 0, none⟩) (pre.length + 1) cap)
  have hrd4 : RdS w4 B (B + 1) s' := (hrd.grow (World.grownBy_alloc w2 (.cells #[.int .i64 x] 3) none) (by omega) (fun k hk => by cases hk)).grow hgrow (by omega) (fun k hk => by have := ho k hk; omega)
  refine ⟨hrd4.grow hgS (by omega) (fun k hk => by injection hk with hk; omega), heap_setCell_same w4 S 2 _ _ _ ((blk S hS (Nat.le_refl _) (by omega)).trans hS9), ?_, ?_, ?_, ?_, ?_⟩
  · exact (hgS.block T (by omega) (fun e => by injection e with e; omega)).trans ((blk T (by omega) (by omega) (by omega)).trans hT9)
  · exact (hgS.block B (by omega) (fun e => by injection e with e; omega)).trans ((blk B (by omega) (by omega) (by omega)).trans hD9)
  · have := hown1.kept hgS (.inr (by have := hown1.lt gg rfl; intro e; injection e with e; have e' : gg = S := e; omega))
    rw [List.length_append, show ints (pre ++ [x]) = ints pre ++ [.int .i64 x] by simp]
    exact this
  · have hb2 : Below B w w2 := below_grow (w := wc.drew) hb.drew (by show B ≤ wc.heap.size; omega) hg2 (fun k hk => by injection hk with hk; omega)
    exact below_grow (below_grow (hb2.alloc (by omega) (.cells #[.int .i64 x] 3)) (by omega) hgrow (fun k hk => by have := ho k hk; omega)) (by omega) hgS (fun k hk => by injection hk with hk; omega)
  · have := hgS.size; omega
theorem rdS_le (s : St) : (rdS s).1 ≤ 4611686018427387904 := by
  unfold rdS
  simp only
  split
  · omega
  · omega
theorem rdS_eat {s : St} (h : s.2 = 0) (h' : (rdS s).2.2 = 0) : (rdS s).2.1.length + 1 ≤ s.1.length := by
  have hp := ud_pos s.1
  have hb := (ud_bd s.1).2.2.1
  unfold rdS rdU at *
  rw [if_pos h] at *
  simp only [List.length_drop] at *
  have := hp h'
  omega
theorem rdN_go {N m : Nat} {s5 s : St} {pre : List Int} (h : rdN N s5 = (pre ++ (rdN (m + 1) s).1, (rdN (m + 1) s).2)) (h0 : s.2 = 0) : rdN N s5 = ((pre ++ [(rdS s).1]) ++ (rdN m (rdS s).2).1, (rdN m (rdS s).2).2) := by
  rw [h, rdN, if_pos h0]; simp
theorem rdN_end {N m : Nat} {s5 s : St} {pre : List Int} (h : rdN N s5 = (pre ++ (rdN m s).1, (rdN m s).2)) (h0 : ¬ (0 < m ∧ s.2 = 0)) : rdN N s5 = (pre, s) := by
  have : rdN m s = ([], s) := by
    cases m with
    | zero => rfl
    | succ m => rw [rdN, if_neg (fun e => h0 ⟨by omega, e⟩)]
  rw [h, this]; simp
theorem rdN_len {s : St} {pre : List Int} (h0 : s.2 = 0) (h : pre.length + s.1.length ≤ 90000) : (pre ++ [(rdS s).1]).length + (rdS s).2.1.length ≤ 90000 + (if (rdS s).2.2 = 0 then 0 else 1) := by
  have := rdS_len s
  rw [List.length_append, List.length_singleton]
  split
  · rename_i h'; have := rdS_eat h0 h'; omega
  · omega
theorem step_gives {P : Program} {ops : Array Oper} {o : Oper} {a : Act} {w : World} {K : Act → World → Prop} {Q : Exit → Act → World → Prop} {E : Prop} (R : Value → World → Prop) (hgd : o.guard = none) (hg : oGives P o a w R)
    (h : ∀ v w', R v w' → K (a.put o.dst v) w') : if Region.wanted o (yielded ops a.tmps) = true then Oper.wp P o a w K Q else E := by
  have hw : Region.wanted o (yielded ops a.tmps) = true := by simp [Region.wanted, hgd]
  rw [if_pos hw]
  exact wp_of_gives rfl hg h
theorem cell_alloc' {w : World} {b i : Nat} {v : Value} (o : Obj) (h : w.cell? ⟨b, i, none⟩ = some v) : (w.alloc o).cell? ⟨b, i, none⟩ = some v :=
  (World.cell?_of_block (w := w) (a := ⟨b, i, none⟩) (Below.heap_alloc w o b (World.block_lt_of_cell? w _ h))).trans h
theorem frozen_alloc' {w : World} {b i : Nat} {v : Value} (o : Obj) (h : w.cell? ⟨b, i, none⟩ = some v) (hz : w.frozen? ⟨b, i, none⟩ = false) : (w.alloc o).frozen? ⟨b, i, none⟩ = false :=
  (World.frozen?_of_block (w := w) (a := ⟨b, i, none⟩) (Below.heap_alloc w o b (World.block_lt_of_cell? w _ h))).trans hz
def inB (ops : Array Oper) (sz i t j : Nat) : Bool := decide (t < sz) && decide (j < i) && (dstOf ops j == some t) && (List.range i).all fun k => k == j || !(dstOf ops k == some t)
theorem fill_in {ops : Array Oper} {a0 : Act} {vs : Nat → Value} {i t : Nat} (j : Nat) (h : inB ops a0.tmps.size i t j = true) : (fillN ops a0 vs i).tmps[t]? = some (vs j) := by
  simp only [inB, Bool.and_eq_true, decide_eq_true_eq, beq_iff_eq, List.all_eq_true, List.mem_range, Bool.or_eq_true] at h
  obtain ⟨⟨⟨h1, h2⟩, h3⟩, h4⟩ := h
  refine fillN_in a0 vs h1 i h2 h3 (fun k hk hd => ?_)
  rcases h4 k hk with e | e
  · exact e
  · rw [hd] at e; simp at e
theorem fill_eval {ops : Array Oper} {a0 : Act} {vs : Nat → Value} {i t : Nat} (j : Nat) (h : inB ops a0.tmps.size i t j = true) : (fillN ops a0 vs i).eval (.tmp t) = vs j := by
  simp [Act.eval, fill_in j h]
def outB (ops : Array Oper) (i t : Nat) : Bool := (List.range i).all fun k => !(dstOf ops k == some t)
theorem fill_eval_out {ops : Array Oper} {a0 : Act} {vs : Nat → Value} {i t : Nat} (h : outB ops i t = true) : (fillN ops a0 vs i).eval (.tmp t) = a0.eval (.tmp t) := by
  have := fillN_out (ops := ops) a0 vs (t := t) i (fun j hj hd => by
    have := List.all_eq_true.1 h j (List.mem_range.2 hj)
    rw [hd] at this; simp at this)
  simp [Act.eval, Array.getD_eq_getD_getElem?, this]
theorem yield_in {ops : Array Oper} {a0 : Act} {vs : Nat → Value} {i j : Nat} {b : Bool} (t : Nat) (hd : dstOf ops j = some t) (h : inB ops a0.tmps.size i t j = true) (hv : vs j = .bool b) : yielded ops (fillN ops a0 vs i).tmps j = some b := by
  unfold yielded
  unfold dstOf at hd
  rw [hd]
  show (match (fillN ops a0 vs i).tmps[t]? with | some (.bool b) => some b | _ => none) = some b
  rw [fill_in j h, hv]
theorem ogives_store_row {P : Program} {o : Oper} {b : Act} {w : World} {K : Value → World → Prop} (ty : TypeId) (x y : Operand) (ho : o.op = .store ty x y)
    (g : Nat) (cells : Array Value) (hx : b.eval x = .pointer (some ⟨g, 0, none⟩)) (hy : b.eval y = .agg cells)
    (t : TypeId) (old : Array Value) (hg : w.heap[g]? = some (.cells old t (0, 0))) (hi : (P.info? ty).map (·.size) = some cells.size)
    (hold : old.size = cells.size) (h1 : cells.all (·.oneCell') = true)
    (h : K undef (w.setRow g cells)) : oGives P o b w K := by
  refine ⟨?_⟩
  unfold execOp
  simp only [ho, hx, hy, Instr.storeAt, Instr.sureAddr, Sem.run_bind, Sem.run_pure, Result.andThen_ok, run_storeVar_row w g t ty old cells hg hi hold h1]
  exact h
theorem ogives_load_row {P : Program} {o : Oper} {b : Act} {w : World} {K : Value → World → Prop} (ty : TypeId) (x : Operand) (ho : o.op = .load ty x)
    (g : Nat) (cells : Array Value) (fr : Nat × Nat) (hx : b.eval x = .pointer (some ⟨g, 0, none⟩))
    (t : TypeId) (hg : w.heap[g]? = some (.cells cells t fr)) (d : TypeDesc) (hu : P.underlying ty = some d) (hd : (match d with | .struct _ | .array _ _ => true | _ => false) = true) (hi : (P.info? ty).map (·.size) = some cells.size)
    (h : K (.agg cells) w) : oGives P o b w K := by
  refine ⟨?_⟩
  unfold execOp
  simp only [ho, hx, Instr.loadAt, Instr.sureAddr, Sem.run_bind, Sem.run_pure, Result.andThen_ok, run_loadVar_row w g t ty cells fr d hg hu hd hi]
  exact h
theorem grownBy_setRow (w : World) (g : Nat) (cs : Array Value) : w.grownBy (w.setRow g cs) (some g) :=
  ⟨rfl, rfl, rfl, by simp, fun k _ hn => Go.setRow_other w g k cs (fun e => hn (by rw [e]))⟩

set_option maxRecDepth 100000 in
set_option maxHeartbeats 16000000 in
theorem record_e (zs : List Nat) (hk1 : (rdS (zs, 0)).1 ≠ 1) (hk2 : (rdS (zs, 0)).1 ≠ 2) (a : Option Addr) (n cap : Nat) (w : World) (hby : Byt zs) (hlen : zs.length ≤ 90000) (hbs : Bs w a n cap zs) (hlt : ∀ x, a = some x → x.block < w.heap.size) : Calls Tryd.prog 36 #[.slice a n cap] w (RecPost zs w) := by
  have hrd1 : RdS ((w.alloc (.cells #[.int .i64 0, .int .i64 0, .int .i64 0, .slice none 0 0, .int .i64 0, .int .i64 0, .int .i64 0] 45)).alloc (.cells #[.slice a n cap, .int .i64 0] 92)) w.heap.size (w.heap.size + 1) (zs, 0) := by
    have e1 : (w.alloc (.cells #[.int .i64 0, .int .i64 0, .int .i64 0, .slice none 0 0, .int .i64 0, .int .i64 0, .int .i64 0] 45)).heap.size = w.heap.size + 1 := by simp
    refine ⟨a, n, cap, by rw [← e1]; exact heap_alloc_new _ _, hbs.below (((Below.refl _ _).alloc (Nat.le_refl _) _).alloc (by simp) _), hlt⟩
  have HRD := Lib.hid hrd1
  have hDz : ((w.alloc (.cells #[.int .i64 0, .int .i64 0, .int .i64 0, .slice none 0 0, .int .i64 0, .int .i64 0, .int .i64 0] 45)).alloc (.cells #[.slice a n cap, .int .i64 0] 92)).heap[w.heap.size]? = some (.cells #[.int .i64 0, .int .i64 0, .int .i64 0, .slice none 0 0, .int .i64 0, .int .i64 0, .int .i64 0] 45 (0, 0)) := by
    rw [Below.heap_alloc _ _ _ (by simp)]; exact heap_alloc_new _ _
  have hb1 : Below w.heap.size w ((w.alloc (.cells #[.int .i64 0, .int .i64 0, .int .i64 0, .slice none 0 0, .int .i64 0, .int .i64 0, .int .i64 0] 45)).alloc (.cells #[.slice a n cap, .int .i64 0] 92)) := ((Below.refl _ _).alloc (Nat.le_refl _) _).alloc (by simp) _
  have hsz1 : w.heap.size + 1 < ((w.alloc (.cells #[.int .i64 0, .int .i64 0, .int .i64 0, .slice none 0 0, .int .i64 0, .int .i64 0, .int .i64 0] 45)).alloc (.cells #[.slice a n cap, .int .i64 0] 92)).heap.size := by simp
  clear hrd1 hbs
  obtain ⟨k, hkv⟩ : ∃ k, (rdS (zs, 0)).1 = k := ⟨_, rfl⟩
  obtain ⟨s1, hs1⟩ : ∃ s, (rdS (zs, 0)).2 = s := ⟨_, rfl⟩
  have hy1 : Byt s1.1 := by rw [← hs1]; exact rdS_byt hby
  have hl1 : s1.1.length ≤ 90000 := by rw [← hs1]; exact Nat.le_trans (rdS_len _) hlen
  have HYD := Lib.hid hby
  rw [hkv] at hk1 hk2
  have hR : rdR zs = rdEnd k s1 := by unfold rdR; rw [hkv, hs1]; rw [if_neg hk1, if_neg hk2]
  have HR := Lib.hid hR
  go_enter Tryd.func36, Tryd.ntmps36
  go_upto_region 2 with fail
  generalize ((w.alloc (.cells #[.int .i64 0, .int .i64 0, .int .i64 0, .slice none 0 0, .int .i64 0, .int .i64 0, .int .i64 0] 45)).alloc (.cells #[.slice a n cap, .int .i64 0] 92)) = w1 at *
  go_wp2_with fail
  refine (small_a _ _ (by omega) (zs, 0) HYD.out (by show zs.length ≤ 100000; omega) _ HRD.out).mono ?_
  rintro e w2 ⟨rfl, hrd2, hg2⟩
  rw [hs1] at hrd2
  rw [hkv]
  have hD2 := (hg2.block w.heap.size (by omega) (by intro e; injection e with e; omega)).trans hDz
  have hb2 := hb1.trans (grown_below2 hg2 hb1.size (by omega))
  have hs2 := hg2.size
  have ht0 : (w2.alloc (.cells #[.int .i64 k, .int .i64 0, .int .i64 0, .slice none 0 0, .int .i64 0, .int .i64 0, .int .i64 0] 45)).heap[w2.heap.size]? = some (.cells #[.int .i64 k, .int .i64 0, .int .i64 0, .slice none 0 0, .int .i64 0, .int .i64 0, .int .i64 0] 45 (0, 0)) := heap_alloc_new _ _
  have hD3 := (Below.heap_alloc w2 (.cells #[.int .i64 k, .int .i64 0, .int .i64 0, .slice none 0 0, .int .i64 0, .int .i64 0, .int .i64 0] 45) w.heap.size (by omega)).trans hD2
  have hb3 := hb2.alloc (by omega) (.cells #[.int .i64 k, .int .i64 0, .int .i64 0, .slice none 0 0, .int .i64 0, .int .i64 0, .int .i64 0] 45)
  have hrd3 : RdS (w2.alloc (.cells #[.int .i64 k, .int .i64 0, .int .i64 0, .slice none 0 0, .int .i64 0, .int .i64 0, .int .i64 0] 45)) w.heap.size (w.heap.size + 1) s1 := by
    obtain ⟨a2, n2, c2, h1, h2, h3⟩ := hrd2
    exact ⟨a2, n2, c2, (Below.heap_alloc w2 _ _ (by omega)).trans h1, h2.below ((Below.refl _ _).alloc (Nat.le_refl _) _), h3⟩
  have hT2 : w2.heap.size < (w2.alloc (.cells #[.int .i64 k, .int .i64 0, .int .i64 0, .slice none 0 0, .int .i64 0, .int .i64 0, .int .i64 0] 45)).heap.size := by simp
  have hTs : w.heap.size + 1 < w2.heap.size := by omega
  have t0 : (w2.alloc (.cells #[.int .i64 k, .int .i64 0, .int .i64 0, .slice none 0 0, .int .i64 0, .int .i64 0, .int .i64 0] 45)).cell? ⟨w2.heap.size, 0, none⟩ = some (.int .i64 k) := cell_of_row _ _ 0 _ _ _ ht0
  clear hg2 hrd2 HRD hDz hD2 hb1 hb2 hkv hs1 hR
  go_upto_region 3 with fail
  generalize (w2.alloc (.cells #[.int .i64 k, .int .i64 0, .int .i64 0, .slice none 0 0, .int .i64 0, .int .i64 0, .int .i64 0] 45)) = w3 at *
  generalize w2.heap.size = T at *
  have d1 : (k == 1) = false := by simp [hk1]
  have d2 : (k == 2) = false := by simp [hk2]
  go_upto_region 15 with fail
  clear t0
  obtain ⟨x, hx⟩ : ∃ x : Rc, x = ⟨k, 0, 0, 0, 0, 0, []⟩ := ⟨_, rfl⟩
  obtain ⟨st, hst⟩ : ∃ st : St, st = s1 := ⟨_, rfl⟩
  obtain ⟨sa, hsa⟩ : ∃ sa : Option Addr, sa = none := ⟨_, rfl⟩
  obtain ⟨sn, hsn⟩ : ∃ sn : Nat, sn = 0 := ⟨_, rfl⟩
  obtain ⟨sc, hsc⟩ : ∃ sc : Nat, sc = 0 := ⟨_, rfl⟩
  have hrd := Lib.hid (show rdR zs = (x, stDone st && (ckR x == 0)) by rw [HR.out, hx, hst]; rfl)
  have hT7 : w3.heap[T]? = some (.cells #[.int .i64 x.kind, .int .i64 x.clock, .int .i64 x.addr, .slice sa sn sc, .int .i64 x.lost, .int .i64 x.index, .int .i64 x.value] 45 (0, 0)) := by rw [hx, hsa, hsn, hsc]; exact ht0
  have HGR := Lib.hid (show RdS w3 w.heap.size (w.heap.size + 1) st by rw [hst]; exact hrd3)
  have HLEN := Lib.hid (show st.1.length ≤ 100000 by rw [hst]; omega)
  have HIS := Lib.hid (show Is w3 sa sn sc x.chain by rw [hx, hsa, hsn, hsc]; exact ⟨rfl, Nat.le_refl _, by simp [maxLen], fun _ => rfl, Cells.nil _ _⟩)
  have HOWNS : Hid (w3.ownsRow (w.heap.size + 1) 3 1 (.slice sa sn sc) sn (ints x.chain)) := Lib.hid (by rw [hx, hsa, hsn, hsc]; exact World.ownsRow_nil _ _ _ _)
  have HSN := Lib.hid (show sn ≤ 100000 by omega)
  have hsaD : ∀ x, sa = some x → x.block ≠ w.heap.size := fun x hx => by rw [hsa] at hx; cases hx
  have hb7 := hb3
  have hD7 := hD3
  clear ht0 hx hst hsa hsn hsc hD3 hb3 hrd3 HR hy1 hl1 hlen hlt
  generalize w3 = w7 at *
  have hGD : w.heap.size + 1 ≠ w.heap.size := by omega
  have hTD : T ≠ w.heap.size := by omega
  have hhd : w.heap.size < w7.heap.size := by omega
  have hG2 : w.heap.size + 1 < w7.heap.size := by omega
  have c0 : w7.cell? ⟨T, 0, none⟩ = some (.int .i64 x.kind) := cell_of_row _ _ 0 _ _ _ hT7
  have c1 : w7.cell? ⟨T, 1, none⟩ = some (.int .i64 x.clock) := cell_of_row _ _ 1 _ _ _ hT7
  have c2 : w7.cell? ⟨T, 2, none⟩ = some (.int .i64 x.addr) := cell_of_row _ _ 2 _ _ _ hT7
  have c3 : w7.cell? ⟨T, 3, none⟩ = some (.slice sa sn sc) := cell_of_row _ _ 3 _ _ _ hT7
  have c4 : w7.cell? ⟨T, 4, none⟩ = some (.int .i64 x.lost) := cell_of_row _ _ 4 _ _ _ hT7
  have c5 : w7.cell? ⟨T, 5, none⟩ = some (.int .i64 x.index) := cell_of_row _ _ 5 _ _ _ hT7
  have c6 : w7.cell? ⟨T, 6, none⟩ = some (.int .i64 x.value) := cell_of_row _ _ 6 _ _ _ hT7
  cases hdn : stDone st
  · refine wp_stab 10 rfl (KD w.heap.size (.cells #[.int .i64 x.kind, .int .i64 x.clock, .int .i64 x.addr, .slice sa sn sc, .int .i64 x.lost, .int .i64 x.index, .int .i64 x.value] 45 (0, 0))) (StR w.heap.size (.cells #[.int .i64 x.kind, .int .i64 x.clock, .int .i64 x.addr, .slice sa sn sc, .int .i64 x.lost, .int .i64 x.index, .int .i64 x.value] 45 (0, 0)) 8 (recO (w.heap.size + 1) x (.agg #[.int .i64 x.kind, .int .i64 x.clock, .int .i64 x.addr, .slice sa sn sc, .int .i64 x.lost, .int .i64 x.index, .int .i64 x.value]))) (by kernel_rfl) (by kernel_rfl) (KD.refl _ _) (fun x y z => KD.trans) (fun j v w w' hk hr => StR.keeps hk hr) ?_ ?_
    · intro vs i o ho
      rcases i with _|_|_|_|_|_|_|_|_|_|i
      · simp at ho; subst ho
        refine os_plain rfl ?_
        intro wx hS hd
        have y0 := hS.cell (b := T) (o := 0) hT2 hTD c0
        have y1 := hS.cell (b := T) (o := 1) hT2 hTD c1
        have y2 := hS.cell (b := T) (o := 2) hT2 hTD c2
        have y3 := hS.cell (b := T) (o := 3) hT2 hTD c3
        have y4 := hS.cell (b := T) (o := 4) hT2 hTD c4
        have y5 := hS.cell (b := T) (o := 5) hT2 hTD c5
        have y6 := hS.cell (b := T) (o := 6) hT2 hTD c6
        refine ⟨?_⟩
        simp only [fillN, fillT]
        go_simp
        exact gives_value ⟨KD.refl _ _ _, StR.mk (by decide) rfl⟩
      · simp at ho; subst ho
        refine os_plain rfl ?_
        intro wx hS hd
        refine ⟨?_⟩
        simp only [fillN, fillT, putT, dstOf]
        go_simp
        exact gives_value ⟨KD.refl _ _ _, StR.mk (by decide) rfl⟩
      · simp at ho; subst ho
        refine os_plain rfl ?_
        intro wx hS hd
        have h1 : vs 1 = _ := StR.fix (hd 1 (by kernel_rfl)) (by decide)
        have hGx := HGR.out.kd hS hG2 hGD
        refine ⟨?_⟩
        simp only [fillN, fillT, putT, dstOf]
        simp only [h1]
        go_simp
        refine gives_enter ?_
        refine (done_a _ _ _ HLEN.out _ hGx).mono ?_
        rintro e w3 ⟨rfl, rfl⟩
        rw [hdn]
        exact ⟨_, rfl, KD.refl _ _ _, StR.mk (by decide) rfl⟩
      · simp at ho; subst ho
        refine os_plain rfl ?_
        intro wx hS hd
        have h2 : vs 2 = _ := StR.fix (hd 2 (by kernel_rfl)) (by decide)
        refine ⟨?_⟩
        simp only [fillN, fillT, putT, dstOf]
        simp only [h2]
        go_simp
        exact gives_value ⟨KD.refl _ _ _, StR.mk (by decide) rfl⟩
      · simp at ho; subst ho
        refine os_off rfl ?_
        intro wx hS hd
        have h3 : vs 3 = _ := StR.fix (hd 3 (by kernel_rfl)) (by decide)
        exact ⟨yield_in 61 rfl (by kernel_rfl) h3, StR.mk (by decide) rfl⟩
      · simp at ho; subst ho
        refine os_off rfl ?_
        intro wx hS hd
        have h3 : vs 3 = _ := StR.fix (hd 3 (by kernel_rfl)) (by decide)
        exact ⟨yield_in 61 rfl (by kernel_rfl) h3, StR.mk (by decide) rfl⟩
      · simp at ho; subst ho
        refine os_off rfl ?_
        intro wx hS hd
        have h3 : vs 3 = _ := StR.fix (hd 3 (by kernel_rfl)) (by decide)
        exact ⟨yield_in 61 rfl (by kernel_rfl) h3, StR.mk (by decide) rfl⟩
      · simp at ho; subst ho
        refine os_plain rfl ?_
        intro wx hS hd
        have h3 : vs 3 = _ := StR.fix (hd 3 (by kernel_rfl)) (by decide)
        have h6 : vs 6 = _ := StR.fix (hd 6 (by kernel_rfl)) (by decide)
        refine ⟨?_⟩
        simp only [fillN, fillT, putT, dstOf]
        simp only [h3, h6]
        go_simp
        exact gives_value ⟨KD.refl _ _ _, StR.mk (by decide) rfl⟩
      · simp at ho; subst ho
        refine os_plain rfl ?_
        intro wx hS hd
        have h0 : vs 0 = .agg #[.int .i64 x.kind, .int .i64 x.clock, .int .i64 x.addr, .slice sa sn sc, .int .i64 x.lost, .int .i64 x.index, .int .i64 x.value] := StR.fix (hd 0 (by kernel_rfl)) (by decide)
        rcases hS.fin with e9 | e9
        · exact ogives_store_row _ _ _ rfl w.heap.size #[.int .i64 x.kind, .int .i64 x.clock, .int .i64 x.addr, .slice sa sn sc, .int .i64 x.lost, .int .i64 x.index, .int .i64 x.value] ((fill_eval_out (by kernel_rfl)).trans rfl) ((fill_eval 0 (by kernel_rfl)).trans h0) 45 _ (e9.trans hD7) (by kernel_rfl) rfl (by kernel_rfl) ⟨kd_of_grown (grownBy_setRow _ _ _) (setRow_heap _ _ _ _ _ _ (e9.trans hD7)), setRow_heap _ _ _ _ _ _ (e9.trans hD7)⟩
        · exact ogives_store_row _ _ _ rfl w.heap.size #[.int .i64 x.kind, .int .i64 x.clock, .int .i64 x.addr, .slice sa sn sc, .int .i64 x.lost, .int .i64 x.index, .int .i64 x.value] ((fill_eval_out (by kernel_rfl)).trans rfl) ((fill_eval 0 (by kernel_rfl)).trans h0) 45 _ e9 (by kernel_rfl) rfl (by kernel_rfl) ⟨kd_of_grown (grownBy_setRow _ _ _) (setRow_heap _ _ _ _ _ _ e9), setRow_heap _ _ _ _ _ _ e9⟩
      · simp at ho; subst ho
        refine os_plain rfl ?_
        intro wx hS hd
        have h7 : vs 7 = _ := StR.fix (hd 7 (by kernel_rfl)) (by decide)
        refine ⟨?_⟩
        simp only [fillN, fillT, putT, dstOf]
        simp only [h7]
        go_simp
        exact gives_value ⟨KD.refl _ _ _, StR.mk (by decide) rfl⟩
      · simp at ho
    · intro vs w' hS hall
      have h9 : vs 9 = .bool (false) := StR.fix (hall 9 (by simp)) (by decide)
      have hF := (hall 8 (by simp)).fin
      simp only [fillN, fillT, putT, dstOf]
      simp [h9]
      have hend : Below w.heap.size w w' := hb7.trans ⟨hS.os, hS.tape, hS.output, hS.size, fun k hk => hS.heap k (by show k < w7.heap.size; omega) (by omega)⟩
      have HISE := Lib.hid (ownsRow_mono (World.ownsRow.kept (w := w7.drew) HOWNS.out hS.grown (.inr (fun e => by have := HOWNS.out.lt _ e; omega))) (show w.heap.size ≤ w.heap.size + 1 by omega))
      clear hall hS
      go_wp2_with fail
      refine bodyPost_ret (results_cell_row_tmp Tryd.results36 _ _ w.heap.size 45 _ _ _ rfl hF Tryd.underlying45 rfl (by kernel_rfl)) rfl ?_
      refine ⟨sa, sn, sc, ?_, by rw [hrd.out]; exact HISE.out, hend⟩
      rw [hrd.out, hdn]
      first | rfl | (cases ckR x <;> rfl)
  · refine wp_stab 10 rfl (KD w.heap.size (.cells #[.int .i64 x.kind, .int .i64 x.clock, .int .i64 x.addr, .slice sa sn sc, .int .i64 x.lost, .int .i64 x.index, .int .i64 x.value] 45 (0, 0))) (StR w.heap.size (.cells #[.int .i64 x.kind, .int .i64 x.clock, .int .i64 x.addr, .slice sa sn sc, .int .i64 x.lost, .int .i64 x.index, .int .i64 x.value] 45 (0, 0)) 8 (recD (w.heap.size + 1) x (.agg #[.int .i64 x.kind, .int .i64 x.clock, .int .i64 x.addr, .slice sa sn sc, .int .i64 x.lost, .int .i64 x.index, .int .i64 x.value]))) (by kernel_rfl) (by kernel_rfl) (KD.refl _ _) (fun x y z => KD.trans) (fun j v w w' hk hr => StR.keeps hk hr) ?_ ?_
    · intro vs i o ho
      rcases i with _|_|_|_|_|_|_|_|_|_|i
      · simp at ho; subst ho
        refine os_plain rfl ?_
        intro wx hS hd
        have y0 := hS.cell (b := T) (o := 0) hT2 hTD c0
        have y1 := hS.cell (b := T) (o := 1) hT2 hTD c1
        have y2 := hS.cell (b := T) (o := 2) hT2 hTD c2
        have y3 := hS.cell (b := T) (o := 3) hT2 hTD c3
        have y4 := hS.cell (b := T) (o := 4) hT2 hTD c4
        have y5 := hS.cell (b := T) (o := 5) hT2 hTD c5
        have y6 := hS.cell (b := T) (o := 6) hT2 hTD c6
        refine ⟨?_⟩
        simp only [fillN, fillT]
        go_simp
        exact gives_value ⟨KD.refl _ _ _, StR.mk (by decide) rfl⟩
      · simp at ho; subst ho
        refine os_plain rfl ?_
        intro wx hS hd
        refine ⟨?_⟩
        simp only [fillN, fillT, putT, dstOf]
        go_simp
        exact gives_value ⟨KD.refl _ _ _, StR.mk (by decide) rfl⟩
      · simp at ho; subst ho
        refine os_plain rfl ?_
        intro wx hS hd
        have h1 : vs 1 = _ := StR.fix (hd 1 (by kernel_rfl)) (by decide)
        have hGx := HGR.out.kd hS hG2 hGD
        refine ⟨?_⟩
        simp only [fillN, fillT, putT, dstOf]
        simp only [h1]
        go_simp
        refine gives_enter ?_
        refine (done_a _ _ _ HLEN.out _ hGx).mono ?_
        rintro e w3 ⟨rfl, rfl⟩
        rw [hdn]
        exact ⟨_, rfl, KD.refl _ _ _, StR.mk (by decide) rfl⟩
      · simp at ho; subst ho
        refine os_plain rfl ?_
        intro wx hS hd
        have h2 : vs 2 = _ := StR.fix (hd 2 (by kernel_rfl)) (by decide)
        refine ⟨?_⟩
        simp only [fillN, fillT, putT, dstOf]
        simp only [h2]
        go_simp
        exact gives_value ⟨KD.refl _ _ _, StR.mk (by decide) rfl⟩
      · simp at ho; subst ho
        refine os_guard rfl ?_
        intro wx hS hd
        have h3 : vs 3 = _ := StR.fix (hd 3 (by kernel_rfl)) (by decide)
        have y0 := hS.cell (b := T) (o := 0) hT2 hTD c0
        have y1 := hS.cell (b := T) (o := 1) hT2 hTD c1
        have y2 := hS.cell (b := T) (o := 2) hT2 hTD c2
        have y3 := hS.cell (b := T) (o := 3) hT2 hTD c3
        have y4 := hS.cell (b := T) (o := 4) hT2 hTD c4
        have y5 := hS.cell (b := T) (o := 5) hT2 hTD c5
        have y6 := hS.cell (b := T) (o := 6) hT2 hTD c6
        refine ⟨yield_in 61 rfl (by kernel_rfl) h3, ⟨?_⟩⟩
        simp only [fillN, fillT, putT, dstOf]
        simp only [h3]
        go_simp
        exact gives_value ⟨KD.refl _ _ _, StR.mk (by decide) rfl⟩
      · simp at ho; subst ho
        refine os_guard rfl ?_
        intro wx hS hd
        have h3 : vs 3 = _ := StR.fix (hd 3 (by kernel_rfl)) (by decide)
        have h4 : vs 4 = _ := StR.fix (hd 4 (by kernel_rfl)) (by decide)
        refine ⟨yield_in 61 rfl (by kernel_rfl) h3, ⟨?_⟩⟩
        simp only [fillN, fillT, putT, dstOf]
        simp only [h3, h4]
        go_simp
        refine gives_enter ?_
        refine (CheckRecord_any x sa sn sc HSN.out _ (HIS.out.kd hS hsaD)).mono ?_
        rintro e w3 ⟨rfl, hb3⟩
        exact ⟨_, rfl, KD.of_below hb3 (by have h9 : w7.heap.size ≤ wx.heap.size := hS.size; omega), StR.mk (by decide) rfl⟩
      · simp at ho; subst ho
        refine os_guard rfl ?_
        intro wx hS hd
        have h3 : vs 3 = _ := StR.fix (hd 3 (by kernel_rfl)) (by decide)
        have h5 : vs 5 = _ := StR.fix (hd 5 (by kernel_rfl)) (by decide)
        refine ⟨yield_in 61 rfl (by kernel_rfl) h3, ⟨?_⟩⟩
        simp only [fillN, fillT, putT, dstOf]
        simp only [h3, h5]
        go_simp
        exact gives_value ⟨KD.refl _ _ _, StR.mk (by decide) rfl⟩
      · simp at ho; subst ho
        refine os_plain rfl ?_
        intro wx hS hd
        have h3 : vs 3 = _ := StR.fix (hd 3 (by kernel_rfl)) (by decide)
        have h6 : vs 6 = _ := StR.fix (hd 6 (by kernel_rfl)) (by decide)
        refine ⟨?_⟩
        simp only [fillN, fillT, putT, dstOf]
        simp only [h3, h6]
        go_simp
        exact gives_value ⟨KD.refl _ _ _, StR.mk (by decide) rfl⟩
      · simp at ho; subst ho
        refine os_plain rfl ?_
        intro wx hS hd
        have h0 : vs 0 = .agg #[.int .i64 x.kind, .int .i64 x.clock, .int .i64 x.addr, .slice sa sn sc, .int .i64 x.lost, .int .i64 x.index, .int .i64 x.value] := StR.fix (hd 0 (by kernel_rfl)) (by decide)
        rcases hS.fin with e9 | e9
        · exact ogives_store_row _ _ _ rfl w.heap.size #[.int .i64 x.kind, .int .i64 x.clock, .int .i64 x.addr, .slice sa sn sc, .int .i64 x.lost, .int .i64 x.index, .int .i64 x.value] ((fill_eval_out (by kernel_rfl)).trans rfl) ((fill_eval 0 (by kernel_rfl)).trans h0) 45 _ (e9.trans hD7) (by kernel_rfl) rfl (by kernel_rfl) ⟨kd_of_grown (grownBy_setRow _ _ _) (setRow_heap _ _ _ _ _ _ (e9.trans hD7)), setRow_heap _ _ _ _ _ _ (e9.trans hD7)⟩
        · exact ogives_store_row _ _ _ rfl w.heap.size #[.int .i64 x.kind, .int .i64 x.clock, .int .i64 x.addr, .slice sa sn sc, .int .i64 x.lost, .int .i64 x.index, .int .i64 x.value] ((fill_eval_out (by kernel_rfl)).trans rfl) ((fill_eval 0 (by kernel_rfl)).trans h0) 45 _ e9 (by kernel_rfl) rfl (by kernel_rfl) ⟨kd_of_grown (grownBy_setRow _ _ _) (setRow_heap _ _ _ _ _ _ e9), setRow_heap _ _ _ _ _ _ e9⟩
      · simp at ho; subst ho
        refine os_plain rfl ?_
        intro wx hS hd
        have h7 : vs 7 = _ := StR.fix (hd 7 (by kernel_rfl)) (by decide)
        refine ⟨?_⟩
        simp only [fillN, fillT, putT, dstOf]
        simp only [h7]
        go_simp
        exact gives_value ⟨KD.refl _ _ _, StR.mk (by decide) rfl⟩
      · simp at ho
    · intro vs w' hS hall
      have h9 : vs 9 = .bool (((ckR x : Nat) : Int) == 0) := StR.fix (hall 9 (by simp)) (by decide)
      have hF := (hall 8 (by simp)).fin
      simp only [fillN, fillT, putT, dstOf]
      simp [h9]
      have hend : Below w.heap.size w w' := hb7.trans ⟨hS.os, hS.tape, hS.output, hS.size, fun k hk => hS.heap k (by show k < w7.heap.size; omega) (by omega)⟩
      have HISE := Lib.hid (ownsRow_mono (World.ownsRow.kept (w := w7.drew) HOWNS.out hS.grown (.inr (fun e => by have := HOWNS.out.lt _ e; omega))) (show w.heap.size ≤ w.heap.size + 1 by omega))
      clear hall hS
      go_wp2_with fail
      refine bodyPost_ret (results_cell_row_tmp Tryd.results36 _ _ w.heap.size 45 _ _ _ rfl hF Tryd.underlying45 rfl (by kernel_rfl)) rfl ?_
      refine ⟨sa, sn, sc, ?_, by rw [hrd.out]; exact HISE.out, hend⟩
      rw [hrd.out, hdn]
      first | rfl | (cases ckR x <;> rfl)

set_option maxRecDepth 100000 in
set_option maxHeartbeats 16000000 in
theorem record_c (zs : List Nat) (hk2 : (rdS (zs, 0)).1 = 2) (a : Option Addr) (n cap : Nat) (w : World) (hby : Byt zs) (hlen : zs.length ≤ 90000) (hbs : Bs w a n cap zs) (hlt : ∀ x, a = some x → x.block < w.heap.size) : Calls Tryd.prog 36 #[.slice a n cap] w (RecPost zs w) := by
  have hrd1 : RdS ((w.alloc (.cells #[.int .i64 0, .int .i64 0, .int .i64 0, .slice none 0 0, .int .i64 0, .int .i64 0, .int .i64 0] 45)).alloc (.cells #[.slice a n cap, .int .i64 0] 92)) w.heap.size (w.heap.size + 1) (zs, 0) := by
    have e1 : (w.alloc (.cells #[.int .i64 0, .int .i64 0, .int .i64 0, .slice none 0 0, .int .i64 0, .int .i64 0, .int .i64 0] 45)).heap.size = w.heap.size + 1 := by simp
    refine ⟨a, n, cap, by rw [← e1]; exact heap_alloc_new _ _, hbs.below (((Below.refl _ _).alloc (Nat.le_refl _) _).alloc (by simp) _), hlt⟩
  have HRD := Lib.hid hrd1
  have hDz : ((w.alloc (.cells #[.int .i64 0, .int .i64 0, .int .i64 0, .slice none 0 0, .int .i64 0, .int .i64 0, .int .i64 0] 45)).alloc (.cells #[.slice a n cap, .int .i64 0] 92)).heap[w.heap.size]? = some (.cells #[.int .i64 0, .int .i64 0, .int .i64 0, .slice none 0 0, .int .i64 0, .int .i64 0, .int .i64 0] 45 (0, 0)) := by
    rw [Below.heap_alloc _ _ _ (by simp)]; exact heap_alloc_new _ _
  have hb1 : Below w.heap.size w ((w.alloc (.cells #[.int .i64 0, .int .i64 0, .int .i64 0, .slice none 0 0, .int .i64 0, .int .i64 0, .int .i64 0] 45)).alloc (.cells #[.slice a n cap, .int .i64 0] 92)) := ((Below.refl _ _).alloc (Nat.le_refl _) _).alloc (by simp) _
  have hsz1 : w.heap.size + 1 < ((w.alloc (.cells #[.int .i64 0, .int .i64 0, .int .i64 0, .slice none 0 0, .int .i64 0, .int .i64 0, .int .i64 0] 45)).alloc (.cells #[.slice a n cap, .int .i64 0] 92)).heap.size := by simp
  clear hrd1 hbs
  obtain ⟨k, hkv⟩ : ∃ k, (rdS (zs, 0)).1 = k := ⟨_, rfl⟩
  obtain ⟨s1, hs1⟩ : ∃ s, (rdS (zs, 0)).2 = s := ⟨_, rfl⟩
  have hy1 : Byt s1.1 := by rw [← hs1]; exact rdS_byt hby
  have hl1 : s1.1.length ≤ 90000 := by rw [← hs1]; exact Nat.le_trans (rdS_len _) hlen
  have HYD := Lib.hid hby
  rw [hkv] at hk2
  have hR : rdR zs = rdCnt s1 := by unfold rdR; rw [hkv, hs1]; rw [if_neg (by omega), if_pos hk2]
  have HR := Lib.hid hR
  have HK2 := Lib.hid hk2
  clear hk2
  go_enter Tryd.func36, Tryd.ntmps36
  go_upto_region 2 with fail
  generalize ((w.alloc (.cells #[.int .i64 0, .int .i64 0, .int .i64 0, .slice none 0 0, .int .i64 0, .int .i64 0, .int .i64 0] 45)).alloc (.cells #[.slice a n cap, .int .i64 0] 92)) = w1 at *
  go_wp2_with fail
  refine (small_a _ _ (by omega) (zs, 0) HYD.out (by show zs.length ≤ 100000; omega) _ HRD.out).mono ?_
  rintro e w2 ⟨rfl, hrd2, hg2⟩
  rw [hs1] at hrd2
  rw [hkv]
  have hD2 := (hg2.block w.heap.size (by omega) (by intro e; injection e with e; omega)).trans hDz
  have hb2 := hb1.trans (grown_below2 hg2 hb1.size (by omega))
  have hs2 := hg2.size
  have ht0 : (w2.alloc (.cells #[.int .i64 k, .int .i64 0, .int .i64 0, .slice none 0 0, .int .i64 0, .int .i64 0, .int .i64 0] 45)).heap[w2.heap.size]? = some (.cells #[.int .i64 k, .int .i64 0, .int .i64 0, .slice none 0 0, .int .i64 0, .int .i64 0, .int .i64 0] 45 (0, 0)) := heap_alloc_new _ _
  have hD3 := (Below.heap_alloc w2 (.cells #[.int .i64 k, .int .i64 0, .int .i64 0, .slice none 0 0, .int .i64 0, .int .i64 0, .int .i64 0] 45) w.heap.size (by omega)).trans hD2
  have hb3 := hb2.alloc (by omega) (.cells #[.int .i64 k, .int .i64 0, .int .i64 0, .slice none 0 0, .int .i64 0, .int .i64 0, .int .i64 0] 45)
  have hrd3 : RdS (w2.alloc (.cells #[.int .i64 k, .int .i64 0, .int .i64 0, .slice none 0 0, .int .i64 0, .int .i64 0, .int .i64 0] 45)) w.heap.size (w.heap.size + 1) s1 := by
    obtain ⟨a2, n2, c2, h1, h2, h3⟩ := hrd2
    exact ⟨a2, n2, c2, (Below.heap_alloc w2 _ _ (by omega)).trans h1, h2.below ((Below.refl _ _).alloc (Nat.le_refl _) _), h3⟩
  have hT2 : w2.heap.size < (w2.alloc (.cells #[.int .i64 k, .int .i64 0, .int .i64 0, .slice none 0 0, .int .i64 0, .int .i64 0, .int .i64 0] 45)).heap.size := by simp
  have hTs : w.heap.size + 1 < w2.heap.size := by omega
  have t0 : (w2.alloc (.cells #[.int .i64 k, .int .i64 0, .int .i64 0, .slice none 0 0, .int .i64 0, .int .i64 0, .int .i64 0] 45)).cell? ⟨w2.heap.size, 0, none⟩ = some (.int .i64 k) := cell_of_row _ _ 0 _ _ _ ht0
  clear hg2 hrd2 HRD hDz hD2 hb1 hb2 hkv hs1 hR
  go_upto_region 3 with fail
  generalize (w2.alloc (.cells #[.int .i64 k, .int .i64 0, .int .i64 0, .slice none 0 0, .int .i64 0, .int .i64 0, .int .i64 0] 45)) = w3 at *
  generalize w2.heap.size = T at *
  have hk2 := HK2.out
  clear HK2
  subst hk2
  go_wp2_with fail
  refine (small_a _ _ (by omega) s1 hy1 (by omega) _ hrd3).mono ?_
  rintro e w4 ⟨rfl, hrd4, hg4⟩
  have hy2 := rdS_byt hy1
  have hl2 := Nat.le_trans (rdS_len s1) hl1
  go_wp2_with fail
  refine (small_a _ _ (by omega) _ hy2 (by omega) _ hrd4).mono ?_
  rintro e w5 ⟨rfl, hrd5, hg5⟩
  have hl3 := Nat.le_trans (rdS_len (rdS s1).2) hl2
  have hrdx := Lib.hid (show rdR zs = (cntOf s1, stDone (rdS (rdS s1).2).2 && (ckR (cntOf s1) == 0)) by rw [HR.out]; rfl)
  obtain ⟨x, hx⟩ : ∃ x : Rc, x = cntOf s1 := ⟨_, rfl⟩
  obtain ⟨st, hst⟩ : ∃ st : St, st = (rdS (rdS s1).2).2 := ⟨_, rfl⟩
  obtain ⟨p, hp⟩ : ∃ p, (rdS s1).1 = p := ⟨_, rfl⟩
  obtain ⟨q, hq⟩ : ∃ q, (rdS (rdS s1).2).1 = q := ⟨_, rfl⟩
  have hxx : x = ⟨2, 0, 0, 0, p, q, []⟩ := by rw [hx]; unfold cntOf; rw [hp, hq]
  have hrd := Lib.hid (show rdR zs = (x, stDone st && (ckR x == 0)) by rw [hrdx.out, hx, hst])
  rw [hp, hq]
  rw [← hst] at hrd5 hl3
  have hg35 := grownBy_trans hg4 hg5
  have hT5 := (hg35.block T hT2 (by intro e; injection e with e; omega)).trans ht0
  have hD5 := (hg35.block w.heap.size (by omega) (by intro e; injection e with e; omega)).trans hD3
  have hb5 := hb3.trans (grown_below2 hg35 hb3.size (by omega))
  have hs5 := hg35.size
  have f5 : w5.cell? ⟨T, 5, none⟩ = some (.int .i64 0) := cell_of_row _ _ 5 _ _ _ hT5
  have f6 : w5.cell? ⟨T, 6, none⟩ = some (.int .i64 0) := cell_of_row _ _ 6 _ _ _ hT5
  have z5 : w5.frozen? ⟨T, 5, none⟩ = false := unfrozen_of_row hT5
  have z6 : w5.frozen? ⟨T, 6, none⟩ = false := unfrozen_of_row hT5
  have hgS := grown_set (grownBy_set w5 T 5 (.int .i64 p)) 6 (.int .i64 q)
  have hT6 : ((w5.setCell ⟨T, 5, none⟩ (.int .i64 p)).setCell ⟨T, 6, none⟩ (.int .i64 q)).heap[T]? = some (.cells #[.int .i64 2, .int .i64 0, .int .i64 0, .slice none 0 0, .int .i64 0, .int .i64 p, .int .i64 q] 45 (0, 0)) := heap_setCell_same _ T 6 _ _ (.int .i64 q) (heap_setCell_same w5 T 5 _ _ (.int .i64 p) hT5)
  have hD7 := (hgS.block w.heap.size (by omega) (by intro e; injection e with e; omega)).trans hD5
  have hGR0 : RdS ((w5.setCell ⟨T, 5, none⟩ (.int .i64 p)).setCell ⟨T, 6, none⟩ (.int .i64 q)) w.heap.size (w.heap.size + 1) st := by
    obtain ⟨a2, n2, c2, h1, h2, h3⟩ := hrd5
    exact ⟨a2, n2, c2, (hgS.block (w.heap.size + 1) (by omega) (by intro e; injection e with e; omega)).trans h1, h2.not_block (fun x hx => by have := h3 x hx; omega) hgS, h3⟩
  have hb7 := hb5.trans (grown_below2 hgS hb5.size (by omega))
  have hs7 := hgS.size
  clear hg4 hg5 hrd3 hrd4 hrd5 hg35 hD3 hD5 hb3 hb5 ht0 t0 hrdx hx hst hp hq HR
  go_upto_region 15 with fail
  clear f5 f6 z5 z6 hT5 hgS
  generalize ((w5.setCell ⟨T, 5, none⟩ (.int .i64 p)).setCell ⟨T, 6, none⟩ (.int .i64 q)) = w7 at *
  have hT2' : T < w7.heap.size := by omega
  replace hT2 := hT2'
  obtain ⟨sa, hsa⟩ : ∃ sa : Option Addr, sa = none := ⟨_, rfl⟩
  obtain ⟨sn, hsn⟩ : ∃ sn : Nat, sn = 0 := ⟨_, rfl⟩
  obtain ⟨sc, hsc⟩ : ∃ sc : Nat, sc = 0 := ⟨_, rfl⟩
  have hT7 : w7.heap[T]? = some (.cells #[.int .i64 x.kind, .int .i64 x.clock, .int .i64 x.addr, .slice sa sn sc, .int .i64 x.lost, .int .i64 x.index, .int .i64 x.value] 45 (0, 0)) := by rw [hxx, hsa, hsn, hsc]; exact hT6
  have HGR := Lib.hid hGR0
  have HLEN := Lib.hid (show st.1.length ≤ 100000 by omega)
  have HIS := Lib.hid (show Is w7 sa sn sc x.chain by rw [hxx, hsa, hsn, hsc]; exact ⟨rfl, Nat.le_refl _, by simp [maxLen], fun _ => rfl, Cells.nil _ _⟩)
  have HOWNS : Hid (w7.ownsRow (w.heap.size + 1) 3 1 (.slice sa sn sc) sn (ints x.chain)) := Lib.hid (by rw [hxx, hsa, hsn, hsc]; exact World.ownsRow_nil _ _ _ _)
  have HSN := Lib.hid (show sn ≤ 100000 by omega)
  have hsaD : ∀ x, sa = some x → x.block ≠ w.heap.size := fun x hx => by rw [hsa] at hx; cases hx
  clear hxx hsa hsn hsc hT6 hGR0 hy1 hl1 hlen hlt
  have hGD : w.heap.size + 1 ≠ w.heap.size := by omega
  have hTD : T ≠ w.heap.size := by omega
  have hhd : w.heap.size < w7.heap.size := by omega
  have hG2 : w.heap.size + 1 < w7.heap.size := by omega
  have c0 : w7.cell? ⟨T, 0, none⟩ = some (.int .i64 x.kind) := cell_of_row _ _ 0 _ _ _ hT7
  have c1 : w7.cell? ⟨T, 1, none⟩ = some (.int .i64 x.clock) := cell_of_row _ _ 1 _ _ _ hT7
  have c2 : w7.cell? ⟨T, 2, none⟩ = some (.int .i64 x.addr) := cell_of_row _ _ 2 _ _ _ hT7
  have c3 : w7.cell? ⟨T, 3, none⟩ = some (.slice sa sn sc) := cell_of_row _ _ 3 _ _ _ hT7
  have c4 : w7.cell? ⟨T, 4, none⟩ = some (.int .i64 x.lost) := cell_of_row _ _ 4 _ _ _ hT7
  have c5 : w7.cell? ⟨T, 5, none⟩ = some (.int .i64 x.index) := cell_of_row _ _ 5 _ _ _ hT7
  have c6 : w7.cell? ⟨T, 6, none⟩ = some (.int .i64 x.value) := cell_of_row _ _ 6 _ _ _ hT7
  cases hdn : stDone st
  · refine wp_stab 10 rfl (KD w.heap.size (.cells #[.int .i64 x.kind, .int .i64 x.clock, .int .i64 x.addr, .slice sa sn sc, .int .i64 x.lost, .int .i64 x.index, .int .i64 x.value] 45 (0, 0))) (StR w.heap.size (.cells #[.int .i64 x.kind, .int .i64 x.clock, .int .i64 x.addr, .slice sa sn sc, .int .i64 x.lost, .int .i64 x.index, .int .i64 x.value] 45 (0, 0)) 8 (recO (w.heap.size + 1) x (.agg #[.int .i64 x.kind, .int .i64 x.clock, .int .i64 x.addr, .slice sa sn sc, .int .i64 x.lost, .int .i64 x.index, .int .i64 x.value]))) (by kernel_rfl) (by kernel_rfl) (KD.refl _ _) (fun x y z => KD.trans) (fun j v w w' hk hr => StR.keeps hk hr) ?_ ?_
    · intro vs i o ho
      rcases i with _|_|_|_|_|_|_|_|_|_|i
      · simp at ho; subst ho
        refine os_plain rfl ?_
        intro wx hS hd
        have y0 := hS.cell (b := T) (o := 0) hT2 hTD c0
        have y1 := hS.cell (b := T) (o := 1) hT2 hTD c1
        have y2 := hS.cell (b := T) (o := 2) hT2 hTD c2
        have y3 := hS.cell (b := T) (o := 3) hT2 hTD c3
        have y4 := hS.cell (b := T) (o := 4) hT2 hTD c4
        have y5 := hS.cell (b := T) (o := 5) hT2 hTD c5
        have y6 := hS.cell (b := T) (o := 6) hT2 hTD c6
        refine ⟨?_⟩
        simp only [fillN, fillT]
        go_simp
        exact gives_value ⟨KD.refl _ _ _, StR.mk (by decide) rfl⟩
      · simp at ho; subst ho
        refine os_plain rfl ?_
        intro wx hS hd
        refine ⟨?_⟩
        simp only [fillN, fillT, putT, dstOf]
        go_simp
        exact gives_value ⟨KD.refl _ _ _, StR.mk (by decide) rfl⟩
      · simp at ho; subst ho
        refine os_plain rfl ?_
        intro wx hS hd
        have h1 : vs 1 = _ := StR.fix (hd 1 (by kernel_rfl)) (by decide)
        have hGx := HGR.out.kd hS hG2 hGD
        refine ⟨?_⟩
        simp only [fillN, fillT, putT, dstOf]
        simp only [h1]
        go_simp
        refine gives_enter ?_
        refine (done_a _ _ _ HLEN.out _ hGx).mono ?_
        rintro e w3 ⟨rfl, rfl⟩
        rw [hdn]
        exact ⟨_, rfl, KD.refl _ _ _, StR.mk (by decide) rfl⟩
      · simp at ho; subst ho
        refine os_plain rfl ?_
        intro wx hS hd
        have h2 : vs 2 = _ := StR.fix (hd 2 (by kernel_rfl)) (by decide)
        refine ⟨?_⟩
        simp only [fillN, fillT, putT, dstOf]
        simp only [h2]
        go_simp
        exact gives_value ⟨KD.refl _ _ _, StR.mk (by decide) rfl⟩
      · simp at ho; subst ho
        refine os_off rfl ?_
        intro wx hS hd
        have h3 : vs 3 = _ := StR.fix (hd 3 (by kernel_rfl)) (by decide)
        exact ⟨yield_in 61 rfl (by kernel_rfl) h3, StR.mk (by decide) rfl⟩
      · simp at ho; subst ho
        refine os_off rfl ?_
        intro wx hS hd
        have h3 : vs 3 = _ := StR.fix (hd 3 (by kernel_rfl)) (by decide)
        exact ⟨yield_in 61 rfl (by kernel_rfl) h3, StR.mk (by decide) rfl⟩
      · simp at ho; subst ho
        refine os_off rfl ?_
        intro wx hS hd
        have h3 : vs 3 = _ := StR.fix (hd 3 (by kernel_rfl)) (by decide)
        exact ⟨yield_in 61 rfl (by kernel_rfl) h3, StR.mk (by decide) rfl⟩
      · simp at ho; subst ho
        refine os_plain rfl ?_
        intro wx hS hd
        have h3 : vs 3 = _ := StR.fix (hd 3 (by kernel_rfl)) (by decide)
        have h6 : vs 6 = _ := StR.fix (hd 6 (by kernel_rfl)) (by decide)
        refine ⟨?_⟩
        simp only [fillN, fillT, putT, dstOf]
        simp only [h3, h6]
        go_simp
        exact gives_value ⟨KD.refl _ _ _, StR.mk (by decide) rfl⟩
      · simp at ho; subst ho
        refine os_plain rfl ?_
        intro wx hS hd
        have h0 : vs 0 = .agg #[.int .i64 x.kind, .int .i64 x.clock, .int .i64 x.addr, .slice sa sn sc, .int .i64 x.lost, .int .i64 x.index, .int .i64 x.value] := StR.fix (hd 0 (by kernel_rfl)) (by decide)
        rcases hS.fin with e9 | e9
        · exact ogives_store_row _ _ _ rfl w.heap.size #[.int .i64 x.kind, .int .i64 x.clock, .int .i64 x.addr, .slice sa sn sc, .int .i64 x.lost, .int .i64 x.index, .int .i64 x.value] ((fill_eval_out (by kernel_rfl)).trans rfl) ((fill_eval 0 (by kernel_rfl)).trans h0) 45 _ (e9.trans hD7) (by kernel_rfl) rfl (by kernel_rfl) ⟨kd_of_grown (grownBy_setRow _ _ _) (setRow_heap _ _ _ _ _ _ (e9.trans hD7)), setRow_heap _ _ _ _ _ _ (e9.trans hD7)⟩
        · exact ogives_store_row _ _ _ rfl w.heap.size #[.int .i64 x.kind, .int .i64 x.clock, .int .i64 x.addr, .slice sa sn sc, .int .i64 x.lost, .int .i64 x.index, .int .i64 x.value] ((fill_eval_out (by kernel_rfl)).trans rfl) ((fill_eval 0 (by kernel_rfl)).trans h0) 45 _ e9 (by kernel_rfl) rfl (by kernel_rfl) ⟨kd_of_grown (grownBy_setRow _ _ _) (setRow_heap _ _ _ _ _ _ e9), setRow_heap _ _ _ _ _ _ e9⟩
      · simp at ho; subst ho
        refine os_plain rfl ?_
        intro wx hS hd
        have h7 : vs 7 = _ := StR.fix (hd 7 (by kernel_rfl)) (by decide)
        refine ⟨?_⟩
        simp only [fillN, fillT, putT, dstOf]
        simp only [h7]
        go_simp
        exact gives_value ⟨KD.refl _ _ _, StR.mk (by decide) rfl⟩
      · simp at ho
    · intro vs w' hS hall
      have h9 : vs 9 = .bool (false) := StR.fix (hall 9 (by simp)) (by decide)
      have hF := (hall 8 (by simp)).fin
      simp only [fillN, fillT, putT, dstOf]
      simp [h9]
      have hend : Below w.heap.size w w' := hb7.trans ⟨hS.os, hS.tape, hS.output, hS.size, fun k hk => hS.heap k (by show k < w7.heap.size; omega) (by omega)⟩
      have HISE := Lib.hid (ownsRow_mono (World.ownsRow.kept (w := w7.drew) HOWNS.out hS.grown (.inr (fun e => by have := HOWNS.out.lt _ e; omega))) (show w.heap.size ≤ w.heap.size + 1 by omega))
      clear hall hS
      go_wp2_with fail
      refine bodyPost_ret (results_cell_row_tmp Tryd.results36 _ _ w.heap.size 45 _ _ _ rfl hF Tryd.underlying45 rfl (by kernel_rfl)) rfl ?_
      refine ⟨sa, sn, sc, ?_, by rw [hrd.out]; exact HISE.out, hend⟩
      rw [hrd.out, hdn]
      first | rfl | (cases ckR x <;> rfl)
  · refine wp_stab 10 rfl (KD w.heap.size (.cells #[.int .i64 x.kind, .int .i64 x.clock, .int .i64 x.addr, .slice sa sn sc, .int .i64 x.lost, .int .i64 x.index, .int .i64 x.value] 45 (0, 0))) (StR w.heap.size (.cells #[.int .i64 x.kind, .int .i64 x.clock, .int .i64 x.addr, .slice sa sn sc, .int .i64 x.lost, .int .i64 x.index, .int .i64 x.value] 45 (0, 0)) 8 (recD (w.heap.size + 1) x (.agg #[.int .i64 x.kind, .int .i64 x.clock, .int .i64 x.addr, .slice sa sn sc, .int .i64 x.lost, .int .i64 x.index, .int .i64 x.value]))) (by kernel_rfl) (by kernel_rfl) (KD.refl _ _) (fun x y z => KD.trans) (fun j v w w' hk hr => StR.keeps hk hr) ?_ ?_
    · intro vs i o ho
      rcases i with _|_|_|_|_|_|_|_|_|_|i
      · simp at ho; subst ho
        refine os_plain rfl ?_
        intro wx hS hd
        have y0 := hS.cell (b := T) (o := 0) hT2 hTD c0
        have y1 := hS.cell (b := T) (o := 1) hT2 hTD c1
        have y2 := hS.cell (b := T) (o := 2) hT2 hTD c2
        have y3 := hS.cell (b := T) (o := 3) hT2 hTD c3
        have y4 := hS.cell (b := T) (o := 4) hT2 hTD c4
        have y5 := hS.cell (b := T) (o := 5) hT2 hTD c5
        have y6 := hS.cell (b := T) (o := 6) hT2 hTD c6
        refine ⟨?_⟩
        simp only [fillN, fillT]
        go_simp
        exact gives_value ⟨KD.refl _ _ _, StR.mk (by decide) rfl⟩
      · simp at ho; subst ho
        refine os_plain rfl ?_
        intro wx hS hd
        refine ⟨?_⟩
        simp only [fillN, fillT, putT, dstOf]
        go_simp
        exact gives_value ⟨KD.refl _ _ _, StR.mk (by decide) rfl⟩
      · simp at ho; subst ho
        refine os_plain rfl ?_
        intro wx hS hd
        have h1 : vs 1 = _ := StR.fix (hd 1 (by kernel_rfl)) (by decide)
        have hGx := HGR.out.kd hS hG2 hGD
        refine ⟨?_⟩
        simp only [fillN, fillT, putT, dstOf]
        simp only [h1]
        go_simp
        refine gives_enter ?_
        refine (done_a _ _ _ HLEN.out _ hGx).mono ?_
        rintro e w3 ⟨rfl, rfl⟩
        rw [hdn]
        exact ⟨_, rfl, KD.refl _ _ _, StR.mk (by decide) rfl⟩
      · simp at ho; subst ho
        refine os_plain rfl ?_
        intro wx hS hd
        have h2 : vs 2 = _ := StR.fix (hd 2 (by kernel_rfl)) (by decide)
        refine ⟨?_⟩
        simp only [fillN, fillT, putT, dstOf]
        simp only [h2]
        go_simp
        exact gives_value ⟨KD.refl _ _ _, StR.mk (by decide) rfl⟩
      · simp at ho; subst ho
        refine os_guard rfl ?_
        intro wx hS hd
        have h3 : vs 3 = _ := StR.fix (hd 3 (by kernel_rfl)) (by decide)
        have y0 := hS.cell (b := T) (o := 0) hT2 hTD c0
        have y1 := hS.cell (b := T) (o := 1) hT2 hTD c1
        have y2 := hS.cell (b := T) (o := 2) hT2 hTD c2
        have y3 := hS.cell (b := T) (o := 3) hT2 hTD c3
        have y4 := hS.cell (b := T) (o := 4) hT2 hTD c4
        have y5 := hS.cell (b := T) (o := 5) hT2 hTD c5
        have y6 := hS.cell (b := T) (o := 6) hT2 hTD c6
        refine ⟨yield_in 61 rfl (by kernel_rfl) h3, ⟨?_⟩⟩
        simp only [fillN, fillT, putT, dstOf]
        simp only [h3]
        go_simp
        exact gives_value ⟨KD.refl _ _ _, StR.mk (by decide) rfl⟩
      · simp at ho; subst ho
        refine os_guard rfl ?_
        intro wx hS hd
        have h3 : vs 3 = _ := StR.fix (hd 3 (by kernel_rfl)) (by decide)
        have h4 : vs 4 = _ := StR.fix (hd 4 (by kernel_rfl)) (by decide)
        refine ⟨yield_in 61 rfl (by kernel_rfl) h3, ⟨?_⟩⟩
        simp only [fillN, fillT, putT, dstOf]
        simp only [h3, h4]
        go_simp
        refine gives_enter ?_
        refine (CheckRecord_any x sa sn sc HSN.out _ (HIS.out.kd hS hsaD)).mono ?_
        rintro e w3 ⟨rfl, hb3⟩
        exact ⟨_, rfl, KD.of_below hb3 (by have h9 : w7.heap.size ≤ wx.heap.size := hS.size; omega), StR.mk (by decide) rfl⟩
      · simp at ho; subst ho
        refine os_guard rfl ?_
        intro wx hS hd
        have h3 : vs 3 = _ := StR.fix (hd 3 (by kernel_rfl)) (by decide)
        have h5 : vs 5 = _ := StR.fix (hd 5 (by kernel_rfl)) (by decide)
        refine ⟨yield_in 61 rfl (by kernel_rfl) h3, ⟨?_⟩⟩
        simp only [fillN, fillT, putT, dstOf]
        simp only [h3, h5]
        go_simp
        exact gives_value ⟨KD.refl _ _ _, StR.mk (by decide) rfl⟩
      · simp at ho; subst ho
        refine os_plain rfl ?_
        intro wx hS hd
        have h3 : vs 3 = _ := StR.fix (hd 3 (by kernel_rfl)) (by decide)
        have h6 : vs 6 = _ := StR.fix (hd 6 (by kernel_rfl)) (by decide)
        refine ⟨?_⟩
        simp only [fillN, fillT, putT, dstOf]
        simp only [h3, h6]
        go_simp
        exact gives_value ⟨KD.refl _ _ _, StR.mk (by decide) rfl⟩
      · simp at ho; subst ho
        refine os_plain rfl ?_
        intro wx hS hd
        have h0 : vs 0 = .agg #[.int .i64 x.kind, .int .i64 x.clock, .int .i64 x.addr, .slice sa sn sc, .int .i64 x.lost, .int .i64 x.index, .int .i64 x.value] := StR.fix (hd 0 (by kernel_rfl)) (by decide)
        rcases hS.fin with e9 | e9
        · exact ogives_store_row _ _ _ rfl w.heap.size #[.int .i64 x.kind, .int .i64 x.clock, .int .i64 x.addr, .slice sa sn sc, .int .i64 x.lost, .int .i64 x.index, .int .i64 x.value] ((fill_eval_out (by kernel_rfl)).trans rfl) ((fill_eval 0 (by kernel_rfl)).trans h0) 45 _ (e9.trans hD7) (by kernel_rfl) rfl (by kernel_rfl) ⟨kd_of_grown (grownBy_setRow _ _ _) (setRow_heap _ _ _ _ _ _ (e9.trans hD7)), setRow_heap _ _ _ _ _ _ (e9.trans hD7)⟩
        · exact ogives_store_row _ _ _ rfl w.heap.size #[.int .i64 x.kind, .int .i64 x.clock, .int .i64 x.addr, .slice sa sn sc, .int .i64 x.lost, .int .i64 x.index, .int .i64 x.value] ((fill_eval_out (by kernel_rfl)).trans rfl) ((fill_eval 0 (by kernel_rfl)).trans h0) 45 _ e9 (by kernel_rfl) rfl (by kernel_rfl) ⟨kd_of_grown (grownBy_setRow _ _ _) (setRow_heap _ _ _ _ _ _ e9), setRow_heap _ _ _ _ _ _ e9⟩
      · simp at ho; subst ho
        refine os_plain rfl ?_
        intro wx hS hd
        have h7 : vs 7 = _ := StR.fix (hd 7 (by kernel_rfl)) (by decide)
        refine ⟨?_⟩
        simp only [fillN, fillT, putT, dstOf]
        simp only [h7]
        go_simp
        exact gives_value ⟨KD.refl _ _ _, StR.mk (by decide) rfl⟩
      · simp at ho
    · intro vs w' hS hall
      have h9 : vs 9 = .bool (((ckR x : Nat) : Int) == 0) := StR.fix (hall 9 (by simp)) (by decide)
      have hF := (hall 8 (by simp)).fin
      simp only [fillN, fillT, putT, dstOf]
      simp [h9]
      have hend : Below w.heap.size w w' := hb7.trans ⟨hS.os, hS.tape, hS.output, hS.size, fun k hk => hS.heap k (by show k < w7.heap.size; omega) (by omega)⟩
      have HISE := Lib.hid (ownsRow_mono (World.ownsRow.kept (w := w7.drew) HOWNS.out hS.grown (.inr (fun e => by have := HOWNS.out.lt _ e; omega))) (show w.heap.size ≤ w.heap.size + 1 by omega))
      clear hall hS
      go_wp2_with fail
      refine bodyPost_ret (results_cell_row_tmp Tryd.results36 _ _ w.heap.size 45 _ _ _ rfl hF Tryd.underlying45 rfl (by kernel_rfl)) rfl ?_
      refine ⟨sa, sn, sc, ?_, by rw [hrd.out]; exact HISE.out, hend⟩
      rw [hrd.out, hdn]
      first | rfl | (cases ckR x <;> rfl)

set_option maxRecDepth 100000 in
set_option maxHeartbeats 16000000 in
theorem record_s (zs : List Nat) (hk1 : (rdS (zs, 0)).1 = 1) (a : Option Addr) (n cap : Nat) (w : World) (hby : Byt zs) (hlen : zs.length ≤ 90000) (hbs : Bs w a n cap zs) (hlt : ∀ x, a = some x → x.block < w.heap.size) : Calls Tryd.prog 36 #[.slice a n cap] w (RecPost zs w) := by
  have hrd1 : RdS ((w.alloc (.cells #[.int .i64 0, .int .i64 0, .int .i64 0, .slice none 0 0, .int .i64 0, .int .i64 0, .int .i64 0] 45)).alloc (.cells #[.slice a n cap, .int .i64 0] 92)) w.heap.size (w.heap.size + 1) (zs, 0) := by
    have e1 : (w.alloc (.cells #[.int .i64 0, .int .i64 0, .int .i64 0, .slice none 0 0, .int .i64 0, .int .i64 0, .int .i64 0] 45)).heap.size = w.heap.size + 1 := by simp
    refine ⟨a, n, cap, by rw [← e1]; exact heap_alloc_new _ _, hbs.below (((Below.refl _ _).alloc (Nat.le_refl _) _).alloc (by simp) _), hlt⟩
  have HRD := Lib.hid hrd1
  have hDz : ((w.alloc (.cells #[.int .i64 0, .int .i64 0, .int .i64 0, .slice none 0 0, .int .i64 0, .int .i64 0, .int .i64 0] 45)).alloc (.cells #[.slice a n cap, .int .i64 0] 92)).heap[w.heap.size]? = some (.cells #[.int .i64 0, .int .i64 0, .int .i64 0, .slice none 0 0, .int .i64 0, .int .i64 0, .int .i64 0] 45 (0, 0)) := by
    rw [Below.heap_alloc _ _ _ (by simp)]; exact heap_alloc_new _ _
  have hb1 : Below w.heap.size w ((w.alloc (.cells #[.int .i64 0, .int .i64 0, .int .i64 0, .slice none 0 0, .int .i64 0, .int .i64 0, .int .i64 0] 45)).alloc (.cells #[.slice a n cap, .int .i64 0] 92)) := ((Below.refl _ _).alloc (Nat.le_refl _) _).alloc (by simp) _
  have hsz1 : w.heap.size + 1 < ((w.alloc (.cells #[.int .i64 0, .int .i64 0, .int .i64 0, .slice none 0 0, .int .i64 0, .int .i64 0, .int .i64 0] 45)).alloc (.cells #[.slice a n cap, .int .i64 0] 92)).heap.size := by simp
  clear hrd1 hbs
  obtain ⟨k, hkv⟩ : ∃ k, (rdS (zs, 0)).1 = k := ⟨_, rfl⟩
  obtain ⟨s1, hs1⟩ : ∃ s, (rdS (zs, 0)).2 = s := ⟨_, rfl⟩
  have hy1 : Byt s1.1 := by rw [← hs1]; exact rdS_byt hby
  have hl1 : s1.1.length ≤ 90000 := by rw [← hs1]; exact Nat.le_trans (rdS_len _) hlen
  have HYD := Lib.hid hby
  rw [hkv] at hk1
  have hR : rdR zs = rdSam s1 := by unfold rdR; rw [hkv, hs1]; rw [if_pos hk1]
  have HR := Lib.hid hR
  have HK1 := Lib.hid hk1
  clear hk1
  go_enter Tryd.func36, Tryd.ntmps36
  go_upto_region 2 with fail
  generalize ((w.alloc (.cells #[.int .i64 0, .int .i64 0, .int .i64 0, .slice none 0 0, .int .i64 0, .int .i64 0, .int .i64 0] 45)).alloc (.cells #[.slice a n cap, .int .i64 0] 92)) = w1 at *
  go_wp2_with fail
  refine (small_a _ _ (by omega) (zs, 0) HYD.out (by show zs.length ≤ 100000; omega) _ HRD.out).mono ?_
  rintro e w2 ⟨rfl, hrd2, hg2⟩
  rw [hs1] at hrd2
  rw [hkv]
  have hD2 := (hg2.block w.heap.size (by omega) (by intro e; injection e with e; omega)).trans hDz
  have hb2 := hb1.trans (grown_below2 hg2 hb1.size (by omega))
  have hs2 := hg2.size
  have ht0 : (w2.alloc (.cells #[.int .i64 k, .int .i64 0, .int .i64 0, .slice none 0 0, .int .i64 0, .int .i64 0, .int .i64 0] 45)).heap[w2.heap.size]? = some (.cells #[.int .i64 k, .int .i64 0, .int .i64 0, .slice none 0 0, .int .i64 0, .int .i64 0, .int .i64 0] 45 (0, 0)) := heap_alloc_new _ _
  have hD3 := (Below.heap_alloc w2 (.cells #[.int .i64 k, .int .i64 0, .int .i64 0, .slice none 0 0, .int .i64 0, .int .i64 0, .int .i64 0] 45) w.heap.size (by omega)).trans hD2
  have hb3 := hb2.alloc (by omega) (.cells #[.int .i64 k, .int .i64 0, .int .i64 0, .slice none 0 0, .int .i64 0, .int .i64 0, .int .i64 0] 45)
  have hrd3 : RdS (w2.alloc (.cells #[.int .i64 k, .int .i64 0, .int .i64 0, .slice none 0 0, .int .i64 0, .int .i64 0, .int .i64 0] 45)) w.heap.size (w.heap.size + 1) s1 := by
    obtain ⟨a2, n2, c2, h1, h2, h3⟩ := hrd2
    exact ⟨a2, n2, c2, (Below.heap_alloc w2 _ _ (by omega)).trans h1, h2.below ((Below.refl _ _).alloc (Nat.le_refl _) _), h3⟩
  have hT2 : w2.heap.size < (w2.alloc (.cells #[.int .i64 k, .int .i64 0, .int .i64 0, .slice none 0 0, .int .i64 0, .int .i64 0, .int .i64 0] 45)).heap.size := by simp
  have hTs : w.heap.size + 1 < w2.heap.size := by omega
  have t0 : (w2.alloc (.cells #[.int .i64 k, .int .i64 0, .int .i64 0, .slice none 0 0, .int .i64 0, .int .i64 0, .int .i64 0] 45)).cell? ⟨w2.heap.size, 0, none⟩ = some (.int .i64 k) := cell_of_row _ _ 0 _ _ _ ht0
  clear hg2 hrd2 HRD hDz hD2 hb1 hb2 hkv hs1 hR
  go_upto_region 3 with fail
  generalize (w2.alloc (.cells #[.int .i64 k, .int .i64 0, .int .i64 0, .slice none 0 0, .int .i64 0, .int .i64 0, .int .i64 0] 45)) = w3 at *
  generalize w2.heap.size = T at *
  obtain ⟨i3, hi3, hy0, hy1', hy2'⟩ := info_parts Tryd.info3
  have hk1 := HK1.out
  clear HK1
  subst hk1
  have hyI := rdI_byt hy1
  have hlI := Nat.le_trans (rdI_len s1) hl1
  have hy2 := rdS_byt hyI
  have hl2 := Nat.le_trans (rdS_len (rdI s1).2) hlI
  have hy3 := rdS_byt hy2
  have hl3 := Nat.le_trans (rdS_len (rdS (rdI s1).2).2) hl2
  have hy4 := rdS_byt hy3
  have hl4 := Nat.le_trans (rdS_len (rdS (rdS (rdI s1).2).2).2) hl3
  go_wp2_with fail
  refine (int_a _ _ (by omega) s1 hy1 (by omega) _ hrd3).mono ?_
  rintro e w4 ⟨rfl, hrd4, hg4⟩
  go_wp2_with fail
  refine (small_a _ _ (by omega) _ hyI (by omega) _ hrd4).mono ?_
  rintro e w5 ⟨rfl, hrd5, hg5⟩
  go_wp2_with fail
  refine (small_a _ _ (by omega) _ hy2 (by omega) _ hrd5).mono ?_
  rintro e w6 ⟨rfl, hrd6, hg6⟩
  obtain ⟨cl, hcl⟩ : ∃ c, (rdI s1).1 = c := ⟨_, rfl⟩
  obtain ⟨ad, had⟩ : ∃ c, (rdS (rdI s1).2).1 = c := ⟨_, rfl⟩
  obtain ⟨lo, hlo⟩ : ∃ c, (rdS (rdS (rdI s1).2).2).1 = c := ⟨_, rfl⟩
  rw [hcl, had, hlo]
  have hg36 := grownBy_trans hg4 (grownBy_trans hg5 hg6)
  have hT6 := (hg36.block T hT2 (by intro e; injection e with e; omega)).trans ht0
  have hD6 := (hg36.block w.heap.size (by omega) (by intro e; injection e with e; omega)).trans hD3
  have hb6 := hb3.trans (grown_below2 hg36 hb3.size (by omega))
  have hs6 := hg36.size
  clear hg4 hg5 hg6 hrd3 hrd4 hrd5 hg36 hD3 hb3 ht0 t0
  go_upto_region 6 with fail
  have hS7 : (w6.alloc (.cells #[.int .i64 cl, .int .i64 ad, .slice none 0 0, .int .i64 lo] 43)).heap[w6.heap.size]? = some (.cells #[.int .i64 cl, .int .i64 ad, .slice none 0 0, .int .i64 lo] 43 (0, 0)) := heap_alloc_new _ _
  have hT7 := (Below.heap_alloc w6 (.cells #[.int .i64 cl, .int .i64 ad, .slice none 0 0, .int .i64 lo] 43) T (by omega)).trans hT6
  have hD7 := (Below.heap_alloc w6 (.cells #[.int .i64 cl, .int .i64 ad, .slice none 0 0, .int .i64 lo] 43) w.heap.size (by omega)).trans hD6
  have hb7 := hb6.alloc (by omega) (.cells #[.int .i64 cl, .int .i64 ad, .slice none 0 0, .int .i64 lo] 43)
  have hrd7 : RdS (w6.alloc (.cells #[.int .i64 cl, .int .i64 ad, .slice none 0 0, .int .i64 lo] 43)) w.heap.size (w.heap.size + 1) (rdS (rdS (rdI s1).2).2).2 := by
    obtain ⟨a2, n2, c2, h1, h2, h3⟩ := hrd6
    exact ⟨a2, n2, c2, (Below.heap_alloc w6 _ _ (by omega)).trans h1, h2.below ((Below.refl _ _).alloc (Nat.le_refl _) _), h3⟩
  have hS2 : w6.heap.size < (w6.alloc (.cells #[.int .i64 cl, .int .i64 ad, .slice none 0 0, .int .i64 lo] 43)).heap.size := by simp
  have hTS : T < w6.heap.size := by omega
  clear hT6 hD6 hb6 hrd6
  generalize (w6.alloc (.cells #[.int .i64 cl, .int .i64 ad, .slice none 0 0, .int .i64 lo] 43)) = w7 at *
  generalize w6.heap.size = S at *
  go_wp2_with fail
  refine (small_a _ _ (by omega) _ hy3 (by omega) _ hrd7).mono ?_
  rintro e w8 ⟨rfl, hrd8, hg8⟩
  have hS8 := (hg8.block S hS2 (by intro e; injection e with e; omega)).trans hS7
  have hT8 := (hg8.block T (by omega) (by intro e; injection e with e; omega)).trans hT7
  have hD8 := (hg8.block w.heap.size (by omega) (by intro e; injection e with e; omega)).trans hD7
  have hb8 := hb7.trans (grown_below2 hg8 hb7.size (by omega))
  have hs8 := hg8.size
  have hS8s : S < w8.heap.size := by omega
  obtain ⟨nn, hnn⟩ : ∃ c, (rdS (rdS (rdS (rdI s1).2).2).2).1 = c := ⟨_, rfl⟩
  obtain ⟨s5, hs5⟩ : ∃ s, (rdS (rdS (rdS (rdI s1).2).2).2).2 = s := ⟨_, rfl⟩
  have hsam : Hid (samN s1 = (nn, s5)) := Lib.hid (by unfold samN; rw [← hnn, ← hs5])
  rw [hs5] at hrd8 hy4 hl4
  have hnb : nn ≤ 4611686018427387904 := by rw [← hnn]; exact rdS_le _
  rw [hnn]
  have hxs : Hid (samOf s1 = ⟨1, cl, ad, lo, 0, 0, (rdN nn.toNat s5).1⟩) := Lib.hid (by unfold samOf; rw [hcl, had, hlo, hsam.out])
  clear hrd7 hg8 hS7 hT7 hD7 hb7 hyI hlI hy2 hl2 hy3 hl3 hcl had hlo hnn hs5
  by_cases hneg : nn < 0
  · have dneg : decide (nn < 0) = true := by simpa using hneg
    have HNEG := Lib.hid hneg
    clear hneg
    have t8 := fun i v (hv : (#[.int .i64 1, .int .i64 0, .int .i64 0, .slice none 0 0, .int .i64 0, .int .i64 0, .int .i64 0] : Array Value)[i]? = some v) => ((cell_of_row _ _ _ _ _ _ hT8).trans hv : w8.cell? ⟨T, i, none⟩ = some v)
    have t0 := t8 0 (.int .i64 1) rfl
    have t1 := t8 1 (.int .i64 0) rfl
    have t2 := t8 2 (.int .i64 0) rfl
    have t3 := t8 3 (.slice none 0 0) rfl
    have t4 := t8 4 (.int .i64 0) rfl
    have t5 := t8 5 (.int .i64 0) rfl
    have t6 := t8 6 (.int .i64 0) rfl
    clear t8
    have e0 := cell_of_row _ _ 0 _ _ _ hD8
    have z0 := unfrozen_of_row (i := 0) hD8
    have e1 := cell_of_row _ _ 1 _ _ _ hD8
    have z1 := unfrozen_of_row (i := 1) hD8
    have e2 := cell_of_row _ _ 2 _ _ _ hD8
    have z2 := unfrozen_of_row (i := 2) hD8
    have e3 := cell_of_row _ _ 3 _ _ _ hD8
    have z3 := unfrozen_of_row (i := 3) hD8
    have e4 := cell_of_row _ _ 4 _ _ _ hD8
    have z4 := unfrozen_of_row (i := 4) hD8
    have e5 := cell_of_row _ _ 5 _ _ _ hD8
    have z5 := unfrozen_of_row (i := 5) hD8
    have e6 := cell_of_row _ _ 6 _ _ _ hD8
    have z6 := unfrozen_of_row (i := 6) hD8
    have hfin := Lib.hid (heap_setCell_same _ w.heap.size 6 _ _ (.int .i64 0) (heap_setCell_same _ w.heap.size 5 _ _ (.int .i64 0) (heap_setCell_same _ w.heap.size 4 _ _ (.int .i64 0) (heap_setCell_same _ w.heap.size 3 _ _ (.slice none 0 0) (heap_setCell_same _ w.heap.size 2 _ _ (.int .i64 0) (heap_setCell_same _ w.heap.size 1 _ _ (.int .i64 0) (heap_setCell_same w8 w.heap.size 0 _ _ (.int .i64 1) hD8)))))))
    have hgr := Lib.hid (hb8.trans (grown_below2 (grown_set (grown_set (grown_set (grown_set (grown_set (grown_set (grownBy_set w8 w.heap.size 0 (.int .i64 1)) 1 (.int .i64 0)) 2 (.int .i64 0)) 3 (.slice none 0 0)) 4 (.int .i64 0)) 5 (.int .i64 0)) 6 (.int .i64 0)) hb8.size (Nat.le_refl _)))
    have hrd : rdR zs = (⟨1, 0, 0, 0, 0, 0, []⟩, false) := by rw [HR.out]; unfold rdSam; rw [hsam.out, if_pos HNEG.out]
    have HRR := Lib.hid hrd
    clear hrd
    go_wp2_with fail
    refine bodyPost_ret (results_cell_row_tmp Tryd.results36 _ _ w.heap.size 45 _ _ _ rfl hfin.out Tryd.underlying45 rfl (by kernel_rfl)) rfl ?_
    exact ⟨none, 0, 0, by rw [HRR.out]; rfl, by rw [HRR.out]; exact World.ownsRow_nil _ _ _ _, hgr.out⟩
  · have dneg : decide (nn < 0) = false := by simpa using hneg
    obtain ⟨N, rfl⟩ := Int.eq_ofNat_of_zero_le (show 0 ≤ nn by omega)
    have HNEG := Lib.hid hneg
    clear hneg
    have hR2 : rdR zs = (samOf s1, stDone (rdN N s5).2 && (ckR (samOf s1) == 0)) := by
      rw [HR.out]; unfold rdSam; rw [hsam.out, if_neg HNEG.out]; rfl
    have hX : samOf s1 = ⟨1, cl, ad, lo, 0, 0, (rdN N s5).1⟩ := hxs.out
    have HR2 := Lib.hid hR2
    have HX := Lib.hid hX
    clear hR2 hX hxs hsam HR HNEG
    go_wp2_with fail
    go_loopw [7] (fun v7 wr => ∃ (m : Nat) (s : St) (pre : List Int) (v : Value), v7 = .int .i64 m ∧ m ≤ N ∧ Hid (rdN N s5 = (pre ++ (rdN m s).1, (rdN m s).2)) ∧ Hid (Byt s.1) ∧ Hid (pre.length + s.1.length ≤ 90000 + (if s.2 = 0 then 0 else 1)) ∧
      RdS wr w.heap.size (w.heap.size + 1) s ∧ wr.heap[S]? = some (.cells #[.int .i64 cl, .int .i64 ad, v, .int .i64 lo] 43 (0, 0)) ∧ wr.heap[T]? = some (.cells #[.int .i64 1, .int .i64 0, .int .i64 0, .slice none 0 0, .int .i64 0, .int .i64 0, .int .i64 0] 45 (0, 0)) ∧ wr.heap[w.heap.size]? = some (.cells #[.int .i64 0, .int .i64 0, .int .i64 0, .slice none 0 0, .int .i64 0, .int .i64 0, .int .i64 0] 45 (0, 0)) ∧
      wr.ownsRow (S + 1) 3 1 v pre.length (ints pre) ∧ Below w.heap.size w wr ∧ S < wr.heap.size) (fun v _ => (intOf v).toNat)
    case atStart => exact ⟨N, s5, [], .slice none 0 0, rfl, Nat.le_refl _, Lib.hid rfl, Lib.hid hy4, Lib.hid (by simp; split <;> omega), hrd8, hS8, hT8, hD8, World.ownsRow_nil _ _ _ _, hb8, hS8s⟩
    case round =>
      obtain ⟨m, s, pre, v, rfl, hmN, hrn, hby1, hle1, hrd9, hS9, hT9, hD9, hown, hb9, hS9s⟩ := hrel
      obtain ⟨ga, gn, gc, hG9, hGb, hGlt⟩ := hrd9
      have g1 : wr.cell? ⟨w.heap.size + 1, 1, none⟩ = some (.int .i64 (s.2 : Nat)) := cell_of_row _ _ 1 _ _ _ hG9
      have HGb := Lib.hid hGb
      clear hGb
      go_upto_region 9 with fail
      go_cut [38] from 30 to 47 (fun v38 wx => v38 = .bool (decide (0 < m) && decide (s.2 = 0)) ∧ wx = wr)
      case first =>
        by_cases hm : 0 < m
        · have d1 : decide ((m : Int) > 0) = true := by simp; omega
          by_cases hs : s.2 = 0
          · have d2 : (((s.2 : Nat) : Int) == 0) = true := by rw [hs]; rfl
            have HM := Lib.hid hm
            have HS := Lib.hid hs
            clear hm hs
            go_wp2_with fail
            go_meet
            exact ⟨by rw [decide_eq_true HM.out, decide_eq_true HS.out]; rfl, rfl⟩
          · have d2 : (((s.2 : Nat) : Int) == 0) = false := by simp; omega
            have HM := Lib.hid hm
            have HS := Lib.hid hs
            clear hm hs
            go_wp2_with fail
            go_meet
            exact ⟨by rw [decide_eq_true HM.out, decide_eq_false HS.out]; rfl, rfl⟩
        · have d1 : decide ((m : Int) > 0) = false := by simp; omega
          have HM := Lib.hid hm
          clear hm
          go_wp2_with fail
          go_meet
          exact ⟨by rw [decide_eq_false HM.out]; rfl, rfl⟩
      case rest =>
        obtain ⟨rfl, rfl⟩ := hcut
        by_cases hc : 0 < m ∧ s.2 = 0
        · rw [decide_eq_true hc.1, decide_eq_true hc.2]
          obtain ⟨m, rfl⟩ : ∃ q, m = q + 1 := ⟨m - 1, by omega⟩
          have c2 : wc.drew.cell? ⟨S, 2, none⟩ = some v := cell_of_row wc _ 2 _ _ _ hS9
          have z2 : wc.drew.frozen? ⟨S, 2, none⟩ = false := unfrozen_of_row (w := wc) hS9
          have hle2 := hle1.out
          rw [if_pos hc.2] at hle2
          have hsl : s.1.length ≤ 100000 := by omega
          have hpl : pre.length ≤ 90000 := by omega
          have HLE := Lib.hid (show pre.length + s.1.length ≤ 90000 by omega)
          have HRD : Hid (RdS wc.drew w.heap.size (w.heap.size + 1) s) := Lib.hid ⟨ga, gn, gc, hG9, HGb.out, hGlt⟩
          have HC := Lib.hid hc
          have HOWN : Hid (wc.drew.ownsRow (S + 1) 3 1 v pre.length (ints pre)) := Lib.hid hown
          have HHS : Hid (wc.drew.heap[S]? = _) := Lib.hid hS9
          have HHT : Hid (wc.drew.heap[T]? = _) := Lib.hid hT9
          have HHD : Hid (wc.drew.heap[w.heap.size]? = _) := Lib.hid hD9
          have hsd : wc.drew.heap.size = wc.heap.size := rfl
          clear hc hle2 hown hS9 hT9 hD9 hG9
          go_wp2_with fail
          have HG1 : w.heap.size ≤ w.heap.size + 1 := by omega
          have hSw : S < wc.drew.heap.size := hS9s
          have hownS : v.ownBlock ≠ some S := fun e => by have := HOWN.out.lt S e; omega
          go_region_law ((first | (refine step_gives (fun v w2 => v = .int .i64 (rdS s).1 ∧ RdS w2 w.heap.size (w.heap.size + 1) (rdS s).2 ∧ wc.drew.grownBy w2 (some (w.heap.size + 1))) (by rfl) (ogives_call 54 _ _ (by rfl) #[.pointer (some ⟨w.heap.size + 1, 0, none⟩)] (by rfl) (enters54 _ _) ((small_a w.heap.size (w.heap.size + 1) HG1 s hby1.out hsl wc.drew HRD.out).mono (fun e w2 h => ⟨_, h.1, rfl, h.2.1, h.2.2⟩))) ?_; rintro _ w2 ⟨rfl, hrd2, hg2⟩; have c2w : w2.cell? ⟨S, 2, none⟩ = some v := hg2.cell c2 (fun e => by injection e with e; have e' : S = w.heap.size + 1 := e; omega); have c2a := cell_alloc' (.cells #[.int .i64 (rdS s).1] 3) c2w; have z2w : w2.frozen? ⟨S, 2, none⟩ = false := (World.frozen?_of_block (a := ⟨S, 2, none⟩) (hg2.block S hSw (by intro e; injection e with e; omega))).trans z2; have z2a := frozen_alloc' (.cells #[.int .i64 (rdS s).1] 3) c2w z2w; have hown2 := HOWN.out.kept hg2 (.inr (fun e => by have := HOWN.out.lt _ e; omega)); have hs2 := hg2.size) | (refine step_append_lies _ (by rfl) _ _ _ (by rfl) (S + 1) 3 i3 _ 1 8 Tryd.und41 hi3 hy0 hy1' hy2' rfl (by omega) v pre.length (ints pre) (by rfl) (hown2.alloc _) ⟨w2.heap.size, 0, none⟩ 1 1 [.int .i64 (rdS s).1] (by rfl) (by rfl) (World.news_of_block (cs := #[.int .i64 (rdS s).1]) (t := 3) (fr := (0, 0)) (heap_alloc_new w2 _)) (by simp [Value.oneCell']) (by omega) (by simp [maxLen]; omega) (by omega) (by simp; omega) (w2.heap.size + 1) (by simp) ?_; intro gg cap w4 hown1 hgrow hat hlt2; have c2x : w4.cell? ⟨S, 2, none⟩ = some v := (by rw [hgrow.cell_far _ (by simp; omega) (Ne.symm hownS)]; exact c2a); have z2x : w4.frozen? ⟨S, 2, none⟩ = false := (by rw [hgrow.frozen_far _ (by simp; omega) (Ne.symm hownS)]; exact z2a))))
          all_goals
            obtain ⟨q1, q2, q3, q4, q5, q6, q7⟩ := step11 (w := w) (B := w.heap.size) (by omega) (by omega) hS9s HHS.out HHT.out HHD.out hb9 HOWN.out hg2 hrd2 hgrow hown1
            have hrn' := Lib.hid (rdN_go hrn.out HC.out.2)
            have hby' := Lib.hid (rdS_byt hby1.out)
            have hle' := Lib.hid (rdN_len HC.out.2 HLE.out)
            have Q1 := Lib.hid q1
            have Q5 := Lib.hid q5
            clear q1 q5 hgrow hown1 hrd2 hg2 hown2 c2 z2 c2w c2a z2w z2a c2x z2x hat
            go_wp2_with fail
            go_roundw
            case rel => exact ⟨m, (rdS s).2, pre ++ [(rdS s).1], _, rfl, by omega, hrn', hby', hle', Q1.out, q2, q3, q4, Q5.out, q6, q7⟩
            case measure => simp [intOf]
        · have hrn' := rdN_end hrn.out hc
          rw [show (decide (0 < m) && decide (s.2 = 0)) = false by rw [← Bool.decide_and]; exact decide_eq_false hc]
          have hrx : rdR zs = (⟨1, cl, ad, lo, 0, 0, pre⟩, stDone s && (ckR ⟨1, cl, ad, lo, 0, 0, pre⟩ == 0)) := by
            rw [HR2.out, HX.out, hrn']
          have hlx : s.1.length ≤ 100000 ∧ pre.length ≤ 100000 := by have := hle1.out; split at this <;> omega
          obtain ⟨sa0, sc0, rfl, his0⟩ := Is.of_own hown
          have hsl : ∀ x, sa0 = some x → S + 1 ≤ x.block := fun x hx => (hown.lt x.block (by rw [hx]; rfl)).1
          have HRX := Lib.hid hrx
          have HIS0 := Lib.hid his0
          have HLX := Lib.hid hlx
          have HSL := Lib.hid hsl
          have k0 : wc.cell? ⟨S, 0, none⟩ = some (.int .i64 cl) := cell_of_row _ _ 0 _ _ _ hS9
          have k1 : wc.cell? ⟨S, 1, none⟩ = some (.int .i64 ad) := cell_of_row _ _ 1 _ _ _ hS9
          have k2 : wc.cell? ⟨S, 2, none⟩ = some (.slice sa0 pre.length sc0) := cell_of_row _ _ 2 _ _ _ hS9
          have k3 : wc.cell? ⟨S, 3, none⟩ = some (.int .i64 lo) := cell_of_row _ _ 3 _ _ _ hS9
          have f1 : wc.cell? ⟨T, 1, none⟩ = some (.int .i64 0) := cell_of_row _ _ 1 _ _ _ hT9
          have f2 : wc.cell? ⟨T, 2, none⟩ = some (.int .i64 0) := cell_of_row _ _ 2 _ _ _ hT9
          have f3 : wc.cell? ⟨T, 3, none⟩ = some (.slice none 0 0) := cell_of_row _ _ 3 _ _ _ hT9
          have f4 : wc.cell? ⟨T, 4, none⟩ = some (.int .i64 0) := cell_of_row _ _ 4 _ _ _ hT9
          have z1 : wc.frozen? ⟨T, 1, none⟩ = false := unfrozen_of_row hT9
          have z2 : wc.frozen? ⟨T, 2, none⟩ = false := unfrozen_of_row hT9
          have z3 : wc.frozen? ⟨T, 3, none⟩ = false := unfrozen_of_row hT9
          have z4 : wc.frozen? ⟨T, 4, none⟩ = false := unfrozen_of_row hT9
          have hTwc : T < wc.heap.size := by omega
          have hgS := grown_set (grown_set (grown_set (grownBy_set wc T 1 (.int .i64 cl)) 2 (.int .i64 ad)) 3 (.slice sa0 pre.length sc0)) 4 (.int .i64 lo)
          have hT0 : ((((wc.setCell ⟨T, 1, none⟩ (.int .i64 cl)).setCell ⟨T, 2, none⟩ (.int .i64 ad)).setCell ⟨T, 3, none⟩ (.slice sa0 pre.length sc0)).setCell ⟨T, 4, none⟩ (.int .i64 lo)).heap[T]? = some (.cells #[.int .i64 1, .int .i64 cl, .int .i64 ad, .slice sa0 pre.length sc0, .int .i64 lo, .int .i64 0, .int .i64 0] 45 (0, 0)) :=
            heap_setCell_same _ T 4 _ _ (.int .i64 lo) (heap_setCell_same _ T 3 _ _ (.slice sa0 pre.length sc0) (heap_setCell_same _ T 2 _ _ (.int .i64 ad) (heap_setCell_same wc T 1 _ _ (.int .i64 cl) hT9)))
          have hD7 := (hgS.block w.heap.size (by omega) (by intro e; injection e with e; omega)).trans hD9
          have hGR0 : RdS ((((wc.setCell ⟨T, 1, none⟩ (.int .i64 cl)).setCell ⟨T, 2, none⟩ (.int .i64 ad)).setCell ⟨T, 3, none⟩ (.slice sa0 pre.length sc0)).setCell ⟨T, 4, none⟩ (.int .i64 lo)) w.heap.size (w.heap.size + 1) s := RdS.grow (w := wc) ⟨ga, gn, gc, hG9, HGb.out, hGlt⟩ hgS (by omega) (fun k hk => by injection hk with hk; omega)
          have hb7 := below_grow hb9 (by omega) hgS (fun k hk => by injection hk with hk; omega)
          have hs7 := hgS.size
          have hi7 : Is ((((wc.setCell ⟨T, 1, none⟩ (.int .i64 cl)).setCell ⟨T, 2, none⟩ (.int .i64 ad)).setCell ⟨T, 3, none⟩ (.slice sa0 pre.length sc0)).setCell ⟨T, 4, none⟩ (.int .i64 lo)) sa0 pre.length sc0 pre := ⟨his0.1, his0.2.1, his0.2.2.1, his0.2.2.2.1, Cells.grown his0.2.2.2.2 hgS (fun x k e1 e2 e => by have := hsl x e1; injection e2 with e2; omega)⟩
          have HI7 := Lib.hid hi7
          have ho7 := ownsRow_mono (hown.kept hgS (.inr (fun e => by have := hown.lt _ e; omega))) (show w.heap.size + 1 ≤ S + 1 by omega)
          have HO7 := Lib.hid ho7
          clear ho7
          have HG7 := Lib.hid hGR0
          clear hrx his0 hlx hsl hown hS9 hT9 hD9 hG9 hgS hrn' hc hb9 hi7 hGR0
          go_upto_region 15 with fail
          generalize ((((wc.setCell ⟨T, 1, none⟩ (.int .i64 cl)).setCell ⟨T, 2, none⟩ (.int .i64 ad)).setCell ⟨T, 3, none⟩ (.slice sa0 pre.length sc0)).setCell ⟨T, 4, none⟩ (.int .i64 lo)) = w7 at *
          obtain ⟨x, hx⟩ : ∃ x : Rc, x = ⟨1, cl, ad, lo, 0, 0, pre⟩ := ⟨_, rfl⟩
          obtain ⟨st, hst⟩ : ∃ st : St, st = s := ⟨_, rfl⟩
          obtain ⟨sa, hsa⟩ : ∃ sa : Option Addr, sa = sa0 := ⟨_, rfl⟩
          obtain ⟨sn, hsn⟩ : ∃ sn : Nat, sn = pre.length := ⟨_, rfl⟩
          obtain ⟨sc, hsc⟩ : ∃ sc : Nat, sc = sc0 := ⟨_, rfl⟩
          have hrd : Hid (rdR zs = (x, stDone st && (ckR x == 0))) := Lib.hid (by rw [HRX.out, hx, hst])
          have hT7 : w7.heap[T]? = some (.cells #[.int .i64 x.kind, .int .i64 x.clock, .int .i64 x.addr, .slice sa sn sc, .int .i64 x.lost, .int .i64 x.index, .int .i64 x.value] 45 (0, 0)) := by rw [hx, hsa, hsn, hsc]; exact hT0
          have HGR : Hid (RdS w7 w.heap.size (w.heap.size + 1) st) := Lib.hid (by rw [hst]; exact HG7.out)
          have HLEN : Hid (st.1.length ≤ 100000) := Lib.hid (by rw [hst]; exact HLX.out.1)
          have HIS : Hid (Is w7 sa sn sc x.chain) := Lib.hid (by rw [hx, hsa, hsn, hsc]; exact HI7.out)
          have HSN : Hid (sn ≤ 100000) := Lib.hid (by rw [hsn]; exact HLX.out.2)
          have HOWNS : Hid (w7.ownsRow (w.heap.size + 1) 3 1 (.slice sa sn sc) sn (ints x.chain)) := Lib.hid (by rw [hx, hsa, hsn, hsc]; exact HO7.out)
          have hsaD : ∀ x, sa = some x → x.block ≠ w.heap.size := fun x hx e => by rw [hsa] at hx; have := HSL.out x hx; omega
          have hT2' : T < w7.heap.size := by omega
          replace hT2 := hT2'
          clear hx hst hsa hsn hsc hT0 HRX HIS0 HLX HSL HI7 HG7 HO7 k0 k1 k2 k3 f1 f2 f3 f4 z1 z2 z3 z4 hrn hby1 hle1 hlen hlt
          have hGD : w.heap.size + 1 ≠ w.heap.size := by omega
          have hTD : T ≠ w.heap.size := by omega
          have hhd : w.heap.size < w7.heap.size := by omega
          have hG2 : w.heap.size + 1 < w7.heap.size := by omega
          have c0 : w7.cell? ⟨T, 0, none⟩ = some (.int .i64 x.kind) := cell_of_row _ _ 0 _ _ _ hT7
          have c1 : w7.cell? ⟨T, 1, none⟩ = some (.int .i64 x.clock) := cell_of_row _ _ 1 _ _ _ hT7
          have c2 : w7.cell? ⟨T, 2, none⟩ = some (.int .i64 x.addr) := cell_of_row _ _ 2 _ _ _ hT7
          have c3 : w7.cell? ⟨T, 3, none⟩ = some (.slice sa sn sc) := cell_of_row _ _ 3 _ _ _ hT7
          have c4 : w7.cell? ⟨T, 4, none⟩ = some (.int .i64 x.lost) := cell_of_row _ _ 4 _ _ _ hT7
          have c5 : w7.cell? ⟨T, 5, none⟩ = some (.int .i64 x.index) := cell_of_row _ _ 5 _ _ _ hT7
          have c6 : w7.cell? ⟨T, 6, none⟩ = some (.int .i64 x.value) := cell_of_row _ _ 6 _ _ _ hT7
          cases hdn : stDone st
          · refine wp_stab 10 rfl (KD w.heap.size (.cells #[.int .i64 x.kind, .int .i64 x.clock, .int .i64 x.addr, .slice sa sn sc, .int .i64 x.lost, .int .i64 x.index, .int .i64 x.value] 45 (0, 0))) (StR w.heap.size (.cells #[.int .i64 x.kind, .int .i64 x.clock, .int .i64 x.addr, .slice sa sn sc, .int .i64 x.lost, .int .i64 x.index, .int .i64 x.value] 45 (0, 0)) 8 (recO (w.heap.size + 1) x (.agg #[.int .i64 x.kind, .int .i64 x.clock, .int .i64 x.addr, .slice sa sn sc, .int .i64 x.lost, .int .i64 x.index, .int .i64 x.value]))) (by kernel_rfl) (by kernel_rfl) (KD.refl _ _) (fun x y z => KD.trans) (fun j v w w' hk hr => StR.keeps hk hr) ?_ ?_
            · intro vs i o ho
              rcases i with _|_|_|_|_|_|_|_|_|_|i
              · simp at ho; subst ho
                refine os_plain rfl ?_
                intro wx hS hd
                have y0 := hS.cell (b := T) (o := 0) hT2 hTD c0
                have y1 := hS.cell (b := T) (o := 1) hT2 hTD c1
                have y2 := hS.cell (b := T) (o := 2) hT2 hTD c2
                have y3 := hS.cell (b := T) (o := 3) hT2 hTD c3
                have y4 := hS.cell (b := T) (o := 4) hT2 hTD c4
                have y5 := hS.cell (b := T) (o := 5) hT2 hTD c5
                have y6 := hS.cell (b := T) (o := 6) hT2 hTD c6
                refine ⟨?_⟩
                simp only [fillN, fillT]
                go_simp
                exact gives_value ⟨KD.refl _ _ _, StR.mk (by decide) rfl⟩
              · simp at ho; subst ho
                refine os_plain rfl ?_
                intro wx hS hd
                refine ⟨?_⟩
                simp only [fillN, fillT, putT, dstOf]
                go_simp
                exact gives_value ⟨KD.refl _ _ _, StR.mk (by decide) rfl⟩
              · simp at ho; subst ho
                refine os_plain rfl ?_
                intro wx hS hd
                have h1 : vs 1 = _ := StR.fix (hd 1 (by kernel_rfl)) (by decide)
                have hGx := HGR.out.kd hS hG2 hGD
                refine ⟨?_⟩
                simp only [fillN, fillT, putT, dstOf]
                simp only [h1]
                go_simp
                refine gives_enter ?_
                refine (done_a _ _ _ HLEN.out _ hGx).mono ?_
                rintro e w3 ⟨rfl, rfl⟩
                rw [hdn]
                exact ⟨_, rfl, KD.refl _ _ _, StR.mk (by decide) rfl⟩
              · simp at ho; subst ho
                refine os_plain rfl ?_
                intro wx hS hd
                have h2 : vs 2 = _ := StR.fix (hd 2 (by kernel_rfl)) (by decide)
                refine ⟨?_⟩
                simp only [fillN, fillT, putT, dstOf]
                simp only [h2]
                go_simp
                exact gives_value ⟨KD.refl _ _ _, StR.mk (by decide) rfl⟩
              · simp at ho; subst ho
                refine os_off rfl ?_
                intro wx hS hd
                have h3 : vs 3 = _ := StR.fix (hd 3 (by kernel_rfl)) (by decide)
                exact ⟨yield_in 61 rfl (by kernel_rfl) h3, StR.mk (by decide) rfl⟩
              · simp at ho; subst ho
                refine os_off rfl ?_
                intro wx hS hd
                have h3 : vs 3 = _ := StR.fix (hd 3 (by kernel_rfl)) (by decide)
                exact ⟨yield_in 61 rfl (by kernel_rfl) h3, StR.mk (by decide) rfl⟩
              · simp at ho; subst ho
                refine os_off rfl ?_
                intro wx hS hd
                have h3 : vs 3 = _ := StR.fix (hd 3 (by kernel_rfl)) (by decide)
                exact ⟨yield_in 61 rfl (by kernel_rfl) h3, StR.mk (by decide) rfl⟩
              · simp at ho; subst ho
                refine os_plain rfl ?_
                intro wx hS hd
                have h3 : vs 3 = _ := StR.fix (hd 3 (by kernel_rfl)) (by decide)
                have h6 : vs 6 = _ := StR.fix (hd 6 (by kernel_rfl)) (by decide)
                refine ⟨?_⟩
                simp only [fillN, fillT, putT, dstOf]
                simp only [h3, h6]
                go_simp
                exact gives_value ⟨KD.refl _ _ _, StR.mk (by decide) rfl⟩
              · simp at ho; subst ho
                refine os_plain rfl ?_
                intro wx hS hd
                have h0 : vs 0 = .agg #[.int .i64 x.kind, .int .i64 x.clock, .int .i64 x.addr, .slice sa sn sc, .int .i64 x.lost, .int .i64 x.index, .int .i64 x.value] := StR.fix (hd 0 (by kernel_rfl)) (by decide)
                rcases hS.fin with e9 | e9
                · exact ogives_store_row _ _ _ rfl w.heap.size #[.int .i64 x.kind, .int .i64 x.clock, .int .i64 x.addr, .slice sa sn sc, .int .i64 x.lost, .int .i64 x.index, .int .i64 x.value] ((fill_eval_out (by kernel_rfl)).trans rfl) ((fill_eval 0 (by kernel_rfl)).trans h0) 45 _ (e9.trans hD7) (by kernel_rfl) rfl (by kernel_rfl) ⟨kd_of_grown (grownBy_setRow _ _ _) (setRow_heap _ _ _ _ _ _ (e9.trans hD7)), setRow_heap _ _ _ _ _ _ (e9.trans hD7)⟩
                · exact ogives_store_row _ _ _ rfl w.heap.size #[.int .i64 x.kind, .int .i64 x.clock, .int .i64 x.addr, .slice sa sn sc, .int .i64 x.lost, .int .i64 x.index, .int .i64 x.value] ((fill_eval_out (by kernel_rfl)).trans rfl) ((fill_eval 0 (by kernel_rfl)).trans h0) 45 _ e9 (by kernel_rfl) rfl (by kernel_rfl) ⟨kd_of_grown (grownBy_setRow _ _ _) (setRow_heap _ _ _ _ _ _ e9), setRow_heap _ _ _ _ _ _ e9⟩
              · simp at ho; subst ho
                refine os_plain rfl ?_
                intro wx hS hd
                have h7 : vs 7 = _ := StR.fix (hd 7 (by kernel_rfl)) (by decide)
                refine ⟨?_⟩
                simp only [fillN, fillT, putT, dstOf]
                simp only [h7]
                go_simp
                exact gives_value ⟨KD.refl _ _ _, StR.mk (by decide) rfl⟩
              · simp at ho
            · intro vs w' hS hall
              have h9 : vs 9 = .bool (false) := StR.fix (hall 9 (by simp)) (by decide)
              have hF := (hall 8 (by simp)).fin
              simp only [fillN, fillT, putT, dstOf]
              simp [h9]
              have hend : Below w.heap.size w w' := hb7.trans ⟨hS.os, hS.tape, hS.output, hS.size, fun k hk => hS.heap k (by show k < w7.heap.size; omega) (by omega)⟩
              have HISE := Lib.hid (ownsRow_mono (World.ownsRow.kept (w := w7.drew) HOWNS.out hS.grown (.inr (fun e => by have := HOWNS.out.lt _ e; omega))) (show w.heap.size ≤ w.heap.size + 1 by omega))
              clear hall hS
              go_wp2_with fail
              refine bodyPost_ret (results_cell_row_tmp Tryd.results36 _ _ w.heap.size 45 _ _ _ rfl hF Tryd.underlying45 rfl (by kernel_rfl)) rfl ?_
              refine ⟨sa, sn, sc, ?_, by rw [hrd.out]; exact HISE.out, hend⟩
              rw [hrd.out, hdn]
              first | rfl | (cases ckR x <;> rfl)
          · refine wp_stab 10 rfl (KD w.heap.size (.cells #[.int .i64 x.kind, .int .i64 x.clock, .int .i64 x.addr, .slice sa sn sc, .int .i64 x.lost, .int .i64 x.index, .int .i64 x.value] 45 (0, 0))) (StR w.heap.size (.cells #[.int .i64 x.kind, .int .i64 x.clock, .int .i64 x.addr, .slice sa sn sc, .int .i64 x.lost, .int .i64 x.index, .int .i64 x.value] 45 (0, 0)) 8 (recD (w.heap.size + 1) x (.agg #[.int .i64 x.kind, .int .i64 x.clock, .int .i64 x.addr, .slice sa sn sc, .int .i64 x.lost, .int .i64 x.index, .int .i64 x.value]))) (by kernel_rfl) (by kernel_rfl) (KD.refl _ _) (fun x y z => KD.trans) (fun j v w w' hk hr => StR.keeps hk hr) ?_ ?_
            · intro vs i o ho
              rcases i with _|_|_|_|_|_|_|_|_|_|i
              · simp at ho; subst ho
                refine os_plain rfl ?_
                intro wx hS hd
                have y0 := hS.cell (b := T) (o := 0) hT2 hTD c0
                have y1 := hS.cell (b := T) (o := 1) hT2 hTD c1
                have y2 := hS.cell (b := T) (o := 2) hT2 hTD c2
                have y3 := hS.cell (b := T) (o := 3) hT2 hTD c3
                have y4 := hS.cell (b := T) (o := 4) hT2 hTD c4
                have y5 := hS.cell (b := T) (o := 5) hT2 hTD c5
                have y6 := hS.cell (b := T) (o := 6) hT2 hTD c6
                refine ⟨?_⟩
                simp only [fillN, fillT]
                go_simp
                exact gives_value ⟨KD.refl _ _ _, StR.mk (by decide) rfl⟩
              · simp at ho; subst ho
                refine os_plain rfl ?_
                intro wx hS hd
                refine ⟨?_⟩
                simp only [fillN, fillT, putT, dstOf]
                go_simp
                exact gives_value ⟨KD.refl _ _ _, StR.mk (by decide) rfl⟩
              · simp at ho; subst ho
                refine os_plain rfl ?_
                intro wx hS hd
                have h1 : vs 1 = _ := StR.fix (hd 1 (by kernel_rfl)) (by decide)
                have hGx := HGR.out.kd hS hG2 hGD
                refine ⟨?_⟩
                simp only [fillN, fillT, putT, dstOf]
                simp only [h1]
                go_simp
                refine gives_enter ?_
                refine (done_a _ _ _ HLEN.out _ hGx).mono ?_
                rintro e w3 ⟨rfl, rfl⟩
                rw [hdn]
                exact ⟨_, rfl, KD.refl _ _ _, StR.mk (by decide) rfl⟩
              · simp at ho; subst ho
                refine os_plain rfl ?_
                intro wx hS hd
                have h2 : vs 2 = _ := StR.fix (hd 2 (by kernel_rfl)) (by decide)
                refine ⟨?_⟩
                simp only [fillN, fillT, putT, dstOf]
                simp only [h2]
                go_simp
                exact gives_value ⟨KD.refl _ _ _, StR.mk (by decide) rfl⟩
              · simp at ho; subst ho
                refine os_guard rfl ?_
                intro wx hS hd
                have h3 : vs 3 = _ := StR.fix (hd 3 (by kernel_rfl)) (by decide)
                have y0 := hS.cell (b := T) (o := 0) hT2 hTD c0
                have y1 := hS.cell (b := T) (o := 1) hT2 hTD c1
                have y2 := hS.cell (b := T) (o := 2) hT2 hTD c2
                have y3 := hS.cell (b := T) (o := 3) hT2 hTD c3
                have y4 := hS.cell (b := T) (o := 4) hT2 hTD c4
                have y5 := hS.cell (b := T) (o := 5) hT2 hTD c5
                have y6 := hS.cell (b := T) (o := 6) hT2 hTD c6
                refine ⟨yield_in 61 rfl (by kernel_rfl) h3, ⟨?_⟩⟩
                simp only [fillN, fillT, putT, dstOf]
                simp only [h3]
                go_simp
                exact gives_value ⟨KD.refl _ _ _, StR.mk (by decide) rfl⟩
              · simp at ho; subst ho
                refine os_guard rfl ?_
                intro wx hS hd
                have h3 : vs 3 = _ := StR.fix (hd 3 (by kernel_rfl)) (by decide)
                have h4 : vs 4 = _ := StR.fix (hd 4 (by kernel_rfl)) (by decide)
                refine ⟨yield_in 61 rfl (by kernel_rfl) h3, ⟨?_⟩⟩
                simp only [fillN, fillT, putT, dstOf]
                simp only [h3, h4]
                go_simp
                refine gives_enter ?_
                refine (CheckRecord_any x sa sn sc HSN.out _ (HIS.out.kd hS hsaD)).mono ?_
                rintro e w3 ⟨rfl, hb3⟩
                exact ⟨_, rfl, KD.of_below hb3 (by have h9 : w7.heap.size ≤ wx.heap.size := hS.size; omega), StR.mk (by decide) rfl⟩
              · simp at ho; subst ho
                refine os_guard rfl ?_
                intro wx hS hd
                have h3 : vs 3 = _ := StR.fix (hd 3 (by kernel_rfl)) (by decide)
                have h5 : vs 5 = _ := StR.fix (hd 5 (by kernel_rfl)) (by decide)
                refine ⟨yield_in 61 rfl (by kernel_rfl) h3, ⟨?_⟩⟩
                simp only [fillN, fillT, putT, dstOf]
                simp only [h3, h5]
                go_simp
                exact gives_value ⟨KD.refl _ _ _, StR.mk (by decide) rfl⟩
              · simp at ho; subst ho
                refine os_plain rfl ?_
                intro wx hS hd
                have h3 : vs 3 = _ := StR.fix (hd 3 (by kernel_rfl)) (by decide)
                have h6 : vs 6 = _ := StR.fix (hd 6 (by kernel_rfl)) (by decide)
                refine ⟨?_⟩
                simp only [fillN, fillT, putT, dstOf]
                simp only [h3, h6]
                go_simp
                exact gives_value ⟨KD.refl _ _ _, StR.mk (by decide) rfl⟩
              · simp at ho; subst ho
                refine os_plain rfl ?_
                intro wx hS hd
                have h0 : vs 0 = .agg #[.int .i64 x.kind, .int .i64 x.clock, .int .i64 x.addr, .slice sa sn sc, .int .i64 x.lost, .int .i64 x.index, .int .i64 x.value] := StR.fix (hd 0 (by kernel_rfl)) (by decide)
                rcases hS.fin with e9 | e9
                · exact ogives_store_row _ _ _ rfl w.heap.size #[.int .i64 x.kind, .int .i64 x.clock, .int .i64 x.addr, .slice sa sn sc, .int .i64 x.lost, .int .i64 x.index, .int .i64 x.value] ((fill_eval_out (by kernel_rfl)).trans rfl) ((fill_eval 0 (by kernel_rfl)).trans h0) 45 _ (e9.trans hD7) (by kernel_rfl) rfl (by kernel_rfl) ⟨kd_of_grown (grownBy_setRow _ _ _) (setRow_heap _ _ _ _ _ _ (e9.trans hD7)), setRow_heap _ _ _ _ _ _ (e9.trans hD7)⟩
                · exact ogives_store_row _ _ _ rfl w.heap.size #[.int .i64 x.kind, .int .i64 x.clock, .int .i64 x.addr, .slice sa sn sc, .int .i64 x.lost, .int .i64 x.index, .int .i64 x.value] ((fill_eval_out (by kernel_rfl)).trans rfl) ((fill_eval 0 (by kernel_rfl)).trans h0) 45 _ e9 (by kernel_rfl) rfl (by kernel_rfl) ⟨kd_of_grown (grownBy_setRow _ _ _) (setRow_heap _ _ _ _ _ _ e9), setRow_heap _ _ _ _ _ _ e9⟩
              · simp at ho; subst ho
                refine os_plain rfl ?_
                intro wx hS hd
                have h7 : vs 7 = _ := StR.fix (hd 7 (by kernel_rfl)) (by decide)
                refine ⟨?_⟩
                simp only [fillN, fillT, putT, dstOf]
                simp only [h7]
                go_simp
                exact gives_value ⟨KD.refl _ _ _, StR.mk (by decide) rfl⟩
              · simp at ho
            · intro vs w' hS hall
              have h9 : vs 9 = .bool (((ckR x : Nat) : Int) == 0) := StR.fix (hall 9 (by simp)) (by decide)
              have hF := (hall 8 (by simp)).fin
              simp only [fillN, fillT, putT, dstOf]
              simp [h9]
              have hend : Below w.heap.size w w' := hb7.trans ⟨hS.os, hS.tape, hS.output, hS.size, fun k hk => hS.heap k (by show k < w7.heap.size; omega) (by omega)⟩
              have HISE := Lib.hid (ownsRow_mono (World.ownsRow.kept (w := w7.drew) HOWNS.out hS.grown (.inr (fun e => by have := HOWNS.out.lt _ e; omega))) (show w.heap.size ≤ w.heap.size + 1 by omega))
              clear hall hS
              go_wp2_with fail
              refine bodyPost_ret (results_cell_row_tmp Tryd.results36 _ _ w.heap.size 45 _ _ _ rfl hF Tryd.underlying45 rfl (by kernel_rfl)) rfl ?_
              refine ⟨sa, sn, sc, ?_, by rw [hrd.out]; exact HISE.out, hend⟩
              rw [hrd.out, hdn]
              first | rfl | (cases ckR x <;> rfl)

/-- record on any bytes -/
theorem record_any (zs : List Nat) (a : Option Addr) (n cap : Nat) (w : World) (hby : Byt zs) (hlen : zs.length ≤ 90000) (hbs : Bs w a n cap zs) (hlt : ∀ x, a = some x → x.block < w.heap.size) : Calls Tryd.prog 36 #[.slice a n cap] w (RecPost zs w) := by
  by_cases h1 : (rdS (zs, 0)).1 = 1
  · exact record_s zs h1 a n cap w hby hlen hbs hlt
  · by_cases h2 : (rdS (zs, 0)).1 = 2
    · exact record_c zs h2 a n cap w hby hlen hbs hlt
    · exact record_e zs h1 h2 a n cap w hby hlen hbs hlt
end Go.Proofs.YtkgdogccnkjcgaaDoor
