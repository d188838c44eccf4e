/-
  WORDS for the walk of the reference's lessen. No walk. (Filled in from a template of this repo.)
-/
import Derived.Test.YthoehobofdeifaaRCw
import Derived.Test.YthoehobofdeifaaCirQ
import Derived.Test.YthoehobofdeifaaDrN
import Derived.Laws.NewBlocks
namespace Go.Proofs.Ythoehobofdeifaa
open Go.ChangeShapes Go.WideShapes Go.ChangeAt Go.RowKit
set_option linter.unusedVariables false

/-- the pointers of a search in breadth -/
def Ov (N : Nw) (r : Nat) (S : Nat → Bool) (bk : Nat → Sp) (o : Nat → Int) : Prop := ∀ v, v < N.V → o v = if S v = true ∧ v ≠ r then (bk v).code else 0
/-- a search in breadth, its queue whole -/
def Sc (N : Nw) (f : Nat → Int) (z : Nat → Bool) (r q : Nat) (Q : List Nat) (S : Nat → Bool) (o : Nat → Int) : Prop := ∃ bk rk, Bf N f z r S bk rk (Q.drop q) ∧ Ov N r S bk o ∧ Q.length = nD S N.V ∧ q ≤ Q.length
section
variable {N : Nw} {f : Nat → Int} {z : Nat → Bool} {r q : Nat} {Q : List Nat} {S : Nat → Bool} {o : Nat → Int}
theorem Sc.start (f : Nat → Int) (z : Nat → Bool) (hr : r < N.V) : Sc N f z r 0 [r] (mark (fun _ => false) r) (fun _ => 0) :=
  ⟨fun _ => ⟨0, true⟩, fun _ => 0, Bf.start f z hr _, fun v _ => by
    by_cases e : v = r
    · subst e; rw [if_neg (fun h => h.2 rfl)]
    · rw [if_neg (fun h => by have := h.1; unfold mark at this; rw [if_neg e] at this; cases this)], by rw [nD_one, if_pos hr]; rfl, by simp⟩
theorem Sc.take (hok : N.ok) (h : Sc N f z r q Q S o) {s : Sp} (hi : s.i < N.m) (hb : S (N.beg s) = true) (hn : S (N.fin s) = false) (hr : 0 < N.rz f z s) {x : Int} (hx : x = s.code) {v : Nat} (hv : N.fin s = v) :
    Sc N f z r q (Q ++ [v]) (mark S v) (upd o v x) := by
  subst hx hv
  obtain ⟨bk, rk, h1, h2, h3, h4⟩ := h
  obtain ⟨g1, g2⟩ := h1.take hok hi hb hn hr
  refine ⟨_, _, by rw [List.drop_append_of_le_length h4]; exact g1, fun v hv => ?_, by rw [g2, List.length_append, h3]; rfl, by simp; omega⟩
  have hne : N.fin s ≠ r := fun e => by rw [e, h1.root] at hn; cases hn
  by_cases e : v = N.fin s
  · subst e; rw [upd_same, upd_same, if_pos ⟨by unfold mark; rw [if_pos rfl], hne⟩]
  · rw [upd_other _ _ e, upd_other _ _ e, h2 v hv]
    unfold mark
    rw [if_neg e]
theorem Sc.head (h : Sc N f z r q Q S o) (hq : q < Q.length) : S (Q.getD q 0) = true ∧ Q.getD q 0 < N.V := by
  obtain ⟨bk, rk, h1, h2, h3, h4⟩ := h
  have hm : Q.getD q 0 ∈ Q.drop q := by
    rw [List.drop_eq_getElem_cons hq, show Q.getD q 0 = Q[q] by simp [List.getD, hq]]
    exact List.mem_cons_self
  exact ⟨h1.que _ hm, h1.lt _ (h1.que _ hm)⟩
theorem Sc.next (h : Sc N f z r q Q S o) (hq : q < Q.length) (hu : ∀ s : Sp, s.i < N.m → N.beg s = Q.getD q 0 → 0 < N.rz f z s → S (N.fin s) = true) : Sc N f z r (q + 1) Q S o := by
  obtain ⟨bk, rk, h1, h2, h3, h4⟩ := h
  refine ⟨bk, rk, ?_, h2, h3, by omega⟩
  have e : Q.drop q = Q.getD q 0 :: Q.drop (q + 1) := by
    rw [List.drop_eq_getElem_cons hq]
    simp [List.getD, hq]
  rw [e] at h1
  exact h1.pop hu
theorem Sc.len (h : Sc N f z r q Q S o) : Q.length ≤ N.V := by
  obtain ⟨bk, rk, h1, h2, h3, h4⟩ := h
  rw [h3]; exact nD_le S N.V
theorem Sc.closed (h : Sc N f z r q Q S o) (hq : Q.length ≤ q) : ∀ s : Sp, s.i < N.m → S (N.beg s) = true → 0 < N.rz f z s → S (N.fin s) = true := by
  obtain ⟨bk, rk, h1, h2, h3, h4⟩ := h
  intro s hi hb hr
  rcases h1.clo _ hb with e | e
  · rw [List.drop_eq_nil_of_le hq] at e; cases e
  · exact e s hi rfl hr
theorem Sc.root (h : Sc N f z r q Q S o) : S r = true := by
  obtain ⟨bk, rk, h1, _⟩ := h
  exact h1.root
theorem Bp.of_pw {bk : Nat → Sp} {a v : Nat} {l : List Sp} (h : Pw N bk a v l) (P : Nat → Prop) (hP : ∀ v, P v → v < N.V ∧ (v = a → o v = 0) ∧ (v ≠ a → o v = (bk v).code ∧ N.fin (bk v) = v ∧ P (N.beg (bk v)))) : P v → Bp N o a v l.reverse := by
  induction h with
  | nil => intro hp; exact .root ((hP _ hp).2.1 rfl)
  | @snoc v l hne hv hi h ih =>
    intro hp
    obtain ⟨_, _, h3⟩ := hP v hp
    obtain ⟨h4, h5, h6⟩ := h3 hne
    rw [List.reverse_append]
    have := Bp.back (N := N) (o := o) (a := a) (s := bk v) (by rw [h5]; exact h4) hi (ih h6)
    rw [h5] at this
    exact this
theorem Sc.found (hv : N.valid) (h : Sc N f z r q Q S o) {v : Nat} (hS : S v = true) :
    ∃ l, Bp N o r v l ∧ l.Pairwise (fun s t => s.i ≠ t.i) ∧ ∀ s ∈ l, s.i < N.m ∧ 0 < N.rz f z s := by
  obtain ⟨bk, rk, h1, h2, h3, h4⟩ := h
  obtain ⟨l, g1, g2, g3, g4, g5⟩ := h1.found hv hS
  refine ⟨l.reverse, Bp.of_pw g1 (fun v => S v = true) (fun u hu => ⟨h1.lt u hu, fun e => ?_, fun e => ?_⟩) hS, List.pairwise_reverse.2 (g4.imp (fun h e => h e.symm)), fun s hs => g5 s (by simpa using hs)⟩
  · rw [h2 u (h1.lt u hu), if_neg (fun h => h.2 e)]
  · obtain ⟨p1, p2, p3, p4, p5⟩ := h1.ptr u hu e
    exact ⟨by rw [h2 u (h1.lt u hu), if_pos ⟨hu, e⟩], p2, p4⟩
theorem mark_up (S : Nat → Bool) (u : Nat) {v : Nat} (h : S v = true) : mark S u v = true := by unfold mark; split <;> first | rfl | exact h
end
/-- steps of the first arcs that begin at u have been taken -/
def Sd (N : Nw) (f : Nat → Int) (z : Nat → Bool) (u i : Nat) (S : Nat → Bool) : Prop := ∀ s : Sp, s.i < i → s.i < N.m → N.beg s = u → 0 < N.rz f z s → S (N.fin s) = true
theorem Sd.up {N : Nw} {f : Nat → Int} {z : Nat → Bool} {u i : Nat} {S : Nat → Bool} (h : Sd N f z u i S) (x : Nat) : Sd N f z u i (mark S x) := fun s h1 h2 h3 h4 => mark_up S x (h s h1 h2 h3 h4)
theorem Sd.next {N : Nw} {f : Nat → Int} {z : Nat → Bool} {u i : Nat} {S : Nat → Bool} (h : Sd N f z u i S) (hb : ∀ b : Bool, N.beg ⟨i, b⟩ = u → 0 < N.rz f z ⟨i, b⟩ → S (N.fin ⟨i, b⟩) = true) : Sd N f z u (i + 1) S := fun s h1 h2 h3 h4 => by
  by_cases e : s.i < i
  · exact h s e h2 h3 h4
  · obtain ⟨j, b⟩ := s
    obtain rfl : j = i := by simp at h1 e; omega
    exact hb b h3 h4
/-- the cells of a queue -/
def qvs (Q : List Nat) : List Value := Q.map fun (x : Nat) => Value.int .i64 (x : Int)
theorem qvs_app (Q : List Nat) (u : Nat) : qvs (Q ++ [u]) = qvs Q ++ [.int .i64 (u : Int)] := by unfold qvs; simp
theorem qvs_len (Q : List Nat) : (qvs Q).length = Q.length := by unfold qvs; simp
theorem qvs_get (Q : List Nat) {j : Nat} (h : j < Q.length) : (qvs Q)[j]? = some (.int .i64 ((Q.getD j 0 : Nat) : Int)) := by unfold qvs; simp [List.getD, h]
/-- the worlds of a search -/
structure LQ (N : Nw) (w0 : World) (go gs B : Nat) (o : Nat → Int) (S : Nat → Bool) (v : Value) (Q : List Nat) (w : World) : Prop where
  below : Below w0.heap.size w0 w
  o : IRow w go N.V o
  s : BRow w gs N.V S
  q : w.ownsRow B 3 1 v Q.length (qvs Q)
  lo : w0.heap.size ≤ go ∧ w0.heap.size ≤ gs ∧ go < B ∧ gs < B ∧ go ≠ gs
section
variable {N : Nw} {w0 w w' : World} {go gs B : Nat} {o : Nat → Int} {S : Nat → Bool} {v : Value} {Q : List Nat}
theorem LQ.more (h : LQ N w0 go gs B o S v Q w) (hb : Below w.heap.size w w') : LQ N w0 go gs B o S v Q w' :=
  ⟨h.below.trans (hb.mono h.below.size), VRow.below h.o hb h.o.lt, VRow.below h.s hb h.s.lt, own_below2 h.q hb, h.lo⟩
theorem LQ.lt (h : LQ N w0 go gs B o S v Q w) : go < w.heap.size ∧ gs < w.heap.size := ⟨h.o.lt, h.s.lt⟩
theorem LQ.ne (h : LQ N w0 go gs B o S v Q w) {k : Nat} (hk : v.ownBlock = some k) : B ≤ k ∧ k < w.heap.size := by
  have := h.q.lt k hk
  exact ⟨this.1, this.2⟩
/-- a vertex is taken -/
theorem LQ.take (h : LQ N w0 go gs B o S v Q w) {ob : Obj} {w1 : World} {v' : Value} {u : Nat} (hg : (w.alloc ob).grownBy w1 v.ownBlock) (hq : w1.ownsRow B 3 1 v' (Q.length + 1) (qvs Q ++ [.int .i64 (u : Int)])) (x : Int) :
    LQ N w0 go gs B (upd o u x) (mark S u) v' (Q ++ [u]) ((w1.setCell ⟨gs, u, none⟩ (.bool true)).setCell ⟨go, u, none⟩ (.int .i64 x)) := by
  obtain ⟨l1, l2, l3, l4, l5⟩ := h.lo
  have hb0 : Below w.heap.size w (w.alloc ob) := (Below.refl _ _).alloc (Nat.le_refl _) _
  have hsz := hb0.size
  have h1 := h.more hb0
  have hB : ∀ k, v.ownBlock = some k → B ≤ k := fun k hk => (h.ne hk).1
  have hblk : ∀ k, k < B → k < w.heap.size → w1.heap[k]? = (w.alloc ob).heap[k]? := fun k hk hk2 => hg.block k (by omega) (fun e => by have := hB k e.symm; omega)
  have hbw : Below w0.heap.size w0 w1 := ⟨hg.os.trans h1.below.os, hg.tape.trans h1.below.tape, hg.output.trans h1.below.output, Nat.le_trans h1.below.size hg.size, fun k hk => (hg.block k (Nat.lt_of_lt_of_le hk h1.below.size) (fun e => by have := hB k e.symm; omega)).trans (h1.below.block k hk)⟩
  have ho1 : IRow w1 go N.V o := VRow.keep h1.o (hblk go l3 h.o.lt)
  have hs1 : BRow w1 gs N.V S := VRow.keep h1.s (hblk gs l4 h.s.lt)
  have hv' : ∀ k, v'.ownBlock = some k → k ≠ go ∧ k ≠ gs := fun k hk => by have := (hq.lt k hk).1; omega
  refine ⟨(hbw.setCell l2 _).setCell l1 _, ?_, ?_, ?_, h.lo⟩
  · exact IRow.set (VRow.keep ho1 (heap_setCell_other _ ⟨gs, _, none⟩ go _ l5)) u x (upd_same _ _ _) (fun j hj => upd_other _ _ hj)
  · exact VRow.keep (VRow.set hs1 u _ _ (by unfold mark; simp) (fun j _ hj => by unfold mark; rw [if_neg hj])) (heap_setCell_other _ ⟨go, _, none⟩ gs _ l5.symm)
  · rw [qvs_app, List.length_append]
    have hk : ∀ (W : World) (p : Addr) (y : Value), p.block = go ∨ p.block = gs → W.ownsRow B 3 1 v' (Q.length + 1) (qvs Q ++ [.int .i64 (u : Int)]) → (W.setCell p y).ownsRow B 3 1 v' (Q.length + 1) (qvs Q ++ [.int .i64 (u : Int)]) := fun W p y hp hW => by
      refine hW.kept (row := some p.block) ⟨rfl, rfl, rfl, by simp [World.setCell], fun k hk hn => heap_setCell_other _ _ _ _ (fun e => hn (by rw [e]))⟩ ?_
      cases hq : v'.ownBlock with
      | none => exact .inl rfl
      | some k =>
        refine .inr (fun e => ?_)
        have := hv' k hq
        injection e with e
        rcases hp with hp | hp <;> omega
    exact hk _ _ _ (.inl rfl) (hk _ _ _ (.inr rfl) hq)
end
theorem LQ.grown {N : Nw} {w0 w w1 : World} {go gs B : Nat} {o : Nat → Int} {S : Nat → Bool} {v : Value} {Q : List Nat} (h : LQ N w0 go gs B o S v Q w) {ob : Obj} (hg : ((w.alloc ob).drew).grownBy w1 v.ownBlock) :
    (w.alloc ob).grownBy w1 v.ownBlock ∧ IRow w1 go N.V o ∧ BRow w1 gs N.V S ∧ ∀ (k o' : Nat) (y : Value), v.ownBlock ≠ some k → w.cell? ⟨k, o', none⟩ = some y → w1.cell? ⟨k, o', none⟩ = some y := by
  have hg' : (w.alloc ob).grownBy w1 v.ownBlock := ⟨hg.os, hg.tape, hg.output, hg.size, hg.block⟩
  obtain ⟨l1, l2, l3, l4, l5⟩ := h.lo
  have hb0 : Below w.heap.size w (w.alloc ob) := (Below.refl _ _).alloc (Nat.le_refl _) _
  have hsz := hb0.size
  have h1 := h.more hb0
  have hB : ∀ k, v.ownBlock = some k → B ≤ k := fun k hk => (h.ne hk).1
  have hblk : ∀ k, k < B → k < w.heap.size → w1.heap[k]? = (w.alloc ob).heap[k]? := fun k hk hk2 => hg'.block k (by omega) (fun e => by have := hB k e.symm; omega)
  refine ⟨hg', VRow.keep h1.o (hblk go l3 h.o.lt), VRow.keep h1.s (hblk gs l4 h.s.lt), fun k o' y hk hc => ?_⟩
  have hlt : k < w.heap.size := block_lt_of_cell hc
  exact (hg'.cell_far ⟨k, o', none⟩ (by show k < (w.alloc ob).heap.size; omega) (fun e => hk e.symm)).trans ((hb0.cell (p := ⟨k, o', none⟩) hlt).trans hc)
theorem LQ.form {N : Nw} {w0 w : World} {go gs B : Nat} {o : Nat → Int} {S : Nat → Bool} {v : Value} {Q : List Nat} (h : LQ N w0 go gs B o S v Q w) (hQ : 0 < Q.length) : ∃ gq cq, v = .slice (some ⟨gq, 0, none⟩) Q.length cq := by
  obtain ⟨gq, cq, e, _⟩ := own_block h.q (fun e => by have h0 := congrArg List.length e; rw [qvs_len] at h0; have h1 : Q.length = 0 := h0; omega)
  exact ⟨gq, cq, e⟩
theorem LQ.at {N : Nw} {w0 w : World} {go gs B : Nat} {o : Nat → Int} {S : Nat → Bool} {Q : List Nat} {gq cq : Nat} (h : LQ N w0 go gs B o S (.slice (some ⟨gq, 0, none⟩) Q.length cq) Q w) (hQ : 0 < Q.length) :
    B ≤ gq ∧ gq < w.heap.size ∧ Q.length ≤ cq ∧ cq ≤ 9223372036854775807 ∧ ∀ j, j < Q.length → w.cell? ⟨gq, j, none⟩ = some (.int .i64 ((Q.getD j 0 : Nat) : Int)) := by
  obtain ⟨gq', cq', e, h1, h2, h3, h4, h5, h6⟩ := own_block h.q (fun e => by have h0 := congrArg List.length e; rw [qvs_len] at h0; have h1 : Q.length = 0 := h0; omega)
  injection e with e1 e2 e3
  injection e1 with e1
  injection e1 with e1
  subst e1 e3
  unfold maxLen at h4
  exact ⟨h1, h2, h3, h4, fun j hj => h6 j _ (qvs_get Q hj)⟩
/-- a search begins -/
theorem LQ.start (N : Nw) (hV : 1 ≤ N.V) (w : World) (r : Nat) {W : World} (hW : W = ((w.alloc (.cells (vrow N.V fun _ => .int .i64 0) 3)).alloc (.cells (vrow N.V fun _ => .bool false) 4)).alloc (.cells #[.int .i64 (r : Int)] 3)) :
    LQ N w w.heap.size (w.heap.size + 1) (w.heap.size + 1 + 1) (fun _ => 0) (fun _ => false) (.slice (some ⟨w.heap.size + 1 + 1, 0, none⟩) 1 1) [r] W := by
  subst hW
  refine ⟨(((Below.refl _ _).alloc (Nat.le_refl _) _).alloc (by simp) _).alloc (by simp; omega) _, ?_, ?_, ?_, by omega⟩
  · exact ((VRow.new w 3 N.V (fun _ => .int .i64 0) rfl).alloc _).alloc _
  · exact (VRow.new _ 4 N.V (fun _ => .bool false) (by simp)).alloc _
  · refine ⟨rfl, .inr ⟨w.heap.size + 1 + 1, 1, #[.int .i64 (r : Int)], rfl, Nat.le_refl _, blk_new _ _ (by simp), Nat.le_refl _, by simp [maxLen], rfl, rfl⟩⟩
theorem LQ.mark {N : Nw} {w0 w : World} {go gs B : Nat} {o : Nat → Int} {S : Nat → Bool} {v : Value} {Q : List Nat} (h : LQ N w0 go gs B o S v Q w) (u : Nat) : LQ N w0 go gs B o (Go.Proofs.Ythoehobofdeifaa.mark S u) v Q (w.setCell ⟨gs, u, none⟩ (.bool true)) := by
  obtain ⟨l1, l2, l3, l4, l5⟩ := h.lo
  refine ⟨h.below.setCell l2 _, VRow.keep h.o (heap_setCell_other _ ⟨gs, _, none⟩ go _ l5), VRow.set h.s u _ _ (by unfold Go.Proofs.Ythoehobofdeifaa.mark; simp) (fun j _ hj => by unfold Go.Proofs.Ythoehobofdeifaa.mark; rw [if_neg hj]), ?_, h.lo⟩
  refine h.q.kept (row := some gs) ⟨rfl, rfl, rfl, by simp [World.setCell], fun k hk hn => heap_setCell_other _ ⟨gs, _, none⟩ _ _ (fun e => hn (by rw [e]))⟩ ?_
  cases hq : v.ownBlock with
  | none => exact .inl rfl
  | some k =>
    refine .inr (fun e => ?_)
    have := (h.ne hq).1
    injection e with e
    omega
/-- the worlds of lessen -/
structure LO (N : Nw) (a : Option Addr) (ca gn gf gp : Nat) (w0 : World) (f p : Nat → Int) (w : World) : Prop where
  kp : Kp [gf] w0 w
  f : IRow w gf N.m f
  p : IRow w gp N.V p
  arcs : Arcs w a N
  n0 : w.cell? ⟨gn, 0, none⟩ = some (.int .i64 (N.V : Int))
  n1 : w.cell? ⟨gn, 1, none⟩ = some (.slice a N.m ca)
  far : 0 < N.m → ∀ x, a = some x → x.block ∉ [gf]
  ne : gp ≠ gf ∧ gn ≠ gf
section
variable {N : Nw} {a : Option Addr} {ca gn gf gp : Nat} {w0 w w' : World} {f p : Nat → Int}
theorem LO.more (h : LO N a ca gn gf gp w0 f p w) (hb : Below w.heap.size w w') : LO N a ca gn gf gp w0 f p w' :=
  ⟨h.kp.trans ((Kp.of_below (X := []) hb).mono (by simp)), VRow.below h.f hb h.f.lt, VRow.below h.p hb h.p.lt, h.arcs.below hb, (hb.cell (p := ⟨gn, 0, none⟩) (block_lt_of_cell h.n0)).trans h.n0, (hb.cell (p := ⟨gn, 1, none⟩) (block_lt_of_cell h.n1)).trans h.n1, h.far, h.ne⟩
theorem LO.kpf (h : LO N a ca gn gf gp w0 f p w) (hk : Kp [gf] w w') {f' : Nat → Int} (hf : IRow w' gf N.m f') : LO N a ca gn gf gp w0 f' p w' :=
  ⟨h.kp.trans hk, hf, VRow.kp h.p hk (by have := h.ne; simp; omega), h.arcs.kp hk h.far, hk.cell h.n0 (by have := h.ne; simp; omega), hk.cell h.n1 (by have := h.ne; simp; omega), h.far, h.ne⟩
end
/-- what lessen leaves -/
def RLePost (N : Nw) (gf : Nat) (z : Nat → Bool) (i : Nat) (f : Nat → Int) (w : World) (e : Ending) (w' : World) : Prop :=
  e = .returned (.tuple #[]) ∧ Kp [gf] w w' ∧ ∃ f' : Nat → Int, IRow w' gf N.m f' ∧ Les N z i f f'
/-- closed arcs: those with a price -/
def z0p (N : Nw) (p : Nat → Int) (j : Nat) : Bool := N.price p j != 0
theorem z0p_iff (N : Nw) (p : Nat → Int) (j : Nat) : z0p N p j = true ↔ N.price p j ≠ 0 := by unfold z0p; simp
end Go.Proofs.Ythoehobofdeifaa
