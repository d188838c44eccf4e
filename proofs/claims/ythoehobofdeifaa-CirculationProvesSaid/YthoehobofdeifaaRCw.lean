/-
  WORDS for the walk of the reference's cheapest. No walk. (Filled in from a template of this repo.)
-/
import Derived.Test.YthoehobofdeifaaRRx
import Derived.Test.YthoehobofdeifaaCirS
namespace Go.Proofs.Ythoehobofdeifaa
open Go.ChangeShapes Go.WideShapes Go.ChangeAt Go.RowKit
set_option linter.unusedVariables false

/-- what is too much, half an arc later -/
def xt (N : Nw) (k : Nat) (v : Nat) : Int := xk N k v + (if N.to k = v then N.f0 k else 0)
theorem xt_eq (N : Nw) (k v : Nat) : upd (xk N k) (N.to k) (xk N k (N.to k) + N.f0 k) v = xt N k v := by
  unfold xt
  by_cases e : v = N.to k
  · subst e; rw [upd_same, if_pos rfl]
  · rw [upd_other _ _ e, if_neg (fun h => e h.symm)]; omega
theorem xt_next (N : Nw) (k v : Nat) : upd (xt N k) (N.fr k) (xt N k (N.fr k) - N.f0 k) v = xk N (k + 1) v := by
  have e1 : xk N (k + 1) v = xk N k v + ((if N.to k = v then N.f0 k else 0) - (if N.fr k = v then N.f0 k else 0)) := rfl
  rw [e1]
  by_cases e : v = N.fr k
  · subst e; rw [upd_same]; unfold xt; simp only [if_true]; omega
  · have e2 : ¬ N.fr k = v := fun h => e h.symm
    rw [upd_other _ _ e]; unfold xt; simp only [e2, if_false]; omega
theorem xt_bd {N : Nw} (hv : N.valid) {k : Nat} (hk : k < N.m) (v : Nat) : -2639927418290176 ≤ xt N k v ∧ xt N k v ≤ 2639927418290176 := by
  have h1 := xk_bd hv (show k ≤ N.m by omega) v
  have h2 := f0_bd hv hk
  unfold xt
  split <;> omega
/-- the worlds of cheapest -/
structure CR (N : Nw) (a : Option Addr) (ca gn gf ge : Nat) (w0 : World) (f x : Nat → Int) (w : World) : Prop where
  below : Below w0.heap.size w0 w
  f : IRow w gf N.m f
  x : IRow w ge N.V x
  n0 : w.cell? ⟨gn, 0, none⟩ = some (.int .i64 (N.V : Int))
  n1 : w.cell? ⟨gn, 1, none⟩ = some (.slice a N.m ca)
  lo : w0.heap.size ≤ gn ∧ w0.heap.size ≤ gf ∧ w0.heap.size ≤ ge
  ne : gn ≠ gf ∧ gn ≠ ge ∧ gf ≠ ge
section
variable {N : Nw} {a : Option Addr} {ca gn gf ge : Nat} {w0 w w' : World} {f x : Nat → Int}
theorem CR.lt (h : CR N a ca gn gf ge w0 f x w) : gn < w.heap.size ∧ gf < w.heap.size ∧ ge < w.heap.size := ⟨block_lt_of_cell h.n0, h.f.lt, h.x.lt⟩
theorem CR.kp (h : CR N a ca gn gf ge w0 f x w) {X : List Nat} (hk : Kp X w w') (hX : ∀ y ∈ X, w0.heap.size ≤ y ∧ y ≠ gn ∧ y ≠ gf ∧ y ≠ ge) : CR N a ca gn gf ge w0 f x w' := by
  have h1 : gn ∉ X := fun e => (hX _ e).2.1 rfl
  have h2 : gf ∉ X := fun e => (hX _ e).2.2.1 rfl
  have h3 : ge ∉ X := fun e => (hX _ e).2.2.2 rfl
  exact ⟨h.below.trans (hk.to_below h.below.size (fun y hy => (hX y hy).1)), h.f.kp hk h2, h.x.kp hk h3, hk.cell h.n0 h1, hk.cell h.n1 h1, h.lo, h.ne⟩
theorem CR.more (h : CR N a ca gn gf ge w0 f x w) (hb : Below w.heap.size w w') : CR N a ca gn gf ge w0 f x w' := h.kp (Kp.of_below (X := []) hb) (by simp)
theorem CR.kpf (h : CR N a ca gn gf ge w0 f x w) (hk : Kp [gf] w w') {f' : Nat → Int} (hf : IRow w' gf N.m f') : CR N a ca gn gf ge w0 f' x w' := by
  have h1 : gn ∉ [gf] := by have := h.ne; simp; omega
  have h3 : ge ∉ [gf] := by have := h.ne; simp; omega
  exact ⟨h.below.trans (hk.to_below h.below.size (by have := h.lo; simp; omega)), hf, h.x.kp hk h3, hk.cell h.n0 h1, hk.cell h.n1 h1, h.lo, h.ne⟩
theorem CR.kpx (h : CR N a ca gn gf ge w0 f x w) (hk : Kp [ge] w w') {x' : Nat → Int} (hx : IRow w' ge N.V x') : CR N a ca gn gf ge w0 f x' w' := by
  have h1 : gn ∉ [ge] := by have := h.ne; simp; omega
  have h3 : gf ∉ [ge] := by have := h.ne; simp; omega
  exact ⟨h.below.trans (hk.to_below h.below.size (by have := h.lo; simp; omega)), h.f.kp hk h3, hx, hk.cell h.n0 h1, hk.cell h.n1 h1, h.lo, h.ne⟩
theorem CR.putf (h : CR N a ca gn gf ge w0 f x w) (i : Nat) (v : Int) : CR N a ca gn gf ge w0 (upd f i v) x (w.setCell ⟨gf, i, none⟩ (.int .i64 v)) :=
  h.kpf ((Kp.refl _ _).setCell _ _ (.inl (by simp))) (IRow.set h.f i v (upd_same _ _ _) (fun j hj => upd_other _ _ hj))
theorem CR.putx (h : CR N a ca gn gf ge w0 f x w) (i : Nat) (v : Int) : CR N a ca gn gf ge w0 f (upd x i v) (w.setCell ⟨ge, i, none⟩ (.int .i64 v)) :=
  h.kpx ((Kp.refl _ _).setCell _ _ (.inl (by simp))) (IRow.set h.x i v (upd_same _ _ _) (fun j hj => upd_other _ _ hj))
theorem CR.congr (h : CR N a ca gn gf ge w0 f x w) {f' x' : Nat → Int} (hf : ∀ j, j < N.m → f j = f' j) (hx : ∀ v, v < N.V → x v = x' v) : CR N a ca gn gf ge w0 f' x' w :=
  ⟨h.below, VRow.congr h.f _ (fun j hj => by rw [hf j hj]), VRow.congr h.x _ (fun j hj => by rw [hx j hj]), h.n0, h.n1, h.lo, h.ne⟩
end
/-- with distances and pointers -/
structure CD (N : Nw) (a : Option Addr) (ca gn gf ge gd go : Nat) (w0 : World) (f x d o : Nat → Int) (w : World) : Prop where
  r : CR N a ca gn gf ge w0 f x w
  d : IRow w gd N.V d
  o : IRow w go N.V o
  lo : w0.heap.size ≤ gd ∧ w0.heap.size ≤ go
  ne : gd ≠ go ∧ (gd ≠ gn ∧ gd ≠ gf ∧ gd ≠ ge) ∧ (go ≠ gn ∧ go ≠ gf ∧ go ≠ ge)
section
variable {N : Nw} {a : Option Addr} {ca gn gf ge gd go : Nat} {w0 w w' : World} {f x d o : Nat → Int}
theorem CD.more (h : CD N a ca gn gf ge gd go w0 f x d o w) (hb : Below w.heap.size w w') : CD N a ca gn gf ge gd go w0 f x d o w' :=
  ⟨h.r.more hb, VRow.below h.d hb h.d.lt, VRow.below h.o hb h.o.lt, h.lo, h.ne⟩
theorem CD.putd (h : CD N a ca gn gf ge gd go w0 f x d o w) (i : Nat) (v : Int) : CD N a ca gn gf ge gd go w0 f x (upd d i v) o (w.setCell ⟨gd, i, none⟩ (.int .i64 v)) :=
  ⟨h.r.kp (X := [gd]) ((Kp.refl _ _).setCell _ _ (.inl (by simp))) (by have := h.ne; have := h.lo; simp; omega), IRow.set h.d i v (upd_same _ _ _) (fun j hj => upd_other _ _ hj), VRow.kp h.o (X := [gd]) ((Kp.refl _ _).setCell _ _ (.inl (by simp))) (by have := h.ne; simp; omega), h.lo, h.ne⟩
theorem CD.putx (h : CD N a ca gn gf ge gd go w0 f x d o w) (i : Nat) (v : Int) : CD N a ca gn gf ge gd go w0 f (upd x i v) d o (w.setCell ⟨ge, i, none⟩ (.int .i64 v)) :=
  ⟨h.r.putx i v, VRow.kp h.d (X := [ge]) ((Kp.refl _ _).setCell _ _ (.inl (by simp))) (by have := h.ne; simp; omega), VRow.kp h.o (X := [ge]) ((Kp.refl _ _).setCell _ _ (.inl (by simp))) (by have := h.ne; simp; omega), h.lo, h.ne⟩
theorem CD.kpd (h : CD N a ca gn gf ge gd go w0 f x d o w) (hk : Kp [gd, go] w w') {d' o' : Nat → Int} (hd : IRow w' gd N.V d') (ho : IRow w' go N.V o') : CD N a ca gn gf ge gd go w0 f x d' o' w' :=
  ⟨h.r.kp hk (by have := h.ne; have := h.lo; simp; omega), hd, ho, h.lo, h.ne⟩
theorem CD.kpf (h : CD N a ca gn gf ge gd go w0 f x d o w) (hk : Kp [gf] w w') {f' : Nat → Int} (hf : IRow w' gf N.m f') : CD N a ca gn gf ge gd go w0 f' x d o w' :=
  ⟨h.r.kpf hk hf, VRow.kp h.d hk (by have := h.ne; simp; omega), VRow.kp h.o hk (by have := h.ne; simp; omega), h.lo, h.ne⟩
theorem CD.congrd (h : CD N a ca gn gf ge gd go w0 f x d o w) {d' : Nat → Int} (hd : ∀ v, v < N.V → d v = d' v) : CD N a ca gn gf ge gd go w0 f x d' o w :=
  ⟨h.r, VRow.congr h.d _ (fun j hj => by rw [hd j hj]), h.o, h.lo, h.ne⟩
theorem CD.lt (h : CD N a ca gn gf ge gd go w0 f x d o w) : gd < w.heap.size ∧ go < w.heap.size := ⟨h.d.lt, h.o.lt⟩
/-- the arcs stay where they were -/
theorem CD.arcs (h : CD N a ca gn gf ge gd go w0 f x d o w) (ha : Arcs w0 a N) (hk : Kp [gd, go] w w') : Arcs w' a N :=
  ha.below (h.r.below.trans (hk.to_below h.r.below.size (by have := h.lo; simp; omega)))
theorem CD.flow (h : CD N a ca gn gf ge gd go w0 f x d o w) (hk : Kp [gd, go] w w') : Rd w' (some ⟨gf, 0, none⟩) N.m f := Rd.of_row (VRow.kp h.r.f hk (by have := h.ne; simp; omega))
end
/-- distances at the start of a search, the first k vertices -/
def dk (x : Nat → Int) (k : Nat) (v : Nat) : Int := if v < k then (if x v ≤ 0 then rfar else 0) else 0
theorem dk_zero (x : Nat → Int) (v : Nat) : 0 = dk x 0 v := by unfold dk; rw [if_neg (by omega)]
theorem dk_far {x : Nat → Int} {k : Nat} (h : x k ≤ 0) (v : Nat) : upd (dk x k) k rfar v = dk x (k + 1) v := by
  by_cases e : v = k
  · subst e; rw [upd_same]; unfold dk; rw [if_pos (by omega), if_pos h]
  · rw [upd_other _ _ e]; unfold dk
    by_cases e2 : v < k
    · have e3 : v < k + 1 := by omega
      simp only [e2, e3, if_true]
    · have e3 : ¬ v < k + 1 := by omega
      simp only [e2, e3, if_false]
theorem dk_zero' {x : Nat → Int} {k : Nat} (h : 0 < x k) (v : Nat) : dk x k v = dk x (k + 1) v := by
  unfold dk
  by_cases e : v = k
  · subst e; rw [if_neg (by omega), if_pos (by omega), if_neg (by omega)]
  · by_cases e2 : v < k
    · have e3 : v < k + 1 := by omega
      simp only [e2, e3, if_true]
    · have e3 : ¬ v < k + 1 := by omega
      simp only [e2, e3, if_false]
theorem dk_end {x : Nat → Int} {V v : Nat} (h : v < V) : dk x V v = if x v ≤ 0 then rfar else 0 := by unfold dk; rw [if_pos h]
/-- the vertex that is chosen, after i -/
def Mr (d x : Nat → Int) (i : Nat) (c : Int) : Prop := (c = -1 ∧ ∀ v, v < i → x v < 0 → rfar ≤ d v) ∨ (∃ u : Nat, c = (u : Int) ∧ u < i ∧ x u < 0 ∧ d u < rfar)
theorem Mr.zero (d x : Nat → Int) : Mr d x 0 (-1) := .inl ⟨rfl, fun v hv => absurd hv (by omega)⟩
theorem Mr.skip {d x : Nat → Int} {i : Nat} {c : Int} (h : Mr d x i c) (hs : 0 ≤ x i ∨ rfar ≤ d i ∨ ∃ u : Nat, c = (u : Int)) : Mr d x (i + 1) c := by
  rcases h with ⟨h1, h2⟩ | ⟨u, h1, h2, h3, h4⟩
  · refine .inl ⟨h1, fun v hv hx => ?_⟩
    by_cases e : v = i
    · subst e
      rcases hs with hs | hs | ⟨u, hs⟩
      · omega
      · exact hs
      · omega
    · exact h2 v (by omega) hx
  · exact .inr ⟨u, h1, by omega, h3, h4⟩
theorem Mr.take {d x : Nat → Int} {i : Nat} (hx : x i < 0) (hd : d i < rfar) : Mr d x (i + 1) (i : Int) := .inr ⟨i, rfl, by omega, hx, hd⟩
/-- what cheapest leaves -/
def ChPost (N : Nw) (w : World) (e : Ending) (w' : World) : Prop := Below w.heap.size w w' ∧
  ((e = .returned (.tuple #[.slice none 0 0, .bool false]) ∧ N.noc) ∨
   (∃ (gf : Nat) (f : Nat → Int), e = .returned (.tuple #[.slice (some ⟨gf, 0, none⟩) N.m N.m, .bool true]) ∧ IRow w' gf N.m f ∧ w.heap.size ≤ gf ∧ N.circ f ∧ ∃ p, N.fits p f))
theorem sum_lo {N : Nw} {d : Nat → Int} (h : ∀ v, v < N.V → -520000 ≤ d v) : -((N.V : Int) * 520000) ≤ sm N.V d := by
  have := sm_le (n := N.V) (f := fun _ => -520000) (g := d) h
  rw [sm_const] at this
  omega
/-- the walk back, partly taken -/
def Tk (N : Nw) (f : Nat → Int) (o : Nat → Int) (a : Nat) (m0 : Int) (l : List Sp) (v : Nat) (m : Int) (l2 : List Sp) : Prop :=
  ∃ l1, l = l1 ++ l2 ∧ Bp N o a v l2 ∧ 0 < m ∧ m ≤ m0 ∧ ∀ s ∈ l1, m ≤ N.rm f s
theorem Tk.start {N : Nw} {f o : Nat → Int} {a v : Nat} {l : List Sp} {m0 : Int} (h : Bp N o a v l) (hm : 0 < m0) : Tk N f o a m0 l v m0 l := ⟨[], rfl, h, hm, Int.le_refl _, by simp⟩
theorem Tk.step {N : Nw} {f o : Nat → Int} {a v : Nat} {l l2 : List Sp} {m0 m : Int} {s : Sp} (h : Tk N f o a m0 l v m (s :: l2)) (hr : 0 < N.rm f s) (m' : Int) (hm : m' = min m (N.rm f s)) : Tk N f o a m0 l (N.beg s) m' l2 := by
  obtain ⟨l1, h1, h2, h3, h4, h5⟩ := h
  refine ⟨l1 ++ [s], by rw [h1]; simp, h2.cons.2.2.2, by omega, by omega, fun t ht => ?_⟩
  rw [List.mem_append] at ht
  rcases ht with ht | ht
  · have := h5 t ht; omega
  · rw [List.mem_singleton.1 ht]; omega
/-- pushes along the walk back, partly done -/
def Pk (N : Nw) (f : Nat → Int) (o : Nat → Int) (a : Nat) (m : Int) (l : List Sp) (v : Nat) (f1 : Nat → Int) (l2 : List Sp) : Prop :=
  ∃ l1, l = l1 ++ l2 ∧ Bp N o a v l2 ∧ f1 = pushes f l1 m
theorem Pk.start {N : Nw} {f o : Nat → Int} {a v : Nat} {l : List Sp} {m : Int} (h : Bp N o a v l) : Pk N f o a m l v f l := ⟨[], rfl, h, rfl⟩
theorem Pk.step {N : Nw} {f o : Nat → Int} {a v : Nat} {l l2 : List Sp} {m : Int} {f1 : Nat → Int} {s : Sp} (h : Pk N f o a m l v f1 (s :: l2)) : Pk N f o a m l (N.beg s) (push f1 s m) l2 := by
  obtain ⟨l1, h1, h2, h3⟩ := h
  refine ⟨l1 ++ [s], by rw [h1]; simp, h2.cons.2.2.2, ?_⟩
  rw [h3]; unfold pushes; rw [List.foldl_append]; rfl
theorem Pk.done {N : Nw} {f o : Nat → Int} {a v : Nat} {l : List Sp} {m : Int} {f1 : Nat → Int} (h : Pk N f o a m l v f1 []) : f1 = pushes f l m := by
  obtain ⟨l1, h1, h2, h3⟩ := h
  rw [List.append_nil] at h1
  rw [h3, h1]
/-- on the way the next arc's flow is as it was -/
theorem Pk.same {N : Nw} {f o : Nat → Int} {a v : Nat} {l l2 : List Sp} {m : Int} {f1 : Nat → Int} {s : Sp} (h : Pk N f o a m l v f1 (s :: l2)) (hp : l.Pairwise (fun s t => s.i ≠ t.i)) : f1 s.i = f s.i := by
  obtain ⟨l1, h1, h2, h3⟩ := h
  rw [h3]
  refine pushes_other f m (fun t ht => ?_)
  rw [h1, List.pairwise_append] at hp
  exact hp.2.2 t ht s (by simp)
theorem Tk.mem {N : Nw} {f o : Nat → Int} {a v : Nat} {l l2 : List Sp} {m0 m : Int} {s : Sp} (h : Tk N f o a m0 l v m (s :: l2)) : s ∈ l := by
  obtain ⟨l1, h1, _⟩ := h
  rw [h1]; simp
theorem Pk.mem {N : Nw} {f o : Nat → Int} {a v : Nat} {l l2 : List Sp} {m : Int} {f1 : Nat → Int} {s : Sp} (h : Pk N f o a m l v f1 (s :: l2)) : s ∈ l := by
  obtain ⟨l1, h1, _⟩ := h
  rw [h1]; simp
end Go.Proofs.Ythoehobofdeifaa
