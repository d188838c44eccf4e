/-
  WORDS for the law CirculationScales: rows of arcs that are written, an append of a whole slice in a drawn region, answers of Solve. (Filled in from a template of this repo.)
-/
import Derived.Test.YthoehobofdeifaaAwk
import Derived.Test.YthoehobofdeifaaDrN
import Derived.Test.YthoehobofdeifaaCirH
import Derived.Laws.AppendOwnNone
namespace Go.Proofs.Ythoehobofdeifaa
open Go.ChangeShapes Go.WideShapes Go.ChangeAt Go.RowKit
set_option linter.unusedVariables false

/-- 'append(nil, xs...)' at a step of a region that draws its order -/
theorem step_append_src {P : Program} {w : World} {ops : Array Oper} {o : Oper} {a : Act} {K : Act → World → Prop} {Q : Exit → Act → World → Prop} {E : Prop} (hgd : o.guard = none) (s x : Operand) (t : TypeId)
    (ho : o.op = .call { callee := .builtin .append, args := #[s, x], argTypes := #[t, t] })
    (base : Nat) (e : TypeId) (i : TypeInfo) (z : Value) (size bytes : Nat) (ht : P.underlying t = some (.slice e)) (hi : P.info? e = some i) (hz : i.zero = some z)
    (hsize : i.size = size) (hby : i.bytes = bytes) (hzs : z.cells.size = size) (hsz : 0 < size)
    (hs : a.eval s = .slice none 0 0) (ad : Option Addr) (m c : Nat) (news : List Value) (hx : a.eval x = .slice ad m c) (hmc : m ≤ c) (hnil : ad = none → c = 0) (hl : news.length = m * size) (hnews : Cells w ad news) (h1 : ∀ u ∈ news, u.oneCell' = true)
    (h63 : m ≤ maxLen) (hbytes : m * bytes ≤ 140737488355328) (hbase : base ≤ w.heap.size)
    (h : ∀ v' w', w'.ownsRow base e size v' m news → w.grownBy w' (none : Option Nat) → K (a.put o.dst v') w') :
    if Region.wanted o (yielded ops a.tmps) = true then Oper.wp P o a w K Q else E := by
  have hw : Region.wanted o (yielded ops a.tmps) = true := by simp [Region.wanted, hgd]
  rw [if_pos hw]
  cases ad with
  | some ad =>
    refine wp_append_own w s x t ho base e i z size bytes ht hi hz hsize hby hzs hsz (.slice none 0 0) 0 [] hs (World.ownsRow_nil w base e size) ad m c news hx hl (cells_at hnews) h1 (by omega) (by rw [Nat.zero_add]; exact hbytes) hbase (fun v' w' a1 a2 _ => ?_)
    rw [Nat.zero_add, List.nil_append] at a1
    exact h v' w' a1 a2
  | none =>
    have hc := hnil rfl
    subst hc
    obtain rfl : m = 0 := by omega
    obtain rfl : news = [] := List.eq_nil_of_length_eq_zero (by simpa using hl)
    have hr := run_append_owned_none (P := P) w base t o.type e i size ht hi (.slice none 0 0) 0 [] (World.ownsRow_nil w base e size)
    unfold Oper.wp execOp
    simp only [ho, resolve, invoke, builtin, Sem.run_bind, Sem.run_pure, Result.andThen_ok, List.map_toArray, List.map_cons, List.map_nil, hs, hx, hr]
    exact h _ _ (World.ownsRow_nil w base e size) ⟨rfl, rfl, rfl, Nat.le_refl _, fun _ _ _ => rfl⟩
/-- the fields of an arc -/
def fld (r : Ar) (t : Nat) : Value := if t = 0 then .int .i64 (r.f : Int) else if t = 1 then .int .i64 (r.t : Int) else if t = 2 then .int .i64 r.l else if t = 3 then .int .i64 r.u else .int .i64 r.c
/-- block g begins with n arcs -/
def ARow (w : World) (g n : Nat) (A : Nat → Ar) : Prop := ∃ cur, w.heap[g]? = some (.cells cur 46 (0, 0)) ∧ ∀ j, j < n → ∀ t, t < 5 → cur[j * 5 + t]? = some (fld (A j) t)
theorem ARow.cell {w : World} {g n : Nat} {A : Nat → Ar} (h : ARow w g n A) {j : Nat} (hj : j < n) :
    w.cell? ⟨g, j * 5, none⟩ = some (.int .i64 ((A j).f : Int)) ∧ w.cell? ⟨g, j * 5 + 1, none⟩ = some (.int .i64 ((A j).t : Int)) ∧ w.cell? ⟨g, j * 5 + 2, none⟩ = some (.int .i64 (A j).l) ∧ w.cell? ⟨g, j * 5 + 3, none⟩ = some (.int .i64 (A j).u) ∧ w.cell? ⟨g, j * 5 + 4, none⟩ = some (.int .i64 (A j).c) := by
  obtain ⟨cur, h1, h2⟩ := h
  exact ⟨by rw [cell_of_row _ _ _ _ _ _ h1]; exact h2 j hj 0 (by omega), by rw [cell_of_row _ _ _ _ _ _ h1]; exact h2 j hj 1 (by omega), by rw [cell_of_row _ _ _ _ _ _ h1]; exact h2 j hj 2 (by omega), by rw [cell_of_row _ _ _ _ _ _ h1]; exact h2 j hj 3 (by omega), by rw [cell_of_row _ _ _ _ _ _ h1]; exact h2 j hj 4 (by omega)⟩
theorem ARow.frozen {w : World} {g n : Nat} {A : Nat → Ar} (h : ARow w g n A) (o : Nat) : w.frozen? ⟨g, o, none⟩ = false := by
  obtain ⟨cur, h1, _⟩ := h
  exact frozen_of_row _ _ _ _ _ h1
theorem ARow.lt {w : World} {g n : Nat} {A : Nat → Ar} (h : ARow w g n A) : g < w.heap.size := by
  obtain ⟨cur, h1, _⟩ := h
  exact heap_lt h1
theorem ARow.keep {w w' : World} {g n : Nat} {A : Nat → Ar} (h : ARow w g n A) (hk : w'.heap[g]? = w.heap[g]?) : ARow w' g n A := by
  obtain ⟨cur, h1, h2⟩ := h
  exact ⟨cur, hk.trans h1, h2⟩
theorem ARow.below {w w' : World} {g n : Nat} {A : Nat → Ar} (h : ARow w g n A) (hb : Below w.heap.size w w') : ARow w' g n A := h.keep (hb.block g h.lt)
theorem ARow.set {w : World} {g n : Nat} {A B : Nat → Ar} (h : ARow w g n A) {i t : Nat} (hi : i < n) (ht : t < 5) (v : Value) (h1 : fld (B i) t = v) (h2 : ∀ s, s < 5 → s ≠ t → fld (B i) s = fld (A i) s) (h3 : ∀ j, j ≠ i → B j = A j) : ARow (w.setCell ⟨g, i * 5 + t, none⟩ v) g n B := by
  obtain ⟨cur, k1, k2⟩ := h
  refine ⟨_, heap_setCell_same w g (i * 5 + t) cur _ v k1, fun j hj s hs => ?_⟩
  rw [Array.getElem?_setIfInBounds]
  have hsz : i * 5 + t < cur.size := by have := k2 i hi t ht; exact (Array.getElem?_eq_some_iff.1 this).1
  by_cases e : j = i
  · subst e
    by_cases e2 : s = t
    · subst e2; rw [if_pos rfl, if_pos hsz, h1]
    · rw [if_neg (by omega), h2 s hs e2]; exact k2 j hj s hs
  · rw [if_neg (by omega), h3 j e]; exact k2 j hj s hs
theorem ARow.congr {w : World} {g n : Nat} {A B : Nat → Ar} (h : ARow w g n A) (he : ∀ j, j < n → A j = B j) : ARow w g n B := by
  obtain ⟨cur, h1, h2⟩ := h
  exact ⟨cur, h1, fun j hj t ht => by rw [← he j hj]; exact h2 j hj t ht⟩
theorem ARow.of_own {w : World} {base : Nat} {v : Value} {l : List Ar} (h : w.ownsRow base 46 5 v l.length (arvs l)) (hl : 0 < l.length) : ∃ g cap, v = .slice (some ⟨g, 0, none⟩) l.length cap ∧ base ≤ g ∧ l.length ≤ cap ∧ ARow w g l.length (fun j => l.getD j default) := by
  rcases h.2 with ⟨_, h0⟩ | ⟨g, cap, cur, rfl, hb, hg, hnc, hcm, hcs, htk⟩
  · omega
  · refine ⟨g, cap, rfl, hb, hnc, cur, hg, fun j hj t ht => ?_⟩
    have hj5 : j * 5 + t < l.length * 5 := by omega
    obtain ⟨g0, g1, g2, g3, g4⟩ := arvs_get l j (l.getD j default) (by simp [List.getD, hj])
    have hget : (arvs l)[j * 5 + t]? = some (fld (l.getD j default) t) := by
      have : t = 0 ∨ t = 1 ∨ t = 2 ∨ t = 3 ∨ t = 4 := by omega
      rcases this with rfl | rfl | rfl | rfl | rfl
      · exact g0
      · exact g1
      · exact g2
      · exact g3
      · exact g4
    rw [← htk, List.getElem?_take, if_pos hj5] at hget
    simpa using hget
/-- the network of n arcs -/
def nwA (V n : Nat) (A : Nat → Ar) : Nw := ⟨V, n, fun i => (A i).f, fun i => (A i).t, fun i => (A i).l, fun i => (A i).u, fun i => (A i).c⟩
def rwA (V n : Nat) (A : Nat → Ar) : Rw := ⟨(V : Int), n, fun i => ⟨((A i).f : Int), ((A i).t : Int), (A i).l, (A i).u, (A i).c⟩⟩
theorem rwA_good {V n : Nat} {A : Nat → Ar} (h : (nwA V n A).valid) : (rwA V n A).good := by
  have h1 : 1 ≤ V := h.V1
  have h2 : V ≤ 520 := h.V2
  have h3 : n ≤ 2400 := h.m2
  refine ⟨⟨show (1 : Int) ≤ (V : Int) by omega, show (V : Int) ≤ 520 by omega, h3⟩, fun i hi => badA_false.2 ?_⟩
  have h4 : (A i).f < V ∧ (A i).t < V := h.ok i hi
  have h5 : 0 ≤ (A i).l ∧ (A i).l ≤ (A i).u ∧ (A i).u ≤ 1099511627776 := h.lo i hi
  have h6 : -1000 ≤ (A i).c ∧ (A i).c ≤ 1000 := h.c i hi
  show (0 ≤ ((A i).f : Int) ∧ ((A i).f : Int) < (V : Int)) ∧ (0 ≤ ((A i).t : Int) ∧ ((A i).t : Int) < (V : Int)) ∧ 0 ≤ (A i).l ∧ (A i).l ≤ (A i).u ∧ (A i).u ≤ 1099511627776 ∧ -1000 ≤ (A i).c ∧ (A i).c ≤ 1000
  omega
theorem ARow.ra {w : World} {g V n : Nat} {A : Nat → Ar} (h : ARow w g n A) : RA w (some ⟨g, 0, none⟩) (rwA V n A).m (rwA V n A).A := fun i hi => by
  obtain ⟨c0, c1, c2, c3, c4⟩ := h.cell (j := i) hi
  refine ⟨g, 0, rfl, h.lt, ?_, ?_, ?_, ?_, ?_⟩
  · rw [Nat.zero_add]; exact c0
  · rw [Nat.zero_add]; exact c1
  · rw [Nat.zero_add]; exact c2
  · rw [Nat.zero_add]; exact c3
  · rw [Nat.zero_add]; exact c4
/-- what an answer of Solve says -/
def Ans (N : Nw) (code : Int) (n : Nat) (f : Nat → Int) : Prop := (code = 31 ∧ n = 0 ∧ N.noc) ∨ (code = 0 ∧ n = N.m ∧ N.cert f)
def SolA (N : Nw) (w : World) (e : Ending) (w' : World) : Prop := ∃ (s : Option Addr) (n c : Nat) (f : Nat → Int) (code : Int), e = .returned (.tuple #[.slice s n c, .int .i64 code]) ∧ Rd w' s n f ∧ Ans N code n f ∧ Below w.heap.size w w'
theorem Solve_ans (V n : Nat) (A : Nat → Ar) (hv : (nwA V n A).valid) (a : Option Addr) (ca : Nat) (w : World) (h : RA w a n (rwA V n A).A) :
    Calls Try.prog 21 #[.agg #[.int .i64 (V : Int), .slice a n ca]] w (SolA (nwA V n A) w) := by
  have hn : n ≤ 2400 := hv.m2
  refine (Solve_any (rwA V n A) a ca (show n ≤ _ by omega) w h).mono ?_
  rintro e w' ⟨hb, he⟩
  rcases he with ⟨hn, _⟩ | ⟨_, rfl, hn⟩ | ⟨_, gf, f, rfl, hr, _, hc⟩
  · exact absurd (rwA_good hv) hn
  · exact ⟨none, 0, 0, fun _ => 0, 31, rfl, fun j hj => absurd hj (by omega), .inl ⟨rfl, rfl, hn⟩, hb⟩
  · exact ⟨_, _, _, f, 0, rfl, Rd.of_row hr, .inr ⟨rfl, rfl, hc⟩, hb⟩
theorem ans_scale {N : Nw} (hok : N.ok) {k : Int} (hk : 0 < k) {c1 c2 : Int} {n1 n2 : Nat} {f1 f2 : Nat → Int} (h1 : Ans N c1 n1 f1) (h2 : Ans (N.scale k) c2 n2 f2) : c1 = c2 ∧ n1 = n2 ∧ ∀ j, j < n1 → f2 j = k * f1 j := by
  have hok2 : (N.scale k).ok := hok
  rcases h1 with ⟨rfl, rfl, hn⟩ | ⟨rfl, rfl, hc⟩
  · rcases h2 with ⟨rfl, rfl, _⟩ | ⟨_, _, hc2⟩
    · exact ⟨rfl, rfl, fun j hj => absurd hj (by omega)⟩
    · exact absurd (cert_best hok2 hc2).1 (noc_none hok2 (noc_scale hk hn) f2)
  · rcases h2 with ⟨_, _, hn2⟩ | ⟨rfl, rfl, hc2⟩
    · exact absurd (cert_best hok2 (cert_scale hk hc)).1 (noc_none hok2 hn2 _)
    · exact ⟨rfl, rfl, fun j hj => best_one (cert_best hok2 hc2) (cert_best hok2 (cert_scale hk hc)) j hj⟩
theorem ans_shift {N : Nw} (hok : N.ok) (q : Nat → Int) {c1 c2 : Int} {n1 n2 : Nat} {f1 f2 : Nat → Int} (h1 : Ans N c1 n1 f1) (h2 : Ans (N.shift q) c2 n2 f2) : c1 = c2 ∧ n1 = n2 ∧ ∀ j, j < n1 → f1 j = f2 j := by
  have hok2 : (N.shift q).ok := hok
  rcases h1 with ⟨rfl, rfl, hn⟩ | ⟨rfl, rfl, hc⟩
  · rcases h2 with ⟨rfl, rfl, _⟩ | ⟨_, _, hc2⟩
    · exact ⟨rfl, rfl, fun j hj => absurd hj (by omega)⟩
    · exact absurd (show N.circ f2 from (cert_best hok2 hc2).1) (noc_none hok hn f2)
  · rcases h2 with ⟨_, _, hn2⟩ | ⟨rfl, rfl, hc2⟩
    · exact absurd (show (N.shift q).circ f1 from (cert_best hok hc).1) (noc_none hok2 hn2 _)
    · exact ⟨rfl, rfl, fun j hj => best_one (best_shift hok q (cert_best hok hc)) (cert_best hok2 hc2) j hj⟩
end Go.Proofs.Ythoehobofdeifaa
