/-
  WALK of record.Recover: a right header, and any bytes behind it.
-/
import Derived.Test.YtkgdogccnkjcgaaDoorCanon
import Derived.Test.YtkgdogccnkjcgaaDoorEnc
import Derived.Laws.BytesArg
import Derived.Laws.Tables
namespace Go.Proofs.YtkgdogccnkjcgaaDoor
open Go.ChangeShapes Go.WideShapes Go.ChangeAt Go.RowKit
theorem fd_on {ps : List Nat} (h : ps.length ≤ 65535) (more : List Nat) : fd (frame ps ++ more) = (ps, (frame ps).length, 0) := by
  obtain ⟨c, hc⟩ : ∃ c, crc ps = c := ⟨_, rfl⟩
  have hu := ud_enc (n := ps.length) (by omega) (ps ++ le4 c ++ more)
  have hf : frame ps ++ more = uenc ps.length ++ (ps ++ le4 c ++ more) := by unfold frame; rw [hc]; simp
  have hfl : (frame ps).length = (uenc ps.length).length + ps.length + 4 := by unfold frame; simp [le4]; omega
  have hd : ∀ m, (uenc ps.length ++ (ps ++ le4 c ++ more)).drop ((uenc ps.length).length + m) = (ps ++ le4 c ++ more).drop m := by
    intro m; rw [List.drop_append, List.drop_eq_nil_of_le (by omega), Nat.add_sub_cancel_left, List.nil_append]
  have hd0 := hd 0
  rw [Nat.add_zero, List.drop_zero] at hd0
  have e1 : (ps ++ le4 c ++ more).take ps.length = ps := by rw [List.append_assoc, List.take_left]
  have e2 : ((ps ++ le4 c ++ more).drop ps.length).take 4 = le4 c := by rw [List.append_assoc, List.drop_left]; exact List.take_left' (by simp [le4])
  rw [hf, hfl]
  unfold fd
  rw [hu]
  simp only
  rw [if_neg (by simp), if_neg (by omega), if_neg (by simp [le4]; omega), hd, hd0, e1, e2, hc, if_pos rfl]
theorem fd_ok {l : List Nat} (h : (fd l).2.2 = 0) : 5 ≤ (fd l).2.1 ∧ (fd l).2.1 ≤ l.length ∧ (fd l).1 = (l.drop (ud l).2.1).take (ud l).1 := by
  have hp := ud_pos l
  unfold fd at h ⊢
  by_cases h1 : (ud l).2.2 = 0
  · rw [if_neg (by simpa using h1)] at h ⊢
    have := hp h1
    split at h
    · simp at h
    · rename_i h2
      rw [if_neg h2]
      split at h
      · simp at h
      · rename_i h3
        rw [if_neg h3]
        split at h
        · rename_i h4
          rw [if_pos h4]
          exact ⟨by simp only; omega, by simp only; omega, rfl⟩
        · simp at h
  · rw [if_pos (by simpa using h1)] at h
    exact absurd h h1
theorem fd_byt {l : List Nat} (hb : Byt l) (h : (fd l).2.2 = 0) : Byt (fd l).1 := by rw [(fd_ok h).2.2]; exact (hb.drop _).take _
theorem fd_le (l : List Nat) (h : (fd l).2.2 = 0) : (fd l).1.length ≤ l.length := by rw [(fd_ok h).2.2]; simp; omega
theorem frame_byt {ps : List Nat} (h : Byt ps) : Byt (frame ps) := by
  unfold frame
  refine Byt.append (Byt.append (uenc_byt _) h) ?_
  have := crc_lt h
  intro x hx
  simp only [le4, List.mem_cons, List.not_mem_nil, or_false] at hx
  rcases hx with rfl | rfl | rfl | rfl <;> omega
/-- the record at the beginning, and its length -/
def nextR (zs : List Nat) (cnt : Nat) : Option (Rc × Nat) :=
  if (fd zs).2.2 ≠ 0 then none else if (rdR (fd zs).1).2 = false then none else if (rdR (fd zs).1).1.kind ≠ 3 ∧ cnt = 4096 then none else some ((rdR (fd zs).1).1, (fd zs).2.1)
/-- the records, whether the end was there, how many bytes they have -/
def scan : Nat → List Nat → Nat → List Rc × Bool × Nat
  | 0, _, _ => ([], false, 0)
  | f + 1, zs, c => match nextR zs c with
    | none => ([], false, 0)
    | some (r, k) => if r.kind = 3 then ([], true, k) else (r :: (scan f (zs.drop k) (c + 1)).1, (scan f (zs.drop k) (c + 1)).2.1, k + (scan f (zs.drop k) (c + 1)).2.2)
/-- how far the scan of R has come -/
def Sc (R : List Nat) (ls : List Rc) (at_ : Nat) : Prop := ∃ f, (R.drop at_).length < f ∧ scan (R.length + 1) R 0 = (ls ++ (scan f (R.drop at_) ls.length).1, (scan f (R.drop at_) ls.length).2.1, at_ + (scan f (R.drop at_) ls.length).2.2)
theorem Sc.start (R : List Nat) : Sc R [] 0 := ⟨R.length + 1, by simp, by simp⟩
theorem Sc.stop {R : List Nat} {ls : List Rc} {at_ : Nat} (h : Sc R ls at_) (hn : nextR (R.drop at_) ls.length = none) : scan (R.length + 1) R 0 = (ls, false, at_) := by
  obtain ⟨f, h1, h2⟩ := h
  cases f with
  | zero => omega
  | succ f => rw [h2]; simp only [scan, hn]; simp
theorem Sc.whole {R : List Nat} {ls : List Rc} {at_ k : Nat} {r : Rc} (h : Sc R ls at_) (hn : nextR (R.drop at_) ls.length = some (r, k)) (hk : r.kind = 3) : scan (R.length + 1) R 0 = (ls, true, at_ + k) := by
  obtain ⟨f, h1, h2⟩ := h
  cases f with
  | zero => omega
  | succ f => rw [h2]; simp only [scan, hn, hk, if_pos]; simp
theorem next_eat {zs : List Nat} {c k : Nat} {r : Rc} (h : nextR zs c = some (r, k)) : 5 ≤ k ∧ k ≤ zs.length := by
  unfold nextR at h
  split at h
  · cases h
  · rename_i h1
    split at h
    · cases h
    · split at h
      · cases h
      · injection h with h; injection h with h h'
        rw [← h']
        have := fd_ok (l := zs) (by simpa using h1)
        exact ⟨this.1, this.2.1⟩
theorem Sc.more {R : List Nat} {ls : List Rc} {at_ k : Nat} {r : Rc} (h : Sc R ls at_) (hn : nextR (R.drop at_) ls.length = some (r, k)) (hk : r.kind ≠ 3) : Sc R (ls ++ [r]) (at_ + k) := by
  obtain ⟨f, h1, h2⟩ := h
  have he := next_eat hn
  cases f with
  | zero => omega
  | succ f =>
    refine ⟨f, ?_, ?_⟩
    · simp only [List.length_drop] at *; omega
    · rw [h2]
      conv => lhs; simp only [scan, hn]
      rw [if_neg hk]
      simp only [List.length_append, List.length_singleton, List.drop_drop, List.append_assoc, List.singleton_append, Nat.add_assoc]
theorem results_cell_row_tmp2 {P : Program} {fn : Func} {p u v : Tmp} {ty : TypeId} (h : fn.results = #[.cell p ty, .tmp u, .tmp v]) (tmps : Array Value) (w : World) (g : Nat) (t : TypeId) (cs : Array Value) (fr : Nat × Nat) (d : TypeDesc)
    (hp : tmps.getD p undef = .pointer (some ⟨g, 0, none⟩)) (hg : w.heap[g]? = some (.cells cs t fr))
    (hu : P.underlying ty = some d) (hd : (match d with | .struct _ | .array _ _ => true | _ => false) = true) (hi : (P.info? ty).map (·.size) = some cs.size) :
    (results fn tmps).run P w = .ok (.tuple #[.agg cs, tmps.getD u undef, tmps.getD v undef]) w := by
  have hq : (results fn tmps).run P w = ((asAddr (tmps.getD p undef)).run P w).andThen fun a w₁ => ((loadVar ty a).run P w₁).andThen fun x w₂ => .ok (.tuple #[x, tmps.getD u undef, tmps.getD v undef]) w₂ := by
    simp only [results, h]
    simp [Sem.run_bind, Result.andThen]
  rw [hq, hp]
  simp [asAddr, run_loadVar_row w g t ty cs fr d hg hu hd hi, Result.andThen]
/-- the cells of a record -/
def rv (p : Rc × Value) : List Value := [.int .i64 p.1.kind, .int .i64 p.1.clock, .int .i64 p.1.addr, p.2, .int .i64 p.1.lost, .int .i64 p.1.index, .int .i64 p.1.value]
def IsSl (v : Value) : Prop := ∃ (a : Option Addr) (n cap : Nat), v = .slice a n cap
theorem own_sl {w : World} {B e size n : Nat} {v : Value} {xs : List Value} (h : w.ownsRow B e size v n xs) : IsSl v := by
  rcases h.2 with ⟨rfl, _⟩ | ⟨g1, c1, cur1, rfl, _⟩
  · exact ⟨_, _, _, rfl⟩
  · exact ⟨_, _, _, rfl⟩
theorem own_len {w : World} {B e size n k cap : Nat} {a : Option Addr} {xs : List Value} (h : w.ownsRow B e size (.slice a k cap) n xs) : n = k := by
  rcases h.2 with ⟨h1, h2⟩ | ⟨g1, c1, cur1, h1, _⟩
  · injection h1 with h3 h4 h5; omega
  · injection h1 with h3 h4 h5; omega
/-- records that the call has made: the chains lie apart -/
def Chains (w : World) (B : Nat) (ls : List (Rc × Value)) : Prop := ∀ p ∈ ls, IsSl p.2 ∧ w.ownsRow B 3 1 p.2 p.1.chain.length (ints p.1.chain)
theorem own_type {w : World} {B B' e e' size size' n n' : Nat} {v v' : Value} {xs xs' : List Value} (h : w.ownsRow B e size v n xs) (h' : w.ownsRow B' e' size' v' n' xs') (he : e ≠ e') {g : Nat} (hg : v.ownBlock = some g) : v'.ownBlock ≠ some g := by
  intro hg'
  rcases h.2 with ⟨rfl, _⟩ | ⟨g1, c1, cur1, rfl, _, k1, _⟩
  · cases hg
  rcases h'.2 with ⟨rfl, _⟩ | ⟨g2, c2, cur2, rfl, _, k2, _⟩
  · cases hg'
  injection hg with hg
  injection hg' with hg'
  simp only at hg hg'
  subst hg hg'
  rw [k1] at k2
  injection k2 with k2
  injection k2 with k2 k3
  exact he k3
theorem Chains.below {w w' : World} {B : Nat} {ls : List (Rc × Value)} (h : Chains w B ls) (hb : Below w.heap.size w w') : Chains w' B ls := fun p hp => ⟨(h p hp).1, own_below (h p hp).2 hb⟩
theorem Chains.row {w w' : World} {B : Nat} {ls : List (Rc × Value)} (h : Chains w B ls) {B' size n : Nat} {v : Value} {xs : List Value} (hown : w.ownsRow B' 45 size v n xs) (hg : w.grownBy w' v.ownBlock) : Chains w' B ls := fun p hp =>
  ⟨(h p hp).1, (h p hp).2.kept hg (by
    by_cases e : p.2.ownBlock = none
    · exact .inl e
    · obtain ⟨g, hgg⟩ : ∃ g, p.2.ownBlock = some g := by cases hq : p.2.ownBlock with
        | none => exact absurd hq e
        | some g => exact ⟨g, rfl⟩
      exact .inr (by rw [hgg]; exact (own_type (h p hp).2 hown (by decide) hgg).symm))⟩
theorem Chains.block {w w' : World} {B g : Nat} {ls : List (Rc × Value)} (h : Chains w B ls) (hg : w.grownBy w' (some g)) (hB : g < B) : Chains w' B ls := fun p hp =>
  ⟨(h p hp).1, (h p hp).2.kept hg (.inr (fun e => by have := (h p hp).2.lt _ e; omega))⟩
theorem Chains.mono {w : World} {B B' : Nat} {ls : List (Rc × Value)} (h : Chains w B ls) (hB : B' ≤ B) : Chains w B' ls := fun p hp => ⟨(h p hp).1, ownsRow_mono2 (h p hp).2 hB⟩
theorem rv_len (ls : List (Rc × Value)) : (ls.flatMap rv).length = ls.length * 7 := by
  induction ls with
  | nil => rfl
  | cons p ls ih => rw [List.flatMap_cons, List.length_append, ih, List.length_cons]; show 7 + _ = _; omega
/-- what Recover leaves -/
def RcvPost (h : Hd) (R : List Nat) (w : World) (e : Ending) (w' : World) : Prop := ∃ (ls : List (Rc × Value)) (v : Value),
  e = .returned (.tuple #[shv h v (scan (R.length + 1) R 0).2.1, .int .i64 ((4 + (frame (hpay h)).length + (scan (R.length + 1) R 0).2.2 : Nat) : Int), .int .i64 0]) ∧
  w'.ownsRow w.heap.size 45 7 v ls.length (ls.flatMap rv) ∧ Chains w' w.heap.size ls ∧ ls.map (·.1) = (scan (R.length + 1) R 0).1 ∧ Below w.heap.size w w'
/-- where the loop stands -/
structure At (B S : Nat) (h : Hd) (v : Value) (wh : Bool) (ls : List (Rc × Value)) (w0 w : World) : Prop where
  s : w.heap[S]? = some (.cells #[.int .i64 h.rel, .int .i64 h.mach, .int .i64 h.num, .int .i64 h.per, .int .u64 ((h.print : Nat) : Int), v, .bool wh] 32 (0, 0))
  b : w.heap[B]? = some (.cells #[.int .i64 0, .int .i64 0, .int .i64 0, .int .i64 0, .int .u64 0, .slice none 0 0, .bool false] 32)
  own : w.ownsRow (S + 1) 45 7 v ls.length (ls.flatMap rv)
  chains : Chains w (S + 1) ls
  below : Below B w0 w
theorem At.lt {B S : Nat} {h : Hd} {v : Value} {wh : Bool} {ls : List (Rc × Value)} {w0 w : World} (g : At B S h v wh ls w0 w) : S < w.heap.size ∧ B < w.heap.size :=
  ⟨(Array.getElem?_eq_some_iff.1 g.s).1, (Array.getElem?_eq_some_iff.1 g.b).1⟩
theorem At.more {B S : Nat} {h : Hd} {v : Value} {wh : Bool} {ls : List (Rc × Value)} {w0 w w' : World} (g : At B S h v wh ls w0 w) (hb : Below w.heap.size w w') : At B S h v wh ls w0 w' :=
  ⟨(hb.block S g.lt.1).trans g.s, (hb.block B g.lt.2).trans g.b, own_below g.own hb, g.chains.below hb, g.below.trans (hb.mono (Nat.le_of_lt g.lt.2))⟩
theorem At.cell {B S : Nat} {h : Hd} {v : Value} {wh : Bool} {ls : List (Rc × Value)} {w0 w : World} (g : At B S h v wh ls w0 w) : w.cell? ⟨S, 5, none⟩ = some v ∧ w.cell? ⟨S, 6, none⟩ = some (.bool wh) ∧ w.frozen? ⟨S, 5, none⟩ = false ∧ w.frozen? ⟨S, 6, none⟩ = false :=
  ⟨cell_of_row _ _ 5 _ _ _ g.s, cell_of_row _ _ 6 _ _ _ g.s, unfrozen_of_row g.s, unfrozen_of_row g.s⟩
theorem At.all {B S : Nat} {h : Hd} {v : Value} {wh : Bool} {ls : List (Rc × Value)} {w0 w : World} (g : At B S h v wh ls w0 w) (hBS : B < S) : At B S h v true ls w0 (w.setCell ⟨S, 6, none⟩ (.bool true)) := by
  have hg := grownBy_set w S 6 (.bool true)
  exact ⟨heap_setCell_same w S 6 _ _ _ g.s, (hg.block B g.lt.2 (fun e => by injection e with e; omega)).trans g.b, g.own.kept hg (.inr (fun e => by have := g.own.lt _ e; omega)), g.chains.block hg (by omega), below_grown1 g.below hg (Nat.le_of_lt g.lt.2) (by omega)⟩
theorem At.push {B S : Nat} {h : Hd} {v v' : Value} {wh : Bool} {ls : List (Rc × Value)} {p : Rc × Value} {w0 w w4 : World} (g : At B S h v wh ls w0 w) (hBS : B < S) (hp : Chains w (S + 1) [p])
    (hown : w4.ownsRow (S + 1) 45 7 v' (ls.length + 1) (ls.flatMap rv ++ rv p)) (hgr : w.grownBy w4 v.ownBlock) : At B S h v' wh (ls ++ [p]) w0 (w4.setCell ⟨S, 5, none⟩ v') := by
  have ho : ∀ k, v.ownBlock = some k → S + 1 ≤ k := fun k hk => (g.own.lt k hk).1
  have hg5 := grownBy_set w4 S 5 v'
  have hs := (hgr.block S g.lt.1 (fun e => by have := ho S e.symm; omega)).trans g.s
  have hz := hgr.size
  have hl := g.lt
  refine ⟨heap_setCell_same w4 S 5 _ _ _ hs, ?_, ?_, ?_, ?_⟩
  · exact (hg5.block B (by omega) (fun e => by injection e with e; omega)).trans ((hgr.block B g.lt.2 (fun e => by have := ho B e.symm; omega)).trans g.b)
  · rw [List.length_append, List.flatMap_append]
    have e : [p].flatMap rv = rv p := by simp
    rw [e]
    exact hown.kept hg5 (.inr (fun e => by have := hown.lt _ e; omega))
  · intro q hq
    have hc : Chains w4 (S + 1) (ls ++ [p]) := fun q hq => by
      rcases List.mem_append.1 hq with hq | hq
      · exact g.chains.row g.own hgr q hq
      · exact hp.row g.own hgr q hq
    exact hc.block hg5 (by omega) q hq
  · exact below_grown1 (g.below.grown hgr (by omega) (fun k e => by have := ho k e; omega)) hg5 (by omega) (by omega)
theorem Tryd.info45 : (Tryd.prog.info? 45).map (fun i => (i.zero, i.size, i.bytes)) = some (some (.agg #[.int .i64 0, .int .i64 0, .int .i64 0, .slice none 0 0, .int .i64 0, .int .i64 0, .int .i64 0]), 7, 72) := by kernel_rfl
theorem shv_eq (h : Hd) (v : Value) (b : Bool) : shv h v b = .agg #[.int .i64 h.rel, .int .i64 h.mach, .int .i64 h.num, .int .i64 h.per, .int .u64 ((h.print : Nat) : Int), v, .bool b] := rfl
theorem letters_conv (w : World) (b off cap : Nat) (hc : w.cell? ⟨b, off + 0, none⟩ = some (.int .u8 87) ∧ w.cell? ⟨b, off + 1, none⟩ = some (.int .u8 80) ∧ w.cell? ⟨b, off + 2, none⟩ = some (.int .u8 70) ∧ w.cell? ⟨b, off + 3, none⟩ = some (.int .u8 49)) :
    (convert 22 9 (.slice (some ⟨b, off, none⟩) 4 cap)).run Tryd.prog w = .ok (.string { data := #[87, 80, 70, 49] }) w := by
  have := run_convert_bytes_arg (P := Tryd.prog) w 22 5 Tryd.underlying22 Tryd.underlying5 b off 4 cap [87, 80, 70, 49] rfl (fun i hi => by
    match i, hi with
    | 0, _ => exact hc.1
    | 1, _ => exact hc.2.1
    | 2, _ => exact hc.2.2.1
    | 3, _ => exact hc.2.2.2) 9 Tryd.underlying9
  rw [this]
  rfl

theorem rcv_end {B S k : Nat} {h : Hd} {v x y : Value} {wh : Bool} {ls : List (Rc × Value)} {R : List Nat} {w w1 : World} (hw : B = w.heap.size) (hBS : B < S) (hA : At B S h v wh ls w w1) (hs : scan (R.length + 1) R 0 = (ls.map (·.1), wh, k))
    (hx : x = .int .i64 ((4 + (frame (hpay h)).length + k : Nat) : Int)) (hy : y = .int .i64 0) :
    RcvPost h R w (.returned (.tuple #[.agg #[.int .i64 h.rel, .int .i64 h.mach, .int .i64 h.num, .int .i64 h.per, .int .u64 ((h.print : Nat) : Int), v, .bool wh], x, y])) (w1.setRow B #[.int .i64 h.rel, .int .i64 h.mach, .int .i64 h.num, .int .i64 h.per, .int .u64 ((h.print : Nat) : Int), v, .bool wh]) := by
  subst hw hx hy
  have hg := grownBy_setRow w1 w.heap.size #[.int .i64 h.rel, .int .i64 h.mach, .int .i64 h.num, .int .i64 h.per, .int .u64 ((h.print : Nat) : Int), v, .bool wh]
  refine ⟨ls, v, ?_, ?_, ?_, ?_, ?_⟩
  · rw [hs]
  · exact ownsRow_mono2 (hA.own.kept hg (.inr (fun e => by have := hA.own.lt _ e; omega))) (by omega)
  · exact (hA.chains.block hg (by omega)).mono (by omega)
  · rw [hs]
  · exact below_grown1 hA.below hg (Nat.le_of_lt hA.lt.2) (Nat.le_refl _)
set_option maxRecDepth 100000 in
set_option maxHeartbeats 16000000 in
theorem Recover_any (h : Hd) (hh : ckH h = 0) (hp : h.print < 18446744073709551616) (R : List Nat) (hby : Byt R) (a : Option Addr) (n cap : Nat) (w : World) (hlen : n ≤ 90000) (hbs : Bs w a n cap (lettersV ++ frame (hpay h) ++ R)) (hl : Laid w) :
    Calls Tryd.prog 13 #[.slice a n cap] w (RcvPost h R w) := by
  obtain ⟨i0, hi0, hz0, hz1, hz2⟩ := info_parts Tryd.info45
  obtain ⟨b, off, rfl, hbl, hcell⟩ := hbs.2.2.2.2.byt 0 (by simp)
  have hn := hbs.1
  have hnc := hbs.2.1
  have hcm := hbs.2.2.1
  unfold maxLen at hcm
  obtain ⟨F, hF⟩ : ∃ F, (frame (hpay h)).length = F := ⟨_, rfl⟩
  have hF5 := frame_len_ge (hpay h)
  have hFp := pre_len hh hp
  rw [List.length_append, List.length_append, hF] at hn
  rw [List.length_append, hF] at hFp
  rw [hF] at hF5
  simp only [List.length_cons, List.length_nil] at hn hFp
  have hnF : 4 + F ≤ n := by omega
  have hb1 : Below w.heap.size w (w.alloc (.cells #[.int .i64 0, .int .i64 0, .int .i64 0, .int .i64 0, .int .u64 0, .slice none 0 0, .bool false] 32)) := (Below.refl _ _).alloc (Nat.le_refl _) _
  have hc4 : ∀ i x, i < 4 → (lettersV.getD i 0 : Nat) = x → (w.alloc (.cells #[.int .i64 0, .int .i64 0, .int .i64 0, .int .i64 0, .int .u64 0, .slice none 0 0, .bool false] 32)).cell? ⟨b, off + i, none⟩ = some (.int .u8 (x : Int)) := by
    intro i x hi hx
    refine (hb1.cell (p := ⟨b, off + i, none⟩) hbl).trans ((hcell i (by simp; omega)).trans ?_)
    have : (lettersV ++ frame (hpay h) ++ R).getD i 0 = lettersV.getD i 0 := by match i, hi with | 0, _ => rfl | 1, _ => rfl | 2, _ => rfl | 3, _ => rfl
    rw [this, hx]
  have kc := letters_conv (w.alloc (.cells #[.int .i64 0, .int .i64 0, .int .i64 0, .int .i64 0, .int .u64 0, .slice none 0 0, .bool false] 32)) b off cap ⟨hc4 0 87 (by omega) rfl, hc4 1 80 (by omega) rfl, hc4 2 70 (by omega) rfl, hc4 3 49 (by omega) rfl⟩
  have hbyA : Byt (lettersV ++ frame (hpay h) ++ R) := Byt.append (Byt.append (by intro x hx; simp at hx; omega) (frame_byt (hpay_byt h))) hby
  have hr4 := (hbs.below hb1).rest2 (k := 4) (by rw [hbs.1]; omega)
  have hd4 : (lettersV ++ frame (hpay h) ++ R).drop 4 = frame (hpay h) ++ R := by simp
  rw [hd4, if_neg (show ¬ cap = 4 by omega)] at hr4
  have hfd := fd_on (ps := hpay h) (by have := frame_len_ge (hpay h); have h9 : (hpay h).length ≤ (frame (hpay h)).length := by unfold frame; simp; omega
                                       omega) R
  rw [hF] at hfd
  have HFD := Lib.hid hfd
  have HB4 := Lib.hid hr4
  have HB := Lib.hid hbs
  have HL := Lib.hid hl
  have HBY := Lib.hid hbyA
  have HBR := Lib.hid hby
  have HF := Lib.hid hF
  have HN := Lib.hid hn
  have hzB : (w.alloc (.cells #[.int .i64 0, .int .i64 0, .int .i64 0, .int .i64 0, .int .u64 0, .slice none 0 0, .bool false] 32)).heap[w.heap.size]? = some (.cells #[.int .i64 0, .int .i64 0, .int .i64 0, .int .i64 0, .int .u64 0, .slice none 0 0, .bool false] 32) := heap_alloc_new w _
  have hs1 : (w.alloc (.cells #[.int .i64 0, .int .i64 0, .int .i64 0, .int .i64 0, .int .u64 0, .slice none 0 0, .bool false] 32)).heap.size = w.heap.size + 1 := by simp
  clear hbs hl hbyA hby hF hfd hr4 hd4 hc4 hcell hn
  go_enter Tryd.func13, Tryd.ntmps13
  go_wp2_with fail
  refine (Frame_any _ (n - 4) (cap - 4) (frame (hpay h) ++ R) (by omega) (by have := HBY.out; rw [List.append_assoc] at this; exact byt_right this) _ HB4.out (HL.out.below hb1)).mono ?_
  rintro e w2 ⟨v2, rfl, hown2, hb2⟩
  rw [HFD.out] at hown2 ⊢
  simp only at hown2
  have hzB2 := (hb2.block w.heap.size (by omega)).trans hzB
  have hb12 := hb1.trans (hb2.mono hb1.size)
  have hs2 := hb2.size
  rw [hs1] at hs2
  obtain ⟨a2, cap2, rfl, hbs2⟩ := Bs.of_own hown2
  obtain ⟨m2, hm2⟩ : ∃ m, (hpay h).length = m := ⟨_, rfl⟩
  have hlt2 : ∀ x, a2 = some x → x.block < w2.heap.size := fun x hx => by
    have := hown2.lt x.block (by subst hx; rfl)
    exact this.2
  rw [hm2] at hbs2 ⊢
  have HBS2 := Lib.hid hbs2
  clear hown2 hbs2 hb1 hb2 hzB hs1 kc HB4 HFD
  generalize (w.alloc (.cells #[.int .i64 0, .int .i64 0, .int .i64 0, .int .i64 0, .int .u64 0, .slice none 0 0, .bool false] 32)) = wz at *
  go_wp2_with fail
  refine (header_good h hh hp a2 m2 cap2 _ HBS2.out hlt2).mono ?_
  rintro e w3 ⟨rfl, hb3⟩
  have hzB3 := (hb3.block w.heap.size (by omega)).trans hzB2
  have hb13 := hb12.trans (hb3.mono hb12.size)
  have hs3 := hb3.size
  clear hb3 hzB2 hb12 hlt2 HBS2
  go_wp2_with fail
  have hA : At w.heap.size (w3.heap.size + 1) h (.slice none 0 0) false [] w ((w3.alloc (.cells #[.int .i64 h.rel, .int .i64 h.mach, .int .i64 h.num, .int .i64 h.per, .int .u64 ((h.print : Nat) : Int)] 29)).alloc (.cells #[.int .i64 h.rel, .int .i64 h.mach, .int .i64 h.num, .int .i64 h.per, .int .u64 ((h.print : Nat) : Int), .slice none 0 0, .bool false] 32)) := by
    have e1 : (w3.alloc (.cells #[.int .i64 h.rel, .int .i64 h.mach, .int .i64 h.num, .int .i64 h.per, .int .u64 ((h.print : Nat) : Int)] 29)).heap.size = w3.heap.size + 1 := by simp
    refine ⟨by rw [← e1]; exact heap_alloc_new _ _, ?_, World.ownsRow_nil _ _ _ _, fun p hp => (by cases hp), ?_⟩
    · rw [Below.heap_alloc _ _ _ (by simp; omega), Below.heap_alloc _ _ _ (by omega)]; exact hzB3
    · exact (hb13.alloc (by omega) _).alloc (by simp; omega) _
  generalize ((w3.alloc (.cells #[.int .i64 h.rel, .int .i64 h.mach, .int .i64 h.num, .int .i64 h.per, .int .u64 ((h.print : Nat) : Int)] 29)).alloc (.cells #[.int .i64 h.rel, .int .i64 h.mach, .int .i64 h.num, .int .i64 h.per, .int .u64 ((h.print : Nat) : Int), .slice none 0 0, .bool false] 32)) = w4 at *
  have hBS : w.heap.size < w3.heap.size + 1 := by omega
  generalize w3.heap.size + 1 = S at *
  clear hzB3 hb13 hs2 hs3
  go_loopw [11] (fun v11 wr => ∃ (ls : List (Rc × Value)) (v : Value) (wh : Bool) (q p : Nat), v11 = .int .i64 (p : Int) ∧ p = 4 + F + q ∧ q ≤ R.length ∧ At w.heap.size S h v wh ls w wr ∧ Hid (if wh = true then scan (R.length + 1) R 0 = (ls.map (·.1), true, q) else Sc R (ls.map (·.1)) q) ∧ ls.length ≤ 4096) (fun v11 _ => n + 5 - (intOf v11).toNat)
  case atStart => exact ⟨[], _, false, 0, 4 + F, by go_num, by omega, by omega, hA, Lib.hid (by rw [if_neg (by decide)]; exact Sc.start R), by simp⟩
  case round =>
    clear hA
    obtain ⟨ls, v, wh, q, p, rfl, hpq, hq, hA, HSC, hls⟩ := hrel
    have HPQ := Lib.hid hpq
    obtain ⟨c5, c6, f5, f6⟩ := hA.cell
    cases wh with
    | true =>
      have HS := Lib.hid (show scan (R.length + 1) R 0 = (ls.map (·.1), true, q) by have := HSC.out; rwa [if_pos rfl] at this)
      clear hpq
      obtain ⟨va, vn, vc, rfl⟩ := own_sl hA.own
      have hS := hA.s
      have hB := hA.b
      go_wp2_with (first | (refine wpList_load_row (o := ⟨some 94, .load 32 (.tmp 10), _, _, _, _⟩) rfl 32 _ rfl S rfl 32 _ (0, 0) _ hS Tryd.underlying32 rfl (by kernel_rfl) ?_) | (refine wpList_store_row (o := ⟨none, .store 32 (.tmp 2) (.tmp 94), _, _, _, _⟩) rfl 32 _ _ rfl w.heap.size #[.int .i64 h.rel, .int .i64 h.mach, .int .i64 h.num, .int .i64 h.per, .int .u64 ((h.print : Nat) : Int), .slice va vn vc, .bool true] rfl rfl 32 _ hB (by kernel_rfl) rfl (by kernel_rfl) ?_))
      refine bodyPost_ret (results_cell_row_tmp2 Tryd.results13 _ _ w.heap.size 32 _ _ _ rfl (setRow_heap _ _ _ _ _ _ hB) Tryd.underlying32 rfl (by kernel_rfl)) rfl ?_
      exact rcv_end rfl hBS hA HS.out (by rw [HPQ.out, HF.out]; rfl) rfl
    | false =>
      have HSc := Lib.hid (show Sc R (ls.map (·.1)) q by have := HSC.out; rwa [if_neg (by decide)] at this)
      have hpn : p ≤ n := by have := HN.out; omega
      have hlA := hA.lt
      have hrest := (HB.out.below (hA.below.mono (Nat.le_refl _))).rest2 (k := p) (by rw [HB.out.1]; exact hpn)
      have hdr : (lettersV ++ frame (hpay h) ++ R).drop p = R.drop q := by
        rw [List.drop_append, List.drop_eq_nil_of_le (by rw [List.length_append, HF.out]; simp; omega), List.nil_append, List.length_append, HF.out]
        congr 1; simp; omega
      obtain ⟨ad, had⟩ : ∃ ad : Addr, (if cap = p then some (⟨b, off, none⟩ : Addr) else some ⟨b, off + p, none⟩) = some ad := by
        by_cases hc : cap = p
        · exact ⟨_, if_pos hc⟩
        · exact ⟨_, if_neg hc⟩
      rw [had, hdr] at hrest
      have HBQ := Lib.hid hrest
      have hbyq : Byt (R.drop q) := HBR.out.drop q
      have HBYQ := Lib.hid hbyq
      have HLA := Lib.hid (HL.out.below hA.below)
      clear hrest hdr hpq hbyq
      go_wp2_with fail
      refine (Frame_any _ (n - p) (cap - p) (R.drop q) (by omega) HBYQ.out _ HBQ.out HLA.out).mono ?_
      rintro e w5 ⟨v5, rfl, hown5, hb5⟩
      have hA5 := hA.more hb5
      have hz5 := hb5.size
      rcases hfdq : fd (R.drop q) with ⟨ps, k, r⟩
      rw [hfdq] at hown5
      simp only at hown5
      by_cases hr : r = 0
      · subst hr
        have hk := fd_ok (l := R.drop q) (by rw [hfdq])
        have hbp := fd_byt (l := R.drop q) HBYQ.out (by rw [hfdq])
        have hlp := fd_le (R.drop q) (by rw [hfdq])
        rw [hfdq] at hk hbp hlp
        simp only [List.length_drop] at hk hbp hlp
        have hk1 := hk.1
        have hk2 := hk.2.1
        clear hk
        have hlt5 : ∀ x, v5.ownBlock = some x → x < w5.heap.size := fun x hx => (hown5.lt x hx).2
        obtain ⟨a5, cap5, rfl, hbs5⟩ := Bs.of_own hown5
        have HFQ := Lib.hid hfdq
        have hl5 : ps.length ≤ 90000 := by have := HN.out; omega
        obtain ⟨m5, hm5⟩ : ∃ m, ps.length = m := ⟨_, rfl⟩
        rw [hm5] at hbs5 hl5
        have HM5 := Lib.hid hm5
        have HBS5 := Lib.hid hbs5
        have HBP := Lib.hid hbp
        have hlt5' : ∀ x, a5 = some x → x.block < w5.heap.size := fun x hx => hlt5 x.block (by subst hx; rfl)
        clear hown5 hbs5 hb5 hfdq hbp hlp hm5 hlt5 c5 c6 f5 f6 hA
        go_wp2_with fail
        rw [HM5.out]
        refine (record_any ps a5 m5 cap5 _ HBP.out (by rw [HM5.out]; exact hl5) HBS5.out hlt5').mono ?_
        rintro e w6 ⟨a6, n6, c6, rfl, hown6, hb6⟩
        rcases hrd : rdR ps with ⟨x, ok⟩
        rw [hrd] at hown6
        simp only at hown6
        have hA6 := hA5.more hb6
        have hz6 := hb6.size
        have hA7 := hA6.more ((Below.refl w6.heap.size w6).alloc (Nat.le_refl _) (.cells #[.int .i64 x.kind, .int .i64 x.clock, .int .i64 x.addr, .slice a6 n6 c6, .int .i64 x.lost, .int .i64 x.index, .int .i64 x.value] 45))
        have hown7 := own_below hown6 ((Below.refl w6.heap.size w6).alloc (Nat.le_refl _) (.cells #[.int .i64 x.kind, .int .i64 x.clock, .int .i64 x.addr, .slice a6 n6 c6, .int .i64 x.lost, .int .i64 x.index, .int .i64 x.value] 45))
        have hT : (w6.alloc (.cells #[.int .i64 x.kind, .int .i64 x.clock, .int .i64 x.addr, .slice a6 n6 c6, .int .i64 x.lost, .int .i64 x.index, .int .i64 x.value] 45)).heap[w6.heap.size]? = some (.cells #[.int .i64 x.kind, .int .i64 x.clock, .int .i64 x.addr, .slice a6 n6 c6, .int .i64 x.lost, .int .i64 x.index, .int .i64 x.value] 45 (0, 0)) := heap_alloc_new _ _
        have HRD := Lib.hid hrd
        have hS5 : S < w5.heap.size := by omega
        have hpk : p + k ≤ n := by have := HPQ.out; have := HN.out; omega
        clear hown6 hb6 hA6 hrd hlt5'
        go_upto_region 15 with fail
        generalize (w6.alloc (.cells #[.int .i64 x.kind, .int .i64 x.clock, .int .i64 x.addr, .slice a6 n6 c6, .int .i64 x.lost, .int .i64 x.index, .int .i64 x.value] 45)) = w7 at *
        have t0 : w7.cell? ⟨w6.heap.size, 0, none⟩ = some (.int .i64 x.kind) := cell_of_row _ _ 0 _ _ _ hT
        have hTl : w6.heap.size < w7.heap.size := (Array.getElem?_eq_some_iff.1 hT).1
        obtain ⟨c5, c6', f5, f6⟩ := hA7.cell
        generalize w6.heap.size = T at *
        cases ok with
        | false =>
          have HS := Lib.hid (HSc.out.stop (by unfold nextR; rw [HFQ.out]; simp only; rw [if_neg (by simp), HRD.out, if_pos rfl]))
          clear c5 c6' f5 f6 t0
          go_upto_region 20 with fail
          obtain ⟨va, vn, vc, rfl⟩ := own_sl hA7.own
          have hS := hA7.s
          have hB := hA7.b
          go_wp2_with (first | (refine wpList_load_row (o := ⟨some 94, .load 32 (.tmp 10), _, _, _, _⟩) rfl 32 _ rfl S rfl 32 _ (0, 0) _ hS Tryd.underlying32 rfl (by kernel_rfl) ?_) | (refine wpList_store_row (o := ⟨none, .store 32 (.tmp 2) (.tmp 94), _, _, _, _⟩) rfl 32 _ _ rfl w.heap.size #[.int .i64 h.rel, .int .i64 h.mach, .int .i64 h.num, .int .i64 h.per, .int .u64 ((h.print : Nat) : Int), .slice va vn vc, .bool false] rfl rfl 32 _ hB (by kernel_rfl) rfl (by kernel_rfl) ?_))
          refine bodyPost_ret (results_cell_row_tmp2 Tryd.results13 _ _ w.heap.size 32 _ _ _ rfl (setRow_heap _ _ _ _ _ _ hB) Tryd.underlying32 rfl (by kernel_rfl)) rfl ?_
          exact rcv_end rfl hBS hA7 HS.out (by rw [HPQ.out, HF.out]; rfl) rfl
        | true =>
          by_cases k3 : x.kind = 3
          · have HS := Lib.hid (HSc.out.whole (k := k) (r := x) (by unfold nextR; rw [HFQ.out]; simp only; rw [if_neg (by simp), HRD.out, if_neg (by simp), if_neg (by simp [k3])]) k3)
            have d3 : (x.kind == 3) = true := by simp [k3]
            have d3n : (x.kind != 3) = false := by simp [k3]
            have HA8 := Lib.hid (hA7.all hBS)
            clear k3 hA7 hA5
            go_wp2_with fail
            exact ⟨⟨ls, v, true, q + k, p + k, by go_num, by have := HPQ.out; omega, by omega, HA8.out, Lib.hid (by rw [if_pos rfl]; exact HS.out), hls⟩, by simp [intOf]; omega⟩
          · have d3 : (x.kind == 3) = false := by simp [k3]
            have d3n : (x.kind != 3) = true := by simp [k3]
            by_cases h4 : ls.length = 4096
            · have HS := Lib.hid (HSc.out.stop (by unfold nextR; rw [HFQ.out]; simp only; rw [if_neg (by simp), HRD.out, if_neg (by simp), if_pos ⟨k3, by simpa using h4⟩]))
              obtain ⟨va, vn, vc, rfl⟩ := own_sl hA7.own
              obtain rfl := own_len hA7.own
              have d4 : ((ls.length : Int) == 4096) = true := by simp; omega
              clear k3 h4
              go_upto_region 20 with fail
              have hS := hA7.s
              have hB := hA7.b
              go_wp2_with (first | (refine wpList_load_row (o := ⟨some 94, .load 32 (.tmp 10), _, _, _, _⟩) rfl 32 _ rfl S rfl 32 _ (0, 0) _ hS Tryd.underlying32 rfl (by kernel_rfl) ?_) | (refine wpList_store_row (o := ⟨none, .store 32 (.tmp 2) (.tmp 94), _, _, _, _⟩) rfl 32 _ _ rfl w.heap.size #[.int .i64 h.rel, .int .i64 h.mach, .int .i64 h.num, .int .i64 h.per, .int .u64 ((h.print : Nat) : Int), .slice va ls.length vc, .bool false] rfl rfl 32 _ hB (by kernel_rfl) rfl (by kernel_rfl) ?_))
              refine bodyPost_ret (results_cell_row_tmp2 Tryd.results13 _ _ w.heap.size 32 _ _ _ rfl (setRow_heap _ _ _ _ _ _ hB) Tryd.underlying32 rfl (by kernel_rfl)) rfl ?_
              exact rcv_end rfl hBS hA7 HS.out (by rw [HPQ.out, HF.out]; rfl) rfl
            · have HSM := Lib.hid (HSc.out.more (k := k) (r := x) (by unfold nextR; rw [HFQ.out]; simp only; rw [if_neg (by simp), HRD.out, if_neg (by simp), if_neg (by simp [h4])]) k3)
              obtain ⟨va, vn, vc, rfl⟩ := own_sl hA7.own
              obtain rfl := own_len hA7.own
              have d4 : ((ls.length : Int) == 4096) = false := by simp; omega
              have H4 := Lib.hid h4
              have hA8 := hA7.more ((Below.refl w7.heap.size w7).alloc (Nat.le_refl _) (.cells #[.int .i64 x.kind, .int .i64 x.clock, .int .i64 x.addr, .slice a6 n6 c6, .int .i64 x.lost, .int .i64 x.index, .int .i64 x.value] 45))
              have hown8 := own_below hown7 ((Below.refl w7.heap.size w7).alloc (Nat.le_refl _) (.cells #[.int .i64 x.kind, .int .i64 x.clock, .int .i64 x.addr, .slice a6 n6 c6, .int .i64 x.lost, .int .i64 x.index, .int .i64 x.value] 45))
              have HX := Lib.hid (show Chains (w7.alloc (.cells #[.int .i64 x.kind, .int .i64 x.clock, .int .i64 x.addr, .slice a6 n6 c6, .int .i64 x.lost, .int .i64 x.index, .int .i64 x.value] 45)) (S + 1) [(x, .slice a6 n6 c6)] by
                intro y hy
                rw [List.mem_singleton] at hy
                subst hy
                exact ⟨⟨_, _, _, rfl⟩, by have e9 : x.chain.length = n6 := by have := hown8.1; simpa using this
                                          simp only; rw [e9]; exact ownsRow_mono2 hown8 (by omega)⟩)
              have HNEW := Lib.hid (show Cells (w7.alloc (.cells #[.int .i64 x.kind, .int .i64 x.clock, .int .i64 x.addr, .slice a6 n6 c6, .int .i64 x.lost, .int .i64 x.index, .int .i64 x.value] 45)) (some ⟨w7.heap.size, 0, none⟩) (rv (x, .slice a6 n6 c6)) from fun _ => ⟨_, 0, rfl, by simp, fun j u hj => by rw [Nat.zero_add, cell_of_row _ _ _ _ _ _ (heap_alloc_new w7 _)]; unfold rv at hj; simpa using hj⟩)
              have HOWN := Lib.hid hA8.own
              have HA8 := Lib.hid hA8
              have hl8 := hA8.lt
              obtain ⟨g5, g6, g7, g8⟩ := hA8.cell
              have t1 : w7.cell? ⟨T, 1, none⟩ = some (.int .i64 x.clock) := cell_of_row _ _ 1 _ _ _ hT
              have t2 : w7.cell? ⟨T, 2, none⟩ = some (.int .i64 x.addr) := cell_of_row _ _ 2 _ _ _ hT
              have t3 : w7.cell? ⟨T, 3, none⟩ = some (.slice a6 n6 c6) := cell_of_row _ _ 3 _ _ _ hT
              have t4 : w7.cell? ⟨T, 4, none⟩ = some (.int .i64 x.lost) := cell_of_row _ _ 4 _ _ _ hT
              have t5 : w7.cell? ⟨T, 5, none⟩ = some (.int .i64 x.index) := cell_of_row _ _ 5 _ _ _ hT
              have t6 : w7.cell? ⟨T, 6, none⟩ = some (.int .i64 x.value) := cell_of_row _ _ 6 _ _ _ hT
              have hz7 : (w7.alloc (.cells #[.int .i64 x.kind, .int .i64 x.clock, .int .i64 x.addr, .slice a6 n6 c6, .int .i64 x.lost, .int .i64 x.index, .int .i64 x.value] 45)).heap.size = w7.heap.size + 1 := by simp
              clear hA7 hA8 hA5 hown7 hown8 k3 h4 hT
              go_wp2_with (at_builtin; refine wpList_append_src rfl _ _ _ rfl (S + 1) 45 i0 _ 7 72 Tryd.underlying30 hi0 hz0 hz1 hz2 rfl (by omega) _ _ _ rfl HOWN.out _ 1 1 (rv (x, .slice a6 n6 c6)) rfl (Nat.le_refl _) (fun e => by cases e) rfl HNEW.out (by intro u hu; simp [rv] at hu; rcases hu with rfl | rfl | rfl | rfl | rfl | rfl | rfl <;> rfl) (by unfold maxLen; omega) (by omega) (by omega) ?_; intro v8 w8 hown9 hgr9; obtain ⟨va8, vn8, vc8, rfl⟩ := own_sl hown9; have HA9 := Lib.hid (HA8.out.push hBS HX.out hown9 hgr9); have ho9 := (fun k hk => (HOWN.out.lt k hk).1); have c59 := (hgr9.cell_far ⟨S, 5, none⟩ hl8.1 (fun e => by have := ho9 S e.symm; omega)).trans g5; have f59 := (hgr9.frozen_far ⟨S, 5, none⟩ hl8.1 (fun e => by have := ho9 S e.symm; omega)).trans g7; clear hown9 hgr9 ho9)
              exact ⟨⟨ls ++ [(x, .slice a6 n6 c6)], _, false, q + k, p + k, by go_num, by have := HPQ.out; omega, by omega, HA9.out, Lib.hid (by rw [if_neg (by decide), List.map_append]; exact HSM.out), by have := H4.out; simp; omega⟩, by simp [intOf]; omega⟩
      · have HS := Lib.hid (HSc.out.stop (by unfold nextR; rw [hfdq]; simp only; rw [if_pos hr]))
        have dr : ((r : Int) == 0) = false := by simp; omega
        clear hown5 hfdq hr c5 c6 f5 f6 hA
        obtain ⟨va, vn, vc, rfl⟩ := own_sl hA5.own
        have hS := hA5.s
        have hB := hA5.b
        go_wp2_with (first | (refine wpList_load_row (o := ⟨some 94, .load 32 (.tmp 10), _, _, _, _⟩) rfl 32 _ rfl S rfl 32 _ (0, 0) _ hS Tryd.underlying32 rfl (by kernel_rfl) ?_) | (refine wpList_store_row (o := ⟨none, .store 32 (.tmp 2) (.tmp 94), _, _, _, _⟩) rfl 32 _ _ rfl w.heap.size #[.int .i64 h.rel, .int .i64 h.mach, .int .i64 h.num, .int .i64 h.per, .int .u64 ((h.print : Nat) : Int), .slice va vn vc, .bool false] rfl rfl 32 _ hB (by kernel_rfl) rfl (by kernel_rfl) ?_))
        refine bodyPost_ret (results_cell_row_tmp2 Tryd.results13 _ _ w.heap.size 32 _ _ _ rfl (setRow_heap _ _ _ _ _ _ hB) Tryd.underlying32 rfl (by kernel_rfl)) rfl ?_
        exact rcv_end rfl hBS hA5 HS.out (by rw [HPQ.out, HF.out]; rfl) rfl
end Go.Proofs.YtkgdogccnkjcgaaDoor
