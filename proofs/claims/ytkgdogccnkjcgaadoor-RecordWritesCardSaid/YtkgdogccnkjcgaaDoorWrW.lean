/-
  WALK of RecordWrites.
-/
import Derived.Test.YtkgdogccnkjcgaaDoorHdd
namespace Go.Proofs.YtkgdogccnkjcgaaDoor
open Go.ChangeShapes Go.WideShapes Go.ChangeAt Go.RowKit
/-- three headers in a block -/
theorem three_hd (w : World) (h0 h1 h2 : Hd) (p0 : h0.print < 18446744073709551616) (p1 : h1.print < 18446744073709551616) (p2 : h2.print < 18446744073709551616) (b : Nat) (hb : w.heap[b]? = some (.cells #[.int .i64 h0.rel, .int .i64 h0.mach, .int .i64 h0.num, .int .i64 h0.per, .int .u64 ((h0.print : Nat) : Int), .int .i64 h1.rel, .int .i64 h1.mach, .int .i64 h1.num, .int .i64 h1.per, .int .u64 ((h1.print : Nat) : Int), .int .i64 h2.rel, .int .i64 h2.mach, .int .i64 h2.num, .int .i64 h2.per, .int .u64 ((h2.print : Nat) : Int)] 29 (0, 0))) :
    ∀ j, j < 3 → ∃ h : Hd, h.print < 18446744073709551616 ∧ w.cell? ⟨b, j * 5, none⟩ = some (.int .i64 h.rel) ∧ w.cell? ⟨b, j * 5 + 1, none⟩ = some (.int .i64 h.mach) ∧ w.cell? ⟨b, j * 5 + 2, none⟩ = some (.int .i64 h.num) ∧ w.cell? ⟨b, j * 5 + 3, none⟩ = some (.int .i64 h.per) ∧ w.cell? ⟨b, j * 5 + 4, none⟩ = some (.int .u64 ((h.print : Nat) : Int)) := by
  intro j hj
  match j, hj with
  | 0, _ => exact ⟨h0, p0, cell_of_row _ _ 0 _ _ _ hb, cell_of_row _ _ 1 _ _ _ hb, cell_of_row _ _ 2 _ _ _ hb, cell_of_row _ _ 3 _ _ _ hb, cell_of_row _ _ 4 _ _ _ hb⟩
  | 1, _ => exact ⟨h1, p1, cell_of_row _ _ 5 _ _ _ hb, cell_of_row _ _ 6 _ _ _ hb, cell_of_row _ _ 7 _ _ _ hb, cell_of_row _ _ 8 _ _ _ hb, cell_of_row _ _ 9 _ _ _ hb⟩
  | 2, _ => exact ⟨h2, p2, cell_of_row _ _ 10 _ _ _ hb, cell_of_row _ _ 11 _ _ _ hb, cell_of_row _ _ 12 _ _ _ hb, cell_of_row _ _ 13 _ _ _ hb, cell_of_row _ _ 14 _ _ _ hb⟩
theorem is_of_own {w : World} {B n cap : Nat} {a : Option Addr} {zs : List Int} (h : w.ownsRow B 3 1 (.slice a n cap) zs.length (ints zs)) : Is w a n cap zs := by
  obtain ⟨a', c', e', hi⟩ := Is.of_own h
  injection e' with e1 e2 e3
  subst e1 e2 e3
  exact hi
/-- three records in a block -/
theorem three_rc (w : World) (r r1 r2 : Rc) (ca u1 u2 : Option Addr) (cn n1 n2 cc q1 q2 : Nat) (i0 : Is w ca cn cc r.chain) (i1 : Is w u1 n1 q1 r1.chain) (i2 : Is w u2 n2 q2 r2.chain) (hc : cn ≤ 100) (hc1 : r1.chain.length ≤ 5) (hc2 : r2.chain.length ≤ 5) (b : Nat) (hb : w.heap[b]? = some (.cells #[.int .i64 r.kind, .int .i64 r.clock, .int .i64 r.addr, .slice ca cn cc, .int .i64 r.lost, .int .i64 r.index, .int .i64 r.value, .int .i64 r1.kind, .int .i64 r1.clock, .int .i64 r1.addr, .slice u1 n1 q1, .int .i64 r1.lost, .int .i64 r1.index, .int .i64 r1.value, .int .i64 r2.kind, .int .i64 r2.clock, .int .i64 r2.addr, .slice u2 n2 q2, .int .i64 r2.lost, .int .i64 r2.index, .int .i64 r2.value] 45 (0, 0))) :
    ∀ j, j < 3 → ∃ x : Rc, RecAt w b (j * 7) x ∧ x.chain.length ≤ 100 := by
  intro j hj
  match j, hj with
  | 0, _ => exact ⟨r, ⟨ca, cn, cc, ⟨cell_of_row _ _ 0 _ _ _ hb, cell_of_row _ _ 1 _ _ _ hb, cell_of_row _ _ 2 _ _ _ hb, cell_of_row _ _ 3 _ _ _ hb, cell_of_row _ _ 4 _ _ _ hb, cell_of_row _ _ 5 _ _ _ hb, cell_of_row _ _ 6 _ _ _ hb⟩, i0⟩, by rw [i0.1]; exact hc⟩
  | 1, _ => exact ⟨r1, ⟨u1, n1, q1, ⟨cell_of_row _ _ 7 _ _ _ hb, cell_of_row _ _ 8 _ _ _ hb, cell_of_row _ _ 9 _ _ _ hb, cell_of_row _ _ 10 _ _ _ hb, cell_of_row _ _ 11 _ _ _ hb, cell_of_row _ _ 12 _ _ _ hb, cell_of_row _ _ 13 _ _ _ hb⟩, i1⟩, by omega⟩
  | 2, _ => exact ⟨r2, ⟨u2, n2, q2, ⟨cell_of_row _ _ 14 _ _ _ hb, cell_of_row _ _ 15 _ _ _ hb, cell_of_row _ _ 16 _ _ _ hb, cell_of_row _ _ 17 _ _ _ hb, cell_of_row _ _ 18 _ _ _ hb, cell_of_row _ _ 19 _ _ _ hb, cell_of_row _ _ 20 _ _ _ hb⟩, i2⟩, by omega⟩
theorem rows_one {ls : List (Rc × Value)} (h : ∀ p ∈ ls, IsSl p.2) : ∀ u ∈ ls.flatMap rv, u.oneCell' = true := by
  intro u hu
  obtain ⟨p, hp, hu⟩ := List.mem_flatMap.1 hu
  obtain ⟨a, n, c, hv⟩ := h p hp
  unfold rv at hu
  rw [hv] at hu
  simp only [List.mem_cons, List.not_mem_nil, or_false] at hu
  rcases hu with rfl | rfl | rfl | rfl | rfl | rfl | rfl <;> rfl
theorem own_notblock {w w' : World} {B e size n b : Nat} {v : Value} {xs : List Value} {cs : Array Value} {t : TypeId} {fr : Nat × Nat} (h : w.ownsRow B e size v n xs) (hg : w.grownBy w' (some b)) (hb : w.heap[b]? = some (.cells cs t fr)) (ht : t ≠ e) : w'.ownsRow B e size v n xs :=
  h.kept hg (by
    rcases h.2 with ⟨rfl, _⟩ | ⟨g1, c1, cur1, rfl, _, k1, _⟩
    · exact .inl rfl
    · refine .inr (fun e2 => ?_)
      have e3 : g1 = b := by first | exact Option.some.inj e2 | exact (Option.some.inj e2).symm
      subst e3
      rw [hb] at k1
      injection k1 with k1
      injection k1 with _ k2
      exact ht k2)
theorem Chains.notblock {w w' : World} {B b : Nat} {ls : List (Rc × Value)} {cs : Array Value} {t : TypeId} {fr : Nat × Nat} (h : Chains w B ls) (hg : w.grownBy w' (some b)) (hb : w.heap[b]? = some (.cells cs t fr)) (ht : t ≠ 3) : Chains w' B ls := fun p hp =>
  ⟨(h p hp).1, own_notblock (h p hp).2 hg hb ht⟩
theorem Cod.at {w : World} {g : Nat} (h : Cod w g) : ∃ cs, w.heap[g]? = some (.cells cs 65 (0, 0)) := by
  obtain ⟨a, len, cap, at_, h1, _⟩ := h
  exact ⟨_, h1⟩
theorem own_apart {w w' : World} {B e size n S : Nat} {v : Value} {xs : List Value} {row : Option Nat} (h : w.ownsRow B e size v n xs) (hv : ∀ k, v.ownBlock = some k → k < S) (hg : w.grownBy w' row) (hr : ∀ k, row = some k → S ≤ k) : w'.ownsRow B e size v n xs :=
  h.kept hg (by
    cases hq : v.ownBlock with
    | none => exact .inl rfl
    | some k => exact .inr (fun e => by have := hv k hq; have := hr k e.symm; omega))
/-- what stands ahead of the last loop -/
structure Odd (A B S : Nat) (sh ho : Hd) (sa oa : Option Addr) (sc oc : Nat) (wh : Bool) (ls : List (Rc × Value)) (p : Rc × Value) (w0 w : World) : Prop where
  prt : ho.print < 18446744073709551616
  t22 : w.heap[S]? = some (.cells #[.int .i64 sh.rel, .int .i64 sh.mach, .int .i64 sh.num, .int .i64 sh.per, .int .u64 ((sh.print : Nat) : Int), .slice sa ls.length sc, .bool wh] 32 (0, 0))
  t23 : w.heap[S + 1]? = some (.cells #[.int .i64 ho.rel, .int .i64 ho.mach, .int .i64 ho.num, .int .i64 ho.per, .int .u64 ((ho.print : Nat) : Int), .slice oa (ls.length + 1) oc, .bool wh] 32 (0, 0))
  own1 : w.ownsRow B 45 7 (.slice sa ls.length sc) ls.length (ls.flatMap rv)
  own2 : w.ownsRow B 45 7 (.slice oa (ls.length + 1) oc) (ls.length + 1) (ls.flatMap rv ++ rv p)
  chains : Chains w B (ls ++ [p])
  below : Below A w0 w
theorem Odd.draw {A B S g : Nat} {sh ho : Hd} {sa oa : Option Addr} {sc oc : Nat} {wh : Bool} {ls : List (Rc × Value)} {p : Rc × Value} {w0 w w' : World} (d : Odd A B S sh ho sa oa sc oc wh ls p w0 w) (hc : Cod w g) (hg : w.grownBy w' (some g)) (hgS : g < S) (hA : A ≤ g) : Odd A B S sh ho sa oa sc oc wh ls p w0 w' := by
  obtain ⟨cs, hcs⟩ := hc.at
  have hl := hc.lt
  exact ⟨d.prt, (hg.block S (Array.getElem?_eq_some_iff.1 d.t22).1 (fun e => by injection e with e; omega)).trans d.t22, (hg.block (S + 1) (Array.getElem?_eq_some_iff.1 d.t23).1 (fun e => by injection e with e; omega)).trans d.t23,
    own_notblock d.own1 hg hcs (by decide), own_notblock d.own2 hg hcs (by decide), d.chains.notblock hg hcs (by decide), below_grown1 d.below hg (by omega) hA⟩
theorem Odd.head {A B S : Nat} {sh ho h2 : Hd} {sa oa : Option Addr} {sc oc : Nat} {wh : Bool} {ls : List (Rc × Value)} {p : Rc × Value} {w0 w w' : World} (d : Odd A B S sh ho sa oa sc oc wh ls p w0 w) (hp : h2.print < 18446744073709551616) (hg : w.grownBy w' (some (S + 1))) (ht : w'.heap[S + 1]? = some (.cells #[.int .i64 h2.rel, .int .i64 h2.mach, .int .i64 h2.num, .int .i64 h2.per, .int .u64 ((h2.print : Nat) : Int), .slice oa (ls.length + 1) oc, .bool wh] 32 (0, 0))) (hA : A ≤ S) : Odd A B S sh h2 sa oa sc oc wh ls p w0 w' := by
  have hl := (Array.getElem?_eq_some_iff.1 d.t23).1
  exact ⟨hp, (hg.block S (by omega) (fun e => by injection e with e; omega)).trans d.t22, ht, own_notblock d.own1 hg d.t23 (by decide), own_notblock d.own2 hg d.t23 (by decide), d.chains.notblock hg d.t23 (by decide), below_grown1 d.below hg (by omega) (by omega)⟩
theorem flat_snoc (ls : List (Rc × Value)) (p : Rc × Value) : (ls ++ [p]).flatMap rv = ls.flatMap rv ++ rv p := by simp
/-- two profiles in a block -/
theorem two_sh (w : World) (sh ho : Hd) (p0 : sh.print < 18446744073709551616) (p1 : ho.print < 18446744073709551616) (wh : Bool) (sa oa : Option Addr) (n m sc oc : Nat) (rs ro : List Rc) (hn : n ≤ 100) (hm : m ≤ 100) (hcs : ∀ r ∈ rs, r.chain.length ≤ 5) (hco : ∀ r ∈ ro, r.chain.length ≤ 5) (h0 : Rs w sa n sc rs) (h1 : Rs w oa m oc ro) (b : Nat) (hb : w.heap[b]? = some (.cells #[.int .i64 sh.rel, .int .i64 sh.mach, .int .i64 sh.num, .int .i64 sh.per, .int .u64 ((sh.print : Nat) : Int), .slice sa n sc, .bool wh, .int .i64 ho.rel, .int .i64 ho.mach, .int .i64 ho.num, .int .i64 ho.per, .int .u64 ((ho.print : Nat) : Int), .slice oa m oc, .bool wh] 32 (0, 0))) :
    ∀ j, j < 2 → ∃ (q : Hd) (qa : Option Addr) (qn qc : Nat) (rq : List Rc), q.print < 18446744073709551616 ∧ qn ≤ 100 ∧ (∀ r ∈ rq, r.chain.length ≤ 5) ∧ Rs w qa qn qc rq ∧ w.cell? ⟨b, j * 7, none⟩ = some (.int .i64 q.rel) ∧ w.cell? ⟨b, j * 7 + 1, none⟩ = some (.int .i64 q.mach) ∧ w.cell? ⟨b, j * 7 + 2, none⟩ = some (.int .i64 q.num) ∧ w.cell? ⟨b, j * 7 + 3, none⟩ = some (.int .i64 q.per) ∧ w.cell? ⟨b, j * 7 + 4, none⟩ = some (.int .u64 ((q.print : Nat) : Int)) ∧ w.cell? ⟨b, j * 7 + 5, none⟩ = some (.slice qa qn qc) ∧ w.cell? ⟨b, j * 7 + 6, none⟩ = some (.bool wh) := by
  intro j hj
  match j, hj with
  | 0, _ => exact ⟨sh, sa, n, sc, rs, p0, hn, hcs, h0, cell_of_row _ _ 0 _ _ _ hb, cell_of_row _ _ 1 _ _ _ hb, cell_of_row _ _ 2 _ _ _ hb, cell_of_row _ _ 3 _ _ _ hb, cell_of_row _ _ 4 _ _ _ hb, cell_of_row _ _ 5 _ _ _ hb, cell_of_row _ _ 6 _ _ _ hb⟩
  | 1, _ => exact ⟨ho, oa, m, oc, ro, p1, hm, hco, h1, cell_of_row _ _ 7 _ _ _ hb, cell_of_row _ _ 8 _ _ _ hb, cell_of_row _ _ 9 _ _ _ hb, cell_of_row _ _ 10 _ _ _ hb, cell_of_row _ _ 11 _ _ _ hb, cell_of_row _ _ 12 _ _ _ hb, cell_of_row _ _ 13 _ _ _ hb⟩
set_option maxRecDepth 100000 in
set_option maxHeartbeats 16000000 in
theorem recordWrites_walk (a : Option Addr) (len cap : Nat) (zs : List Int) (a1 : Option Addr) (len1 cap1 : Nat) (zs1 : List Int) (h : Hd) (r : Rc) (ca : Option Addr) (cn cc : Nat) (w : World) (w0 : InInts .u8 w a len cap zs) (w1 : InInts .u8 w a1 len1 cap1 zs1) (hp : h.print < 18446744073709551616) (hi : Is w ca cn cc r.chain) (hl : Laid w) :
    Calls Tryd.prog 4 #[.slice a len cap, .slice a1 len1 cap1, h.val, r.val (.slice ca cn cc)] w fun e w' => e = .returned (.bool true) ∧ Below w.heap.size w w' := by
  obtain ⟨ps, hps, hpb, hbs⟩ := in_byts w1
  have hbx : Below w.heap.size w ((w.alloc (.cells #[.int .i64 h.rel, .int .i64 h.mach, .int .i64 h.num, .int .i64 h.per, .int .u64 ((h.print : Nat) : Int)] 29)).alloc (.cells #[.int .i64 r.kind, .int .i64 r.clock, .int .i64 r.addr, .slice ca cn cc, .int .i64 r.lost, .int .i64 r.index, .int .i64 r.value] 45)) := ((Below.refl _ _).alloc (Nat.le_refl _) _).alloc (by simp) _
  have hTh : ((w.alloc (.cells #[.int .i64 h.rel, .int .i64 h.mach, .int .i64 h.num, .int .i64 h.per, .int .u64 ((h.print : Nat) : Int)] 29)).alloc (.cells #[.int .i64 r.kind, .int .i64 r.clock, .int .i64 r.addr, .slice ca cn cc, .int .i64 r.lost, .int .i64 r.index, .int .i64 r.value] 45)).heap[w.heap.size]? = some (.cells #[.int .i64 h.rel, .int .i64 h.mach, .int .i64 h.num, .int .i64 h.per, .int .u64 ((h.print : Nat) : Int)] 29 (0, 0)) := by
    rw [Below.heap_alloc _ _ _ (by simp)]; exact heap_alloc_new _ _
  have hTr : ((w.alloc (.cells #[.int .i64 h.rel, .int .i64 h.mach, .int .i64 h.num, .int .i64 h.per, .int .u64 ((h.print : Nat) : Int)] 29)).alloc (.cells #[.int .i64 r.kind, .int .i64 r.clock, .int .i64 r.addr, .slice ca cn cc, .int .i64 r.lost, .int .i64 r.index, .int .i64 r.value] 45)).heap[w.heap.size + 1]? = some (.cells #[.int .i64 r.kind, .int .i64 r.clock, .int .i64 r.addr, .slice ca cn cc, .int .i64 r.lost, .int .i64 r.index, .int .i64 r.value] 45 (0, 0)) := by
    have e1 : (w.alloc (.cells #[.int .i64 h.rel, .int .i64 h.mach, .int .i64 h.num, .int .i64 h.per, .int .u64 ((h.print : Nat) : Int)] 29)).heap.size = w.heap.size + 1 := by simp
    rw [← e1]; exact heap_alloc_new _ _
  have hlcm := hbs.2.2.1
  have hlc := hbs.2.1
  unfold maxLen at hlcm
  have hccm := hi.2.2.1
  have hcc := hi.2.1
  unfold maxLen at hccm
  have HL := Lib.hid (hl.below hbx)
  have H0 := Lib.hid (w0.below hbx)
  have HB := Lib.hid (hbs.below hbx)
  have HI := Lib.hid (hi.below hbx)
  have HPB := Lib.hid hpb
  have hl0 := Lib.hid hl
  have hbs0 := Lib.hid hbs
  have hi0 := Lib.hid hi
  clear hl w0 w1 hbs hi hpb hps
  go_enter Tryd.func4, Tryd.ntmps4
  go_upto_region 1 with fail
  generalize ((w.alloc (.cells #[.int .i64 h.rel, .int .i64 h.mach, .int .i64 h.num, .int .i64 h.per, .int .u64 ((h.print : Nat) : Int)] 29)).alloc (.cells #[.int .i64 r.kind, .int .i64 r.clock, .int .i64 r.addr, .slice ca cn cc, .int .i64 r.lost, .int .i64 r.index, .int .i64 r.value] 45)) = wA at *
  have hA1 := (Array.getElem?_eq_some_iff.1 hTr).1
  have k3 : wA.cell? ⟨w.heap.size + 1, 3, none⟩ = some (.slice ca cn cc) := cell_of_row _ _ 3 _ _ _ hTr
  go_wp2_with fail
  refine (awake_any _ HL.out).mono ?_
  rintro e wB ⟨rfl, hb1⟩
  have hThB := (hb1.block w.heap.size (by omega)).trans hTh
  have hTrB := (hb1.block (w.heap.size + 1) (by omega)).trans hTr
  have hbB := hbx.trans (hb1.mono hbx.size)
  have k3B : wB.cell? ⟨w.heap.size + 1, 3, none⟩ = some (.slice ca cn cc) := cell_of_row _ _ 3 _ _ _ hTrB
  have HLB := Lib.hid (HL.out.below hb1)
  have H0B := Lib.hid (H0.out.below hb1)
  have HBB := Lib.hid (HB.out.below hb1)
  have HIB := Lib.hid (HI.out.below hb1)
  have hsB := Nat.lt_of_lt_of_le hA1 hb1.size
  clear hb1 hTh hTr hbx k3 HL H0 HB HI hA1
  by_cases hbig : 500 < len1
  · have d1 : decide ((500 : Int) < (len1 : Int)) = true := by simp; omega
    clear hbig
    go_wp2_with fail
    go_ret
    exact ⟨rfl, hbB⟩
  have d1 : decide ((500 : Int) < (len1 : Int)) = false := by simp; omega
  by_cases hbig2 : 100 < cn
  · have d2 : decide ((100 : Int) < (cn : Int)) = true := by simp; omega
    clear hbig2
    go_wp2_with fail
    go_ret
    exact ⟨rfl, hbB⟩
  have d2 : decide ((100 : Int) < (cn : Int)) = false := by simp; omega
  have hlen1 : len1 ≤ 500 := by omega
  have hcn1 : cn ≤ 100 := by omega
  clear hbig hbig2
  go_wp2_with fail
  refine (New_any a len cap zs 500 (by omega) (by omega) _ H0B.out).mono ?_
  rintro e wC ⟨g, rfl, hg1, hcod, hb2⟩
  have hThC := (hb2.block w.heap.size (by omega)).trans hThB
  have hTrC := (hb2.block (w.heap.size + 1) (by omega)).trans hTrB
  have hbC := hbB.trans (hb2.mono hbB.size)
  have hgw : w.heap.size + 1 < g := by omega
  clear hb2 hThB hTrB hbB k3B hg1 H0B HBB HIB HLB
  go_upto_region 4 with fail
  have c0 : wC.cell? ⟨w.heap.size, 0, none⟩ = some (.int .i64 h.rel) := cell_of_row _ _ 0 _ _ _ hThC
  have c1 : wC.cell? ⟨w.heap.size, 1, none⟩ = some (.int .i64 h.mach) := cell_of_row _ _ 1 _ _ _ hThC
  have c2 : wC.cell? ⟨w.heap.size, 2, none⟩ = some (.int .i64 h.num) := cell_of_row _ _ 2 _ _ _ hThC
  have c3 : wC.cell? ⟨w.heap.size, 3, none⟩ = some (.int .i64 h.per) := cell_of_row _ _ 3 _ _ _ hThC
  have c4 : wC.cell? ⟨w.heap.size, 4, none⟩ = some (.int .u64 ((h.print : Nat) : Int)) := cell_of_row _ _ 4 _ _ _ hThC
  clear hThC
  have tokA : True := trivial
  have tokB : True := trivial
  go_region_held3 (fun w' => w'.cell? ⟨w.heap.size, 0, none⟩ = some (.int .i64 h.rel) ∧ w'.cell? ⟨w.heap.size, 1, none⟩ = some (.int .i64 h.mach) ∧ w'.cell? ⟨w.heap.size, 2, none⟩ = some (.int .i64 h.num) ∧ w'.cell? ⟨w.heap.size, 3, none⟩ = some (.int .i64 h.per) ∧ w'.cell? ⟨w.heap.size, 4, none⟩ = some (.int .u64 ((h.print : Nat) : Int)) ∧ Cod w' g ∧ wC.grownBy w' (some g))
    ((go_split_ands; (repeat' apply And.intro) <;> first | (with_reducible assumption) | (exact c0) | (exact c1) | (exact c2) | (exact c3) | (exact c4) | (with_reducible exact hcodc) | (exact hcod) | (exact grownBy_drewN wC 1 _) | (exact grownBy_refl _ _) | (with_reducible refine Cod.alloc ?_ _; with_reducible assumption) | (with_reducible refine Cod.drew ?_; with_reducible assumption) | (with_reducible refine grownBy_alloc_same ?_ _; with_reducible assumption) | (with_reducible refine grownBy_trans ?_ hgc; with_reducible assumption) | (rw [hgc.cell_far _ (by have := Cod.lt (by assumption); show w.heap.size < _; omega) (by simp; omega)]; assumption) | (refine (World.cell?_alloc_lt _ _ _ ?_).trans ?_ <;> first | (with_reducible assumption) | (have := Cod.lt (by assumption); show w.heap.size < _; omega)))
    )
    (first
      | (go_at_call 15; have tk := tokA; clear tk; clear tokA; refine (Header_any g _ ?_).mono ?_; (go_split_ands; assumption); rintro e wc ⟨h1, rfl, hp1, hcodc, hgc⟩)
      | (go_at_call 15; have tk := tokB; clear tk; clear tokB; refine (Header_any g _ ?_).mono ?_; (go_split_ands; assumption); rintro e wc ⟨h2, rfl, hp2, hcodc, hgc⟩))
  obtain ⟨_, _, _, _, _, hcodD, hgrD⟩ := ‹_ ∧ _ ∧ _ ∧ _ ∧ _ ∧ Cod _ g ∧ _›
  have HX := Lib.hid (three_hd _ h h1 h2 hp hp1 hp2 wc.heap.size (heap_alloc_new wc (.cells #[.int .i64 h.rel, .int .i64 h.mach, .int .i64 h.num, .int .i64 h.per, .int .u64 ((h.print : Nat) : Int), .int .i64 h1.rel, .int .i64 h1.mach, .int .i64 h1.num, .int .i64 h1.per, .int .u64 ((h1.print : Nat) : Int), .int .i64 h2.rel, .int .i64 h2.mach, .int .i64 h2.num, .int .i64 h2.per, .int .u64 ((h2.print : Nat) : Int)] 29)))
  have hHl : wc.heap.size < (wc.alloc (.cells #[.int .i64 h.rel, .int .i64 h.mach, .int .i64 h.num, .int .i64 h.per, .int .u64 ((h.print : Nat) : Int), .int .i64 h1.rel, .int .i64 h1.mach, .int .i64 h1.num, .int .i64 h1.per, .int .u64 ((h1.print : Nat) : Int), .int .i64 h2.rel, .int .i64 h2.mach, .int .i64 h2.num, .int .i64 h2.per, .int .u64 ((h2.print : Nat) : Int)] 29)).heap.size := by simp
  have hsC : w.heap.size + 1 < wC.heap.size := (Array.getElem?_eq_some_iff.1 hTrC).1
  have hTrD := (hgrD.block (w.heap.size + 1) hsC (by intro e; injection e with e; omega)).trans hTrC
  have hbD := below_grown1 hbC hgrD hbC.size (by omega)
  clear hgrD hcodc hgc c0 c1 c2 c3 c4 hcod hTrC hbC hsB d1 d2
  go_upto_region 5 with fail
  generalize (wc.alloc (.cells #[.int .i64 h.rel, .int .i64 h.mach, .int .i64 h.num, .int .i64 h.per, .int .u64 ((h.print : Nat) : Int), .int .i64 h1.rel, .int .i64 h1.mach, .int .i64 h1.num, .int .i64 h1.per, .int .u64 ((h1.print : Nat) : Int), .int .i64 h2.rel, .int .i64 h2.mach, .int .i64 h2.num, .int .i64 h2.per, .int .u64 ((h2.print : Nat) : Int)] 29)) = wD at *
  generalize wc.heap.size = HK at *
  have hsD : w.heap.size + 1 < wD.heap.size := (Array.getElem?_eq_some_iff.1 hTrD).1
  have HLD := Lib.hid (hl0.out.below hbD)
  have HBD := Lib.hid (hbs0.out.below hbD)
  have HID := Lib.hid (hi0.out.below hbD)
  go_loopw [63] (fun v63 wr => ∃ j : Nat, j ≤ 3 ∧ v63 = .int .i64 j ∧ Below wD.heap.size wD wr) (fun v _ => 3 - (intOf v).toNat)
  case atStart => exact ⟨0, by omega, rfl, Below.refl _ _⟩
  case round =>
    obtain ⟨j, hj, rfl, hb⟩ := hrel
    by_cases hlt : j < 3
    · obtain ⟨x, hpx, y0, y1, y2, y3, y4⟩ := HX.out j hlt
      have x0 := (hb.cell (p := ⟨HK, j * 5, none⟩) hHl).trans y0
      have x1 := (hb.cell (p := ⟨HK, j * 5 + 1, none⟩) hHl).trans y1
      have x2 := (hb.cell (p := ⟨HK, j * 5 + 2, none⟩) hHl).trans y2
      have x3 := (hb.cell (p := ⟨HK, j * 5 + 3, none⟩) hHl).trans y3
      have x4 := (hb.cell (p := ⟨HK, j * 5 + 4, none⟩) hHl).trans y4
      have hal := (Below.refl wr.heap.size wr).alloc (Nat.le_refl _) (.cells #[.int .i64 x.rel, .int .i64 x.mach, .int .i64 x.num, .int .i64 x.per, .int .u64 ((x.print : Nat) : Int)] 29)
      have hT11 := heap_alloc_new wr (.cells #[.int .i64 x.rel, .int .i64 x.mach, .int .i64 x.num, .int .i64 x.per, .int .u64 ((x.print : Nat) : Int)] 29)
      have hT11l : wr.heap.size < (wr.alloc (.cells #[.int .i64 x.rel, .int .i64 x.mach, .int .i64 x.num, .int .i64 x.per, .int .u64 ((x.print : Nat) : Int)] 29)).heap.size := by simp
      have hba := hb.trans (hal.mono hb.size)
      have HLa := Lib.hid (HLD.out.below hba)
      obtain ⟨PX, hPX⟩ : ∃ PX, (if ckH x = 0 then lettersV ++ frame (hpay x) else []) = PX := ⟨_, rfl⟩
      have hPl : PX.length ≤ 100 := by
        rw [← hPX]; split
        · rename_i hq; exact pre_len hq hpx
        · simp
      have HPX := Lib.hid hPX
      clear y0 y1 y2 y3 y4 hal hPX
      go_wp2_with fail
      refine (Begin_any x hpx _ HLa.out).mono ?_
      rintro e w12 ⟨v12, rfl, hown12, hb12⟩
      rw [HPX.out] at hown12
      obtain ⟨a12, c12, rfl, hbs12⟩ := Bs.of_own hown12
      obtain ⟨np, hnp⟩ : ∃ np, PX.length = np := ⟨_, rfl⟩
      rw [hnp] at hbs12 hPl ⊢
      obtain ⟨q, hq⟩ : ∃ q, ckH x = q := ⟨_, rfl⟩
      rw [hq]
      have hT12 := (hb12.block wr.heap.size hT11l).trans hT11
      have hT12l := Nat.lt_of_lt_of_le hT11l hb12.size
      have hb0 := hba.trans (hb12.mono hba.size)
      have H12 := Lib.hid hbs12
      have HNP := Lib.hid hnp
      have HQ := Lib.hid hq
      clear hown12 hbs12 hb12 hT11 hT11l hba hnp hq x0 x1 x2 x3 x4
      have x0 : w12.cell? ⟨wr.heap.size, 0, none⟩ = some (.int .i64 x.rel) := cell_of_row _ _ 0 _ _ _ hT12
      have x1 : w12.cell? ⟨wr.heap.size, 1, none⟩ = some (.int .i64 x.mach) := cell_of_row _ _ 1 _ _ _ hT12
      have x2 : w12.cell? ⟨wr.heap.size, 2, none⟩ = some (.int .i64 x.num) := cell_of_row _ _ 2 _ _ _ hT12
      have x3 : w12.cell? ⟨wr.heap.size, 3, none⟩ = some (.int .i64 x.per) := cell_of_row _ _ 3 _ _ _ hT12
      have x4 : w12.cell? ⟨wr.heap.size, 4, none⟩ = some (.int .u64 ((x.print : Nat) : Int)) := cell_of_row _ _ 4 _ _ _ hT12
      go_wp2_with fail
      refine (refBegin_any x hpx _).mono ?_
      rintro e w14 ⟨v14, rfl, hown14, hb14⟩
      rw [HPX.out] at hown14
      obtain ⟨a14, c14, rfl, hbs14⟩ := Bs.of_own hown14
      rw [HNP.out] at hbs14 ⊢
      rw [HQ.out]
      have hT14 := (hb14.block wr.heap.size hT12l).trans hT12
      have hT14l := Nat.lt_of_lt_of_le hT12l hb14.size
      have hb0 := hb0.trans (hb14.mono hb0.size)
      have H12 := Lib.hid (H12.out.below hb14)
      have H14 := Lib.hid hbs14
      clear hown14 hbs14 hb14 hT12 hT12l x0 x1 x2 x3 x4
      go_upto_region 9 with fail
      have z0 : ∀ s : Since w14, s.val.cell? ⟨wr.heap.size, 0, none⟩ = some (.int .i64 x.rel) := fun s => s.cell (cell_of_row _ _ 0 _ _ _ hT14)
      have z1 : ∀ s : Since w14, s.val.cell? ⟨wr.heap.size, 1, none⟩ = some (.int .i64 x.mach) := fun s => s.cell (cell_of_row _ _ 1 _ _ _ hT14)
      have z2 : ∀ s : Since w14, s.val.cell? ⟨wr.heap.size, 2, none⟩ = some (.int .i64 x.num) := fun s => s.cell (cell_of_row _ _ 2 _ _ _ hT14)
      have z3 : ∀ s : Since w14, s.val.cell? ⟨wr.heap.size, 3, none⟩ = some (.int .i64 x.per) := fun s => s.cell (cell_of_row _ _ 3 _ _ _ hT14)
      have z4 : ∀ s : Since w14, s.val.cell? ⟨wr.heap.size, 4, none⟩ = some (.int .u64 ((x.print : Nat) : Int)) := fun s => s.cell (cell_of_row _ _ 4 _ _ _ hT14)
      have HEQ := Lib.hid (fun s : Since w14 => Equal_same a12 a14 np c12 c14 PX (by omega) s.val (H12.out.below s.property) (H14.out.below s.property))
      have HC1 := Lib.hid (fun s : Since w14 => (CheckHeader_any x s.val).mono (R' := fun e w' => e = .returned (.int .i64 ((q : Nat) : Int)) ∧ Below s.val.heap.size s.val w') (fun e w' he => ⟨by rw [he.1, HQ.out], he.2⟩))
      have HC2 := Lib.hid (fun s : Since w14 => (refCheckHeader_any x s.val).mono (R' := fun e w' => e = .returned (.int .i64 ((q : Nat) : Int)) ∧ Below s.val.heap.size s.val w') (fun e w' he => ⟨by rw [he.1, HQ.out], he.2⟩))
      have dq : (((q : Nat) : Int) != ((q : Nat) : Int)) = false := by simp
      refine wp_region_below (by kernel_rfl) (by kernel_rfl) ?_
      repeat (go_big_quiet_step ((first | (go_at_call 17; exact calls_since _ (HEQ.out _)) | (go_at_call 18; exact calls_since _ (HC1.out _)) | (go_at_call 19; exact calls_since _ (HC2.out _)))))
      refine wpQuiet_nil ?_
      intro w15 hb15
      have hb0 := hb0.trans (hb15.mono hb0.size)
      clear hb15 z0 z1 z2 z3 z4
      go_wp2_with fail
      go_roundw
      case rel => exact ⟨j + 1, by omega, by go_num, hb0⟩
      case measure => simp [intOf]; omega
    · obtain rfl : j = 3 := by omega
      have hTrE := (hb.block (w.heap.size + 1) hsD).trans hTrD
      have hcodE := hcodD.below hb hcodD.lt
      have hbE := hbD.trans (hb.mono hbD.size)
      have hsE : w.heap.size + 1 < wr.heap.size := (Array.getElem?_eq_some_iff.1 hTrE).1
      have c0 : wr.cell? ⟨w.heap.size + 1, 0, none⟩ = some (.int .i64 r.kind) := cell_of_row _ _ 0 _ _ _ hTrE
      have c1 : wr.cell? ⟨w.heap.size + 1, 1, none⟩ = some (.int .i64 r.clock) := cell_of_row _ _ 1 _ _ _ hTrE
      have c2 : wr.cell? ⟨w.heap.size + 1, 2, none⟩ = some (.int .i64 r.addr) := cell_of_row _ _ 2 _ _ _ hTrE
      have c3 : wr.cell? ⟨w.heap.size + 1, 3, none⟩ = some (.slice ca cn cc) := cell_of_row _ _ 3 _ _ _ hTrE
      have c4 : wr.cell? ⟨w.heap.size + 1, 4, none⟩ = some (.int .i64 r.lost) := cell_of_row _ _ 4 _ _ _ hTrE
      have c5 : wr.cell? ⟨w.heap.size + 1, 5, none⟩ = some (.int .i64 r.index) := cell_of_row _ _ 5 _ _ _ hTrE
      have c6 : wr.cell? ⟨w.heap.size + 1, 6, none⟩ = some (.int .i64 r.value) := cell_of_row _ _ 6 _ _ _ hTrE
      clear HX hHl hTrD hcodD hbD hsD HLD HBD HID hb
      go_upto_region 12 with fail
      have tokC : True := trivial
      have tokD : True := trivial
      go_region_held3 (fun w' => w'.cell? ⟨w.heap.size + 1, 0, none⟩ = some (.int .i64 r.kind) ∧ w'.cell? ⟨w.heap.size + 1, 1, none⟩ = some (.int .i64 r.clock) ∧ w'.cell? ⟨w.heap.size + 1, 2, none⟩ = some (.int .i64 r.addr) ∧ w'.cell? ⟨w.heap.size + 1, 3, none⟩ = some (.slice ca cn cc) ∧ w'.cell? ⟨w.heap.size + 1, 4, none⟩ = some (.int .i64 r.lost) ∧ w'.cell? ⟨w.heap.size + 1, 5, none⟩ = some (.int .i64 r.index) ∧ w'.cell? ⟨w.heap.size + 1, 6, none⟩ = some (.int .i64 r.value) ∧ Cod w' g ∧ wr.grownBy w' (some g))
        ((go_split_ands; (repeat' apply And.intro) <;> first | (with_reducible assumption) | (exact c0) | (exact c1) | (exact c2) | (exact c3) | (exact c4) | (exact c5) | (exact c6) | (with_reducible exact hcod2) | (with_reducible exact hcod1) | (exact hcodE) | (exact grownBy_drewN wr 1 _) | (with_reducible refine Cod.alloc ?_ _; with_reducible assumption) | (with_reducible refine Cod.drew ?_; with_reducible assumption) | (with_reducible refine grownBy_alloc_same ?_ _; with_reducible assumption) | (with_reducible refine grownBy_trans ?_ hg2; with_reducible assumption) | (with_reducible refine grownBy_trans ?_ hg1; with_reducible assumption) | (rw [hg2.cell_far _ (by have := Cod.lt (by assumption); show w.heap.size + 1 < _; omega) (by simp; omega)]; assumption) | (rw [hg1.cell_far _ (by have := Cod.lt (by assumption); show w.heap.size + 1 < _; omega) (by simp; omega)]; assumption) | (refine (World.cell?_alloc_lt _ _ _ ?_).trans ?_ <;> first | (with_reducible assumption) | (have := Cod.lt (by assumption); show w.heap.size + 1 < _; omega))))
        (first
          | (go_at_call 20; have tk := tokC; clear tk; clear tokC; refine (Record_any g _ ?_).mono ?_; (go_split_ands; assumption); rintro e wc1 ⟨r1, v1, rfl, ⟨u1, n1, q1, rfl⟩, ho1, hl1, hcod1, hg1⟩)
          | (go_at_call 20; have tk := tokD; clear tk; clear tokD; refine (Record_any g _ ?_).mono ?_; (go_split_ands; assumption); rintro e wc2 ⟨r2, v2, rfl, ⟨u2, n2, q2, rfl⟩, ho2, hl2, hcod2, hg2⟩))
      obtain ⟨_, _, _, _, _, _, _, hcodF, hgrF⟩ := ‹_ ∧ _ ∧ _ ∧ _ ∧ _ ∧ _ ∧ _ ∧ Cod _ g ∧ _›
      have hgl1 := hcod1.lt
      have hbF := below_grown1 hbE hgrF hbE.size (by omega)
      have ho1b := own_below (ho1.kept hg2 (.inr (fun e => by have := ho1.lt _ e; have := hcodE.lt; have : wr.heap.size ≤ wr.drew.heap.size := Nat.le_refl _; omega))) ((Below.refl wc2.heap.size wc2).alloc (Nat.le_refl _) (.cells #[.int .i64 r.kind, .int .i64 r.clock, .int .i64 r.addr, .slice ca cn cc, .int .i64 r.lost, .int .i64 r.index, .int .i64 r.value, .int .i64 r1.kind, .int .i64 r1.clock, .int .i64 r1.addr, .slice u1 n1 q1, .int .i64 r1.lost, .int .i64 r1.index, .int .i64 r1.value, .int .i64 r2.kind, .int .i64 r2.clock, .int .i64 r2.addr, .slice u2 n2 q2, .int .i64 r2.lost, .int .i64 r2.index, .int .i64 r2.value] 45))
      have ho2b := own_below ho2 ((Below.refl wc2.heap.size wc2).alloc (Nat.le_refl _) (.cells #[.int .i64 r.kind, .int .i64 r.clock, .int .i64 r.addr, .slice ca cn cc, .int .i64 r.lost, .int .i64 r.index, .int .i64 r.value, .int .i64 r1.kind, .int .i64 r1.clock, .int .i64 r1.addr, .slice u1 n1 q1, .int .i64 r1.lost, .int .i64 r1.index, .int .i64 r1.value, .int .i64 r2.kind, .int .i64 r2.clock, .int .i64 r2.addr, .slice u2 n2 q2, .int .i64 r2.lost, .int .i64 r2.index, .int .i64 r2.value] 45))
      have HY := Lib.hid (three_rc _ r r1 r2 ca u1 u2 cn n1 n2 cc q1 q2 (hi0.out.below hbF) (is_of_own ho1b) (is_of_own ho2b) hcn1 hl1 hl2 wc2.heap.size (heap_alloc_new wc2 (.cells #[.int .i64 r.kind, .int .i64 r.clock, .int .i64 r.addr, .slice ca cn cc, .int .i64 r.lost, .int .i64 r.index, .int .i64 r.value, .int .i64 r1.kind, .int .i64 r1.clock, .int .i64 r1.addr, .slice u1 n1 q1, .int .i64 r1.lost, .int .i64 r1.index, .int .i64 r1.value, .int .i64 r2.kind, .int .i64 r2.clock, .int .i64 r2.addr, .slice u2 n2 q2, .int .i64 r2.lost, .int .i64 r2.index, .int .i64 r2.value] 45)))
      have hHl : wc2.heap.size < (wc2.alloc (.cells #[.int .i64 r.kind, .int .i64 r.clock, .int .i64 r.addr, .slice ca cn cc, .int .i64 r.lost, .int .i64 r.index, .int .i64 r.value, .int .i64 r1.kind, .int .i64 r1.clock, .int .i64 r1.addr, .slice u1 n1 q1, .int .i64 r1.lost, .int .i64 r1.index, .int .i64 r1.value, .int .i64 r2.kind, .int .i64 r2.clock, .int .i64 r2.addr, .slice u2 n2 q2, .int .i64 r2.lost, .int .i64 r2.index, .int .i64 r2.value] 45)).heap.size := by simp
      clear hgrF hcod1 hg1 hcod2 hg2 ho1 ho2 ho1b ho2b c0 c1 c2 c3 c4 c5 c6 hTrE hcodE hbE hsE
      go_upto_region 13 with fail
      generalize (wc2.alloc (.cells #[.int .i64 r.kind, .int .i64 r.clock, .int .i64 r.addr, .slice ca cn cc, .int .i64 r.lost, .int .i64 r.index, .int .i64 r.value, .int .i64 r1.kind, .int .i64 r1.clock, .int .i64 r1.addr, .slice u1 n1 q1, .int .i64 r1.lost, .int .i64 r1.index, .int .i64 r1.value, .int .i64 r2.kind, .int .i64 r2.clock, .int .i64 r2.addr, .slice u2 n2 q2, .int .i64 r2.lost, .int .i64 r2.index, .int .i64 r2.value] 45)) = wF at *
      generalize wc2.heap.size = RK at *
      have HLF := Lib.hid (hl0.out.below hbF)
      have HBF := Lib.hid (hbs0.out.below hbF)
      have HPS := Lib.hid hbs0.out.1
      go_loopw [101] (fun v101 wr => ∃ j : Nat, j ≤ 3 ∧ v101 = .int .i64 j ∧ Below wF.heap.size wF wr) (fun v _ => 3 - (intOf v).toNat)
      case atStart => exact ⟨0, by omega, rfl, Below.refl _ _⟩
      case round =>
        obtain ⟨j, hj, rfl, hb⟩ := hrel
        by_cases hlt : j < 3
        · obtain ⟨x, ⟨xa, xn, xc, ⟨y0, y1, y2, y3, y4, y5, y6⟩, hix⟩, hxl⟩ := HY.out j hlt
          have hxn : xn ≤ 100 := by rw [← hix.1]; exact hxl
          have x0 := (hb.cell (p := ⟨RK, j * 7, none⟩) hHl).trans y0
          have x1 := (hb.cell (p := ⟨RK, j * 7 + 1, none⟩) hHl).trans y1
          have x2 := (hb.cell (p := ⟨RK, j * 7 + 2, none⟩) hHl).trans y2
          have x3 := (hb.cell (p := ⟨RK, j * 7 + 3, none⟩) hHl).trans y3
          have x4 := (hb.cell (p := ⟨RK, j * 7 + 4, none⟩) hHl).trans y4
          have x5 := (hb.cell (p := ⟨RK, j * 7 + 5, none⟩) hHl).trans y5
          have x6 := (hb.cell (p := ⟨RK, j * 7 + 6, none⟩) hHl).trans y6
          have hix := hix.below hb
          have hal := (Below.refl wr.heap.size wr).alloc (Nat.le_refl _) (.cells #[.int .i64 x.kind, .int .i64 x.clock, .int .i64 x.addr, .slice xa xn xc, .int .i64 x.lost, .int .i64 x.index, .int .i64 x.value] 45)
          have hT11 := heap_alloc_new wr (.cells #[.int .i64 x.kind, .int .i64 x.clock, .int .i64 x.addr, .slice xa xn xc, .int .i64 x.lost, .int .i64 x.index, .int .i64 x.value] 45)
          have hT11l : wr.heap.size < (wr.alloc (.cells #[.int .i64 x.kind, .int .i64 x.clock, .int .i64 x.addr, .slice xa xn xc, .int .i64 x.lost, .int .i64 x.index, .int .i64 x.value] 45)).heap.size := by simp
          have hba := hb.trans (hal.mono hb.size)
          have HLa := Lib.hid (HLF.out.below hba)
          have HBa := Lib.hid (HBF.out.below hba)
          have HIa := Lib.hid (hix.below hal)
          obtain ⟨PX, hPX⟩ : ∃ PX, (if ckR x = 0 then ps ++ frame (pay x) else []) = PX := ⟨_, rfl⟩
          have hPl : PX.length ≤ 1100 := by
            rw [← hPX]; split
            · rename_i hq
              have h1 := pay_len (good_of hq)
              have h2 := uenc_len10 (n := (pay x).length) (by omega)
              have h3 : (frame (pay x)).length ≤ 500 := by unfold frame; simp [le4]; omega
              rw [List.length_append, HPS.out]; omega
            · simp
          have HPX := Lib.hid hPX
          clear y0 y1 y2 y3 y4 y5 y6 hal hPX hix hxl
          go_wp2_with fail
          refine (Append_any a1 xa len1 cap1 xn xc ps x (by omega) (by omega) _ HBa.out HIa.out HLa.out).mono ?_
          rintro e w12 ⟨v12, rfl, hown12, hb12⟩
          rw [HPX.out] at hown12
          obtain ⟨a12, c12, rfl, hbs12⟩ := Bs.of_own hown12
          obtain ⟨np, hnp⟩ : ∃ np, PX.length = np := ⟨_, rfl⟩
          rw [hnp] at hbs12 hPl ⊢
          obtain ⟨q, hq⟩ : ∃ q, ckR x = q := ⟨_, rfl⟩
          rw [hq]
          have hT12 := (hb12.block wr.heap.size hT11l).trans hT11
          have hT12l := Nat.lt_of_lt_of_le hT11l hb12.size
          have hb0 := hba.trans (hb12.mono hba.size)
          have H12 := Lib.hid hbs12
          have HNP := Lib.hid hnp
          have HQ := Lib.hid hq
          have HBb := Lib.hid (HBa.out.below hb12)
          have HIb := Lib.hid (HIa.out.below hb12)
          clear hown12 hbs12 hb12 hT11 hT11l hba hnp hq x0 x1 x2 x3 x4 x5 x6
          have x0 : w12.cell? ⟨wr.heap.size, 0, none⟩ = some (.int .i64 x.kind) := cell_of_row _ _ 0 _ _ _ hT12
          have x1 : w12.cell? ⟨wr.heap.size, 1, none⟩ = some (.int .i64 x.clock) := cell_of_row _ _ 1 _ _ _ hT12
          have x2 : w12.cell? ⟨wr.heap.size, 2, none⟩ = some (.int .i64 x.addr) := cell_of_row _ _ 2 _ _ _ hT12
          have x3 : w12.cell? ⟨wr.heap.size, 3, none⟩ = some (.slice xa xn xc) := cell_of_row _ _ 3 _ _ _ hT12
          have x4 : w12.cell? ⟨wr.heap.size, 4, none⟩ = some (.int .i64 x.lost) := cell_of_row _ _ 4 _ _ _ hT12
          have x5 : w12.cell? ⟨wr.heap.size, 5, none⟩ = some (.int .i64 x.index) := cell_of_row _ _ 5 _ _ _ hT12
          have x6 : w12.cell? ⟨wr.heap.size, 6, none⟩ = some (.int .i64 x.value) := cell_of_row _ _ 6 _ _ _ hT12
          go_wp2_with fail
          refine (refAppend_any a1 xa len1 cap1 xn xc ps x (by omega) (by omega) _ HBb.out HIb.out).mono ?_
          rintro e w14 ⟨v14, rfl, hown14, hb14⟩
          rw [HPX.out] at hown14
          obtain ⟨a14, c14, rfl, hbs14⟩ := Bs.of_own hown14
          rw [HNP.out] at hbs14 ⊢
          rw [HQ.out]
          have hT14 := (hb14.block wr.heap.size hT12l).trans hT12
          have hb0 := hb0.trans (hb14.mono hb0.size)
          have H12 := Lib.hid (H12.out.below hb14)
          have H14 := Lib.hid hbs14
          have HI14 := Lib.hid (HIb.out.below hb14)
          clear hown14 hbs14 hb14 hT12 hT12l x0 x1 x2 x3 x4 x5 x6
          go_upto_region 17 with fail
          have z0 : ∀ s : Since w14, s.val.cell? ⟨wr.heap.size, 0, none⟩ = some (.int .i64 x.kind) := fun s => s.cell (cell_of_row _ _ 0 _ _ _ hT14)
          have z1 : ∀ s : Since w14, s.val.cell? ⟨wr.heap.size, 1, none⟩ = some (.int .i64 x.clock) := fun s => s.cell (cell_of_row _ _ 1 _ _ _ hT14)
          have z2 : ∀ s : Since w14, s.val.cell? ⟨wr.heap.size, 2, none⟩ = some (.int .i64 x.addr) := fun s => s.cell (cell_of_row _ _ 2 _ _ _ hT14)
          have z3 : ∀ s : Since w14, s.val.cell? ⟨wr.heap.size, 3, none⟩ = some (.slice xa xn xc) := fun s => s.cell (cell_of_row _ _ 3 _ _ _ hT14)
          have z4 : ∀ s : Since w14, s.val.cell? ⟨wr.heap.size, 4, none⟩ = some (.int .i64 x.lost) := fun s => s.cell (cell_of_row _ _ 4 _ _ _ hT14)
          have z5 : ∀ s : Since w14, s.val.cell? ⟨wr.heap.size, 5, none⟩ = some (.int .i64 x.index) := fun s => s.cell (cell_of_row _ _ 5 _ _ _ hT14)
          have z6 : ∀ s : Since w14, s.val.cell? ⟨wr.heap.size, 6, none⟩ = some (.int .i64 x.value) := fun s => s.cell (cell_of_row _ _ 6 _ _ _ hT14)
          have HEQ := Lib.hid (fun s : Since w14 => Equal_same a12 a14 np c12 c14 PX (by omega) s.val (H12.out.below s.property) (H14.out.below s.property))
          have HC1 := Lib.hid (fun s : Since w14 => (CheckRecord_any x xa xn xc (by omega) s.val (HI14.out.below s.property)).mono (R' := fun e w' => e = .returned (.int .i64 ((q : Nat) : Int)) ∧ Below s.val.heap.size s.val w') (fun e w' he => ⟨by rw [he.1, HQ.out], he.2⟩))
          have HC2 := Lib.hid (fun s : Since w14 => (refCheckRecord_any x xa xn xc (by omega) s.val (HI14.out.below s.property)).mono (R' := fun e w' => e = .returned (.int .i64 ((q : Nat) : Int)) ∧ Below s.val.heap.size s.val w') (fun e w' he => ⟨by rw [he.1, HQ.out], he.2⟩))
          have dq : (((q : Nat) : Int) != ((q : Nat) : Int)) = false := by simp
          refine wp_region_below (by kernel_rfl) (by kernel_rfl) ?_
          repeat (go_big_quiet_step ((first | (go_at_call 17; exact calls_since _ (HEQ.out _)) | (go_at_call 23; exact calls_since _ (HC1.out _)) | (go_at_call 24; exact calls_since _ (HC2.out _)))))
          refine wpQuiet_nil ?_
          intro w15 hb15
          have hb0 := hb0.trans (hb15.mono hb0.size)
          clear hb15 z0 z1 z2 z3 z4 z5 z6
          go_wp2_with fail
          go_roundw
          case rel => exact ⟨j + 1, by omega, by go_num, hb0⟩
          case measure => simp [intOf]; omega
        · obtain rfl : j = 3 := by omega
          go_wp2_with fail
          have hcodG := hcodF.below hb hcodF.lt
          have hbG := hbF.trans (hb.mono hbF.size)
          have hgG : g < wr.heap.size := hcodG.lt
          clear HY hHl hcodF hgl1 hbF HLF HBF hb
          obtain ⟨i45, hi45, hq0, hq1, hq2⟩ := info_parts Tryd.info45
          refine (Shard_any g 8 (by omega) _ hcodG).mono ?_
          rintro e wS ⟨sh, sv, wh, ls, rfl, _, hownS, hchS, hls, hgd, hck, hpr, hcodS, hgrS⟩
          have HGD := Lib.hid hgd
          have hbS := below_grown1 hbG hgrS hbG.size (by omega)
          obtain ⟨sa, sc, rfl, hlen0, hsc1, hsc2, hcS, _⟩ := Cells.of_own hownS
          have hnilS := own_nil hownS
          have hsblk : ∀ k, (Value.slice sa ls.length sc).ownBlock = some k → k < wS.heap.size := fun k hk => (hownS.lt k hk).2
          have hgS : g < wS.heap.size := hcodS.lt
          have hwrS : wr.heap.size ≤ wS.heap.size := hgrS.size
          have hal1 := (Below.refl wS.heap.size wS).alloc (Nat.le_refl _) (.cells #[.int .i64 sh.rel, .int .i64 sh.mach, .int .i64 sh.num, .int .i64 sh.per, .int .u64 ((sh.print : Nat) : Int), .slice sa ls.length sc, .bool wh] 32)
          have hal2 := hal1.alloc (by simp) (.cells #[.int .i64 sh.rel, .int .i64 sh.mach, .int .i64 sh.num, .int .i64 sh.per, .int .u64 ((sh.print : Nat) : Int), .slice sa ls.length sc, .bool wh] 32)
          have hT22 : ((wS.alloc (.cells #[.int .i64 sh.rel, .int .i64 sh.mach, .int .i64 sh.num, .int .i64 sh.per, .int .u64 ((sh.print : Nat) : Int), .slice sa ls.length sc, .bool wh] 32)).alloc (.cells #[.int .i64 sh.rel, .int .i64 sh.mach, .int .i64 sh.num, .int .i64 sh.per, .int .u64 ((sh.print : Nat) : Int), .slice sa ls.length sc, .bool wh] 32)).heap[wS.heap.size]? = some (.cells #[.int .i64 sh.rel, .int .i64 sh.mach, .int .i64 sh.num, .int .i64 sh.per, .int .u64 ((sh.print : Nat) : Int), .slice sa ls.length sc, .bool wh] 32 (0, 0)) := by
            rw [Below.heap_alloc _ _ _ (by simp)]; exact heap_alloc_new _ _
          have hT23 : ((wS.alloc (.cells #[.int .i64 sh.rel, .int .i64 sh.mach, .int .i64 sh.num, .int .i64 sh.per, .int .u64 ((sh.print : Nat) : Int), .slice sa ls.length sc, .bool wh] 32)).alloc (.cells #[.int .i64 sh.rel, .int .i64 sh.mach, .int .i64 sh.num, .int .i64 sh.per, .int .u64 ((sh.print : Nat) : Int), .slice sa ls.length sc, .bool wh] 32)).heap[wS.heap.size + 1]? = some (.cells #[.int .i64 sh.rel, .int .i64 sh.mach, .int .i64 sh.num, .int .i64 sh.per, .int .u64 ((sh.print : Nat) : Int), .slice sa ls.length sc, .bool wh] 32 (0, 0)) := by
            have e1 : (wS.alloc (.cells #[.int .i64 sh.rel, .int .i64 sh.mach, .int .i64 sh.num, .int .i64 sh.per, .int .u64 ((sh.print : Nat) : Int), .slice sa ls.length sc, .bool wh] 32)).heap.size = wS.heap.size + 1 := by simp
            rw [← e1]; exact heap_alloc_new _ _
          have hown1 := own_below hownS hal2
          have hch1 := hchS.below hal2
          have hcod1 := hcodS.below hal2 hgS
          have hb1 := hbS.trans (hal2.mono hbS.size)
          have hcel := hcS.below hal2
          have hs2 : ((wS.alloc (.cells #[.int .i64 sh.rel, .int .i64 sh.mach, .int .i64 sh.num, .int .i64 sh.per, .int .u64 ((sh.print : Nat) : Int), .slice sa ls.length sc, .bool wh] 32)).alloc (.cells #[.int .i64 sh.rel, .int .i64 sh.mach, .int .i64 sh.num, .int .i64 sh.per, .int .u64 ((sh.print : Nat) : Int), .slice sa ls.length sc, .bool wh] 32)).heap.size = wS.heap.size + 2 := by simp
          unfold maxLen at hsc2
          clear hal1 hal2 hownS hchS hcodS hbS hcS hgrS hgd
          go_upto_region 22 with fail
          generalize ((wS.alloc (.cells #[.int .i64 sh.rel, .int .i64 sh.mach, .int .i64 sh.num, .int .i64 sh.per, .int .u64 ((sh.print : Nat) : Int), .slice sa ls.length sc, .bool wh] 32)).alloc (.cells #[.int .i64 sh.rel, .int .i64 sh.mach, .int .i64 sh.num, .int .i64 sh.per, .int .u64 ((sh.print : Nat) : Int), .slice sa ls.length sc, .bool wh] 32)) = w1 at *
          generalize wS.heap.size = S at *
          have c5 : w1.cell? ⟨S, 5, none⟩ = some (.slice sa ls.length sc) := cell_of_row _ _ 5 _ _ _ hT22
          have HCEL := Lib.hid hcel
          have HRL := Lib.hid (rv_len ls)
          have hHone := Lib.hid (show ∀ u ∈ ls.flatMap rv, u.oneCell' = true from rows_one (fun p hp => (hch1 p hp).1))
          clear hcel hlen0
          go_wp2_with (at_builtin; refine wpList_append_src rfl _ _ _ rfl w1.heap.size 45 i45 _ 7 72 Tryd.underlying30 hi45 hq0 hq1 hq2 rfl (by omega) _ _ _ rfl (World.ownsRow_nil _ _ _ _) sa ls.length sc (ls.flatMap rv) rfl (by omega) hnilS HRL.out HCEL.out hHone.out (by unfold maxLen; omega) (by omega) (Nat.le_refl _) ?_; intro v2 w2 hown2 hgr2; rw [Nat.zero_add, List.nil_append] at hown2)
          have hb12 : Below w1.heap.size w1 w2 := (Below.refl _ _).grown hgr2 (Nat.le_refl _) (fun k e => by cases e)
          have hT22b := (hb12.block S (by omega)).trans hT22
          have hT23b := (hb12.block (S + 1) (by omega)).trans hT23
          have hown1b := own_below hown1 hb12
          have hch1b := hch1.below hb12
          have hcod2 := hcod1.below hb12 (by omega)
          have hb2 := hb1.trans (hb12.mono hb1.size)
          have hs12 := hb12.size
          clear hgr2 hb12 hT22 hT23 hown1 hch1 hcod1 hb1 c5
          refine (Record_any g _ hcod2).mono ?_
          rintro e w3 ⟨x, xv, rfl, ⟨xa, xn, xc, rfl⟩, hown3, hx5, hcod3, hg3⟩
          obtain rfl := own_len hown3
          have hgn : ∀ k, (some g : Option Nat) = some k → k = g := fun k e => by injection e with e; exact e.symm
          have hT22c := (hg3.block S (by omega) (fun e => by have := hgn _ e.symm; omega)).trans hT22b
          have hT23c := (hg3.block (S + 1) (by omega) (fun e => by have := hgn _ e.symm; omega)).trans hT23b
          have hown1c := hown1b.kept hg3 (.inr (fun e => by have := hown1b.lt _ e; omega))
          have hch1c := hch1b.block hg3 (by omega)
          have hown2c := hown2.kept hg3 (.inr (fun e => by have := hown2.lt _ e; omega))
          have hb3 := below_grown1 hb2 hg3 hb2.size (by omega)
          have hs23 := hg3.size
          have hal := (Below.refl w3.heap.size w3).alloc (Nat.le_refl _) (.cells #[.int .i64 x.kind, .int .i64 x.clock, .int .i64 x.addr, .slice xa x.chain.length xc, .int .i64 x.lost, .int .i64 x.index, .int .i64 x.value] 45)
          have hT22d := (hal.block S (by omega)).trans hT22c
          have hT23d := (hal.block (S + 1) (by omega)).trans hT23c
          have hown1d := own_below hown1c hal
          have hch1d := hch1c.below hal
          have hown2d := own_below (ownsRow_mono2 (b' := S + 2) hown2c (by omega)) hal
          have hown3d := own_below (ownsRow_mono2 (b' := wr.heap.size) hown3 (by omega)) hal
          have hcod4 := hcod3.below hal hcod3.lt
          have hb4 := hb3.trans (hal.mono hb3.size)
          have hs34 := hal.size
          have hz4 : (w3.alloc (.cells #[.int .i64 x.kind, .int .i64 x.clock, .int .i64 x.addr, .slice xa x.chain.length xc, .int .i64 x.lost, .int .i64 x.index, .int .i64 x.value] 45)).heap.size = w3.heap.size + 1 := by simp
          have HNEW := Lib.hid (show Cells (w3.alloc (.cells #[.int .i64 x.kind, .int .i64 x.clock, .int .i64 x.addr, .slice xa x.chain.length xc, .int .i64 x.lost, .int .i64 x.index, .int .i64 x.value] 45)) (some ⟨w3.heap.size, 0, none⟩) (rv (x, .slice xa x.chain.length xc)) from fun _ => ⟨_, 0, rfl, by simp, fun j u hj => by rw [Nat.zero_add, cell_of_row _ _ _ _ _ _ (heap_alloc_new w3 _)]; unfold rv at hj; simpa using hj⟩)
          have HCX := Lib.hid (show Chains (w3.alloc (.cells #[.int .i64 x.kind, .int .i64 x.clock, .int .i64 x.addr, .slice xa x.chain.length xc, .int .i64 x.lost, .int .i64 x.index, .int .i64 x.value] 45)) wr.heap.size (ls ++ [(x, .slice xa x.chain.length xc)]) from fun p hp => by
            rcases List.mem_append.1 hp with hp | hp
            · exact hch1d p hp
            · rw [List.mem_singleton] at hp; subst hp; exact ⟨⟨_, _, _, rfl⟩, hown3d⟩)
          have HO2 := Lib.hid hown2d
          have HO1 := Lib.hid hown1d
          have u5 : (w3.alloc (.cells #[.int .i64 x.kind, .int .i64 x.clock, .int .i64 x.addr, .slice xa x.chain.length xc, .int .i64 x.lost, .int .i64 x.index, .int .i64 x.value] 45)).cell? ⟨S + 1, 5, none⟩ = some (.slice sa ls.length sc) := cell_of_row _ _ 5 _ _ _ hT23d
          have u7 : (w3.alloc (.cells #[.int .i64 x.kind, .int .i64 x.clock, .int .i64 x.addr, .slice xa x.chain.length xc, .int .i64 x.lost, .int .i64 x.index, .int .i64 x.value] 45)).frozen? ⟨S + 1, 5, none⟩ = false := unfrozen_of_row hT23d
          clear hal hg3 hT22b hT23b hown1b hch1b hown2 hown2c hown3 hcod2 hcod3 hb2 hb3 hT22c hT23c hown1c hch1c hown2d hown3d hown1d
          go_wp2_with (at_builtin; refine wpList_append_src rfl _ _ _ rfl (S + 2) 45 i45 _ 7 72 Tryd.underlying30 hi45 hq0 hq1 hq2 rfl (by omega) _ _ _ rfl HO2.out _ 1 1 (rv (x, .slice xa x.chain.length xc)) rfl (Nat.le_refl _) (fun e => by cases e) rfl HNEW.out (by intro u hu; simp [rv] at hu; rcases hu with rfl | rfl | rfl | rfl | rfl | rfl | rfl <;> rfl) (by unfold maxLen; omega) (by omega) (by omega) ?_; intro v5 w5 hown5 hgr5; obtain ⟨oa, on, oc, rfl⟩ := own_sl hown5; have ho5 := (fun k hk => (HO2.out.lt k hk).1); have c59 := (hgr5.cell_far ⟨S + 1, 5, none⟩ (by show S + 1 < _; omega) (fun e => by have := ho5 (S + 1) e.symm; omega)).trans u5; have f59 := (hgr5.frozen_far ⟨S + 1, 5, none⟩ (by show S + 1 < _; omega) (fun e => by have := ho5 (S + 1) e.symm; omega)).trans u7)
          obtain rfl := own_len hown5
          have hg6 := grownBy_set w5 (S + 1) 5 (.slice oa (ls.length + 1) oc)
          have hz5 := hgr5.size
          have hr2 : ∀ k, v2.ownBlock = some k → S + 2 ≤ k := fun k hk => (HO2.out.lt k hk).1
          have hT22e := (hgr5.block S (by omega) (fun e => by have := hr2 S e.symm; omega)).trans hT22d
          have hT23e := (hgr5.block (S + 1) (by omega) (fun e => by have := hr2 (S + 1) e.symm; omega)).trans hT23d
          have hO6 : Odd w.heap.size wr.heap.size S sh sh sa oa sc oc wh ls (x, .slice xa x.chain.length xc) w (w5.setCell ⟨S + 1, 5, none⟩ (.slice oa (ls.length + 1) oc)) :=
            ⟨hpr, (hg6.block S (by omega) (fun e => by injection e with e; omega)).trans hT22e, heap_setCell_same w5 (S + 1) 5 _ _ _ hT23e,
              own_notblock (own_apart HO1.out hsblk hgr5 (fun k hk => by have := hr2 k hk; omega)) hg6 hT23e (by decide),
              own_notblock (ownsRow_mono2 hown5 (by omega)) hg6 hT23e (by decide),
              (HCX.out.row HO2.out hgr5).notblock hg6 hT23e (by decide),
              below_grown1 (hb4.grown hgr5 (by have := hb4.size; omega) (fun k hk => by have := hr2 k hk; omega)) hg6 (by have := hb4.size; omega) (by omega)⟩
          have hcod6 := (hcod4.grown hgr5 (fun k hk => by have := hr2 k hk; omega)).grown hg6 (fun k hk => by injection hk with hk; omega)
          have hwS : w.heap.size ≤ S := by omega
          clear hown5 hgr5 hg6 hT22e hT23e c59 f59 u5 u7 hT22d hT23d hch1d hcod4 hb4 HO1 HO2 HCX HNEW hz4 hz5 hs34 hs23 hs12 ho5
          generalize (w5.setCell ⟨S + 1, 5, none⟩ (.slice oa (ls.length + 1) oc)) = w6 at *
          refine (Next_any g 3 (by omega) _ hcod6).mono ?_
          rintro e w7 ⟨y, rfl, yy0, yy1, hcod7, hg7⟩
          have hO7 := hO6.draw hcod6 hg7 (by omega) (by omega)
          clear hO6 hcod6 hg7
          go_upto_if 147 with fail
          go_cut [148] from 149 to 150 (fun v148 wx => ∃ ho : Hd, Odd w.heap.size wr.heap.size S sh ho sa oa sc oc wh ls (x, .slice xa x.chain.length xc) w wx)
          case first =>
            by_cases hy : y = 0
            case neg =>
              have dy : (y == 0) = false := by simp [hy]
              clear hy
              go_wp2_with fail
              go_meet
              exact ⟨_, hO7⟩
            subst hy
            go_wp2_with fail
            refine (Header_any g _ hcod7).mono ?_
            rintro e w8 ⟨h9, rfl, hp9, hcod8, hg8⟩
            have hO8 := hO7.draw hcod7 hg8 (by omega) (by omega)
            have d0 : w8.cell? ⟨S + 1, 0, none⟩ = some (.int .i64 sh.rel) := cell_of_row _ _ 0 _ _ _ hO8.t23
            have f0 : w8.frozen? ⟨S + 1, 0, none⟩ = false := unfrozen_of_row hO8.t23
            have d1 : w8.cell? ⟨S + 1, 1, none⟩ = some (.int .i64 sh.mach) := cell_of_row _ _ 1 _ _ _ hO8.t23
            have f1 : w8.frozen? ⟨S + 1, 1, none⟩ = false := unfrozen_of_row hO8.t23
            have d2 : w8.cell? ⟨S + 1, 2, none⟩ = some (.int .i64 sh.num) := cell_of_row _ _ 2 _ _ _ hO8.t23
            have f2 : w8.frozen? ⟨S + 1, 2, none⟩ = false := unfrozen_of_row hO8.t23
            have d3 : w8.cell? ⟨S + 1, 3, none⟩ = some (.int .i64 sh.per) := cell_of_row _ _ 3 _ _ _ hO8.t23
            have f3 : w8.frozen? ⟨S + 1, 3, none⟩ = false := unfrozen_of_row hO8.t23
            have d4 : w8.cell? ⟨S + 1, 4, none⟩ = some (.int .u64 ((sh.print : Nat) : Int)) := cell_of_row _ _ 4 _ _ _ hO8.t23
            have f4 : w8.frozen? ⟨S + 1, 4, none⟩ = false := unfrozen_of_row hO8.t23
            have HO9 := Lib.hid (hO8.head (h2 := h9) hp9 (grown_set (grown_set (grown_set (grown_set (grownBy_set w8 (S + 1) 0 (.int .i64 h9.rel)) 1 (.int .i64 h9.mach)) 2 (.int .i64 h9.num)) 3 (.int .i64 h9.per)) 4 (.int .u64 ((h9.print : Nat) : Int))) (heap_setCell_same _ (S + 1) 4 _ _ (.int .u64 ((h9.print : Nat) : Int)) (heap_setCell_same _ (S + 1) 3 _ _ (.int .i64 h9.per) (heap_setCell_same _ (S + 1) 2 _ _ (.int .i64 h9.num) (heap_setCell_same _ (S + 1) 1 _ _ (.int .i64 h9.mach) (heap_setCell_same _ (S + 1) 0 _ _ (.int .i64 h9.rel) hO8.t23))))) hwS)
            clear hO7 hO8 hg8 hcod7 hcod8
            go_wp2_with fail
            go_meet
            exact ⟨_, HO9.out⟩
          case rest =>
            obtain ⟨ho, hO9⟩ := hcut
            clear hO7 hcod7
            obtain ⟨pa, pc, e1, hrsS⟩ := Rs.of_own hO9.own1 (fun p hp => hO9.chains p (List.mem_append_left _ hp))
            injection e1 with e1a _ e1c
            subst e1a e1c
            have hl1 : (ls ++ [(x, Value.slice xa x.chain.length xc)]).length = ls.length + 1 := by simp
            have hown2 := hO9.own2
            rw [← flat_snoc, ← hl1] at hown2
            obtain ⟨pa, pc, e1, hrsO⟩ := Rs.of_own hown2 hO9.chains
            rw [hl1] at e1 hrsO
            injection e1 with e1a _ e1c
            subst e1a e1c
            have hT22 := hO9.t22
            have hT23 := hO9.t23
            have hbO := hO9.below
            have hpo := hO9.prt
            have hS1 := (Array.getElem?_eq_some_iff.1 hT23).1
            obtain ⟨rs, hrs⟩ : ∃ rs, ls.map (·.1) = rs := ⟨_, rfl⟩
            obtain ⟨ro, hro⟩ : ∃ ro, (ls ++ [(x, Value.slice xa x.chain.length xc)]).map (·.1) = ro := ⟨_, rfl⟩
            have hcs : ∀ r ∈ rs, r.chain.length ≤ 5 := by
              rw [← hrs]; intro r hr; obtain ⟨p, hp, rfl⟩ := List.mem_map.1 hr; exact (HGD.out p hp).2.2
            have hco : ∀ r ∈ ro, r.chain.length ≤ 5 := by
              rw [← hro]; intro r hr; obtain ⟨p, hp, rfl⟩ := List.mem_map.1 hr
              rcases List.mem_append.1 hp with hp | hp
              · exact (HGD.out p hp).2.2
              · rw [List.mem_singleton] at hp; subst hp; exact hx5
            rw [hrs] at hrsS
            rw [hro] at hrsO
            have HCS := Lib.hid hcs
            have hnl8 : ls.length ≤ 8 := by omega
            have hal := (Below.refl wc.heap.size wc).alloc (Nat.le_refl _) (.cells #[.int .i64 sh.rel, .int .i64 sh.mach, .int .i64 sh.num, .int .i64 sh.per, .int .u64 ((sh.print : Nat) : Int), .slice sa ls.length sc, .bool wh, .int .i64 ho.rel, .int .i64 ho.mach, .int .i64 ho.num, .int .i64 ho.per, .int .u64 ((ho.print : Nat) : Int), .slice oa (ls.length + 1) oc, .bool wh] 32)
            have hal' := hal
            have hTK := heap_alloc_new wc (.cells #[.int .i64 sh.rel, .int .i64 sh.mach, .int .i64 sh.num, .int .i64 sh.per, .int .u64 ((sh.print : Nat) : Int), .slice sa ls.length sc, .bool wh, .int .i64 ho.rel, .int .i64 ho.mach, .int .i64 ho.num, .int .i64 ho.per, .int .u64 ((ho.print : Nat) : Int), .slice oa (ls.length + 1) oc, .bool wh] 32)
            have hTK22 := (hal.block S (by omega)).trans hT22
            have hK : wc.heap.size < (wc.alloc (.cells #[.int .i64 sh.rel, .int .i64 sh.mach, .int .i64 sh.num, .int .i64 sh.per, .int .u64 ((sh.print : Nat) : Int), .slice sa ls.length sc, .bool wh, .int .i64 ho.rel, .int .i64 ho.mach, .int .i64 ho.num, .int .i64 ho.per, .int .u64 ((ho.print : Nat) : Int), .slice oa (ls.length + 1) oc, .bool wh] 32)).heap.size := by simp
            have hbK := hbO.trans (hal.mono hbO.size)
            have HRS := Lib.hid (hrsS.below hal)
            have HY := Lib.hid (two_sh (wc.alloc (.cells #[.int .i64 sh.rel, .int .i64 sh.mach, .int .i64 sh.num, .int .i64 sh.per, .int .u64 ((sh.print : Nat) : Int), .slice sa ls.length sc, .bool wh, .int .i64 ho.rel, .int .i64 ho.mach, .int .i64 ho.num, .int .i64 ho.per, .int .u64 ((ho.print : Nat) : Int), .slice oa (ls.length + 1) oc, .bool wh] 32)) sh ho hpr hpo wh sa oa ls.length (ls.length + 1) sc oc rs ro (by omega) (by omega) hcs hco (hrsS.below hal) (hrsO.below hal) wc.heap.size hTK)
            have hSK : S < (wc.alloc (.cells #[.int .i64 sh.rel, .int .i64 sh.mach, .int .i64 sh.num, .int .i64 sh.per, .int .u64 ((sh.print : Nat) : Int), .slice sa ls.length sc, .bool wh, .int .i64 ho.rel, .int .i64 ho.mach, .int .i64 ho.num, .int .i64 ho.per, .int .u64 ((ho.print : Nat) : Int), .slice oa (ls.length + 1) oc, .bool wh] 32)).heap.size := by simp; omega
            have c0 : wc.cell? ⟨S, 0, none⟩ = some (.int .i64 sh.rel) := cell_of_row _ _ 0 _ _ _ hT22
            have c1 : wc.cell? ⟨S, 1, none⟩ = some (.int .i64 sh.mach) := cell_of_row _ _ 1 _ _ _ hT22
            have c2 : wc.cell? ⟨S, 2, none⟩ = some (.int .i64 sh.num) := cell_of_row _ _ 2 _ _ _ hT22
            have c3 : wc.cell? ⟨S, 3, none⟩ = some (.int .i64 sh.per) := cell_of_row _ _ 3 _ _ _ hT22
            have c4 : wc.cell? ⟨S, 4, none⟩ = some (.int .u64 ((sh.print : Nat) : Int)) := cell_of_row _ _ 4 _ _ _ hT22
            have c5 : wc.cell? ⟨S, 5, none⟩ = some (.slice sa ls.length sc) := cell_of_row _ _ 5 _ _ _ hT22
            have c6 : wc.cell? ⟨S, 6, none⟩ = some (.bool wh) := cell_of_row _ _ 6 _ _ _ hT22
            have d0 : wc.cell? ⟨S + 1, 0, none⟩ = some (.int .i64 ho.rel) := cell_of_row _ _ 0 _ _ _ hT23
            have d1 : wc.cell? ⟨S + 1, 1, none⟩ = some (.int .i64 ho.mach) := cell_of_row _ _ 1 _ _ _ hT23
            have d2 : wc.cell? ⟨S + 1, 2, none⟩ = some (.int .i64 ho.num) := cell_of_row _ _ 2 _ _ _ hT23
            have d3 : wc.cell? ⟨S + 1, 3, none⟩ = some (.int .i64 ho.per) := cell_of_row _ _ 3 _ _ _ hT23
            have d4 : wc.cell? ⟨S + 1, 4, none⟩ = some (.int .u64 ((ho.print : Nat) : Int)) := cell_of_row _ _ 4 _ _ _ hT23
            have d5 : wc.cell? ⟨S + 1, 5, none⟩ = some (.slice oa (ls.length + 1) oc) := cell_of_row _ _ 5 _ _ _ hT23
            have d6 : wc.cell? ⟨S + 1, 6, none⟩ = some (.bool wh) := cell_of_row _ _ 6 _ _ _ hT23
            clear hO9 hown2 hrsO hal hal' hTK hT22 hT23 hbO hcs hco hrs hro
            go_upto_region 26 with fail
            clear c0 c1 c2 c3 c4 c5 c6 d0 d1 d2 d3 d4 d5 d6
            generalize (wc.alloc (.cells #[.int .i64 sh.rel, .int .i64 sh.mach, .int .i64 sh.num, .int .i64 sh.per, .int .u64 ((sh.print : Nat) : Int), .slice sa ls.length sc, .bool wh, .int .i64 ho.rel, .int .i64 ho.mach, .int .i64 ho.num, .int .i64 ho.per, .int .u64 ((ho.print : Nat) : Int), .slice oa (ls.length + 1) oc, .bool wh] 32)) = wK at *
            generalize wc.heap.size = XK at *
            have HLK := Lib.hid (hl0.out.below hbK)
            go_loopw [155] (fun v155 wr => ∃ j : Nat, j ≤ 2 ∧ v155 = .int .i64 j ∧ Below wK.heap.size wK wr) (fun v _ => 2 - (intOf v).toNat)
            case atStart => exact ⟨0, by omega, rfl, Below.refl _ _⟩
            case round =>
              obtain ⟨j, hj, rfl, hb⟩ := hrel
              by_cases hlt : j < 2
              · obtain ⟨q, qa, qn, qc, rq, hpq, hqn, hqc, hRq, y0, y1, y2, y3, y4, y5, y6⟩ := HY.out j hlt
                have x0 := (hb.cell (p := ⟨XK, j * 7, none⟩) hK).trans y0
                have x1 := (hb.cell (p := ⟨XK, j * 7 + 1, none⟩) hK).trans y1
                have x2 := (hb.cell (p := ⟨XK, j * 7 + 2, none⟩) hK).trans y2
                have x3 := (hb.cell (p := ⟨XK, j * 7 + 3, none⟩) hK).trans y3
                have x4 := (hb.cell (p := ⟨XK, j * 7 + 4, none⟩) hK).trans y4
                have x5 := (hb.cell (p := ⟨XK, j * 7 + 5, none⟩) hK).trans y5
                have x6 := (hb.cell (p := ⟨XK, j * 7 + 6, none⟩) hK).trans y6
                have hal := (Below.refl wr.heap.size wr).alloc (Nat.le_refl _) (.cells #[.int .i64 q.rel, .int .i64 q.mach, .int .i64 q.num, .int .i64 q.per, .int .u64 ((q.print : Nat) : Int), .slice qa qn qc, .bool wh] 32)
                have hT11 := heap_alloc_new wr (.cells #[.int .i64 q.rel, .int .i64 q.mach, .int .i64 q.num, .int .i64 q.per, .int .u64 ((q.print : Nat) : Int), .slice qa qn qc, .bool wh] 32)
                have hT11l : wr.heap.size < (wr.alloc (.cells #[.int .i64 q.rel, .int .i64 q.mach, .int .i64 q.num, .int .i64 q.per, .int .u64 ((q.print : Nat) : Int), .slice qa qn qc, .bool wh] 32)).heap.size := by simp
                have hba := hb.trans (hal.mono hb.size)
                have HLa := Lib.hid (HLK.out.below hba)
                have HRa := Lib.hid (hRq.below hba)
                have hT22a := (hba.block S hSK).trans hTK22
                have HQC := Lib.hid hqc
                have HQN := Lib.hid hRq.1
                obtain ⟨PX, hPX⟩ : ∃ PX, (if encErr q rq = 0 then encB q rq wh else []) = PX := ⟨_, rfl⟩
                have hPl : PX.length ≤ 60000 := by
                  rw [← hPX]; split
                  · rename_i hz
                    obtain ⟨g1, g2⟩ := encErr_zero hz
                    exact enc_le g1 hpq (fun r hr => (g2 r hr).1) (by rw [HQN.out]; omega)
                  · simp
                have HPX := Lib.hid hPX
                have HCI := Lib.hid (show ∀ i, i < qn → (rq.getD i default).chain.length ≤ 4000 from fun i hi => by
                  have := HQC.out (rq.getD i default) (by have := HQN.out; simp [List.getD, show i < rq.length by omega])
                  omega)
                clear y0 y1 y2 y3 y4 y5 y6 hal hPX hRq hqc
                go_wp2_with fail
                refine (Encode_all q qa qn qc rq wh hpq HCI.out (by omega) _ HRa.out HLa.out).mono ?_
                rintro e w12 ⟨v12, rfl, hown12, hb12⟩
                rw [HPX.out] at hown12
                obtain ⟨a12, c12, rfl, hbs12⟩ := Bs.of_own hown12
                obtain ⟨np, hnp⟩ : ∃ np, PX.length = np := ⟨_, rfl⟩
                rw [hnp] at hbs12 hPl ⊢
                obtain ⟨er, her⟩ : ∃ er, encErr q rq = er := ⟨_, rfl⟩
                rw [her]
                have hT12 := (hb12.block wr.heap.size hT11l).trans hT11
                have hT12l := Nat.lt_of_lt_of_le hT11l hb12.size
                have hb0 := hba.trans (hb12.mono hba.size)
                have hT22b := (hb0.block S hSK).trans hTK22
                have H12 := Lib.hid hbs12
                have HNP := Lib.hid hnp
                have HER := Lib.hid her
                have HRb := Lib.hid (HRa.out.below hb12)
                clear hown12 hbs12 hb12 hT11 hT11l hba hnp her x0 x1 x2 x3 x4 x5 x6 hT22a
                have x0 : w12.cell? ⟨wr.heap.size, 0, none⟩ = some (.int .i64 q.rel) := cell_of_row _ _ 0 _ _ _ hT12
                have x1 : w12.cell? ⟨wr.heap.size, 1, none⟩ = some (.int .i64 q.mach) := cell_of_row _ _ 1 _ _ _ hT12
                have x2 : w12.cell? ⟨wr.heap.size, 2, none⟩ = some (.int .i64 q.num) := cell_of_row _ _ 2 _ _ _ hT12
                have x3 : w12.cell? ⟨wr.heap.size, 3, none⟩ = some (.int .i64 q.per) := cell_of_row _ _ 3 _ _ _ hT12
                have x4 : w12.cell? ⟨wr.heap.size, 4, none⟩ = some (.int .u64 ((q.print : Nat) : Int)) := cell_of_row _ _ 4 _ _ _ hT12
                have x5 : w12.cell? ⟨wr.heap.size, 5, none⟩ = some (.slice qa qn qc) := cell_of_row _ _ 5 _ _ _ hT12
                have x6 : w12.cell? ⟨wr.heap.size, 6, none⟩ = some (.bool wh) := cell_of_row _ _ 6 _ _ _ hT12
                go_wp2_with fail
                refine (refEncode_all q qa qn qc rq wh hpq HCI.out (by omega) _ HRb.out).mono ?_
                rintro e w14 ⟨v14, rfl, hown14, hb14⟩
                rw [HPX.out] at hown14
                obtain ⟨a14, c14, rfl, hbs14⟩ := Bs.of_own hown14
                rw [HNP.out] at hbs14 ⊢
                rw [HER.out]
                have hT14 := (hb14.block wr.heap.size hT12l).trans hT12
                have hb0 := hb0.trans (hb14.mono hb0.size)
                have hT22c := (hb0.block S hSK).trans hTK22
                have H12 := Lib.hid (H12.out.below hb14)
                have H14 := Lib.hid hbs14
                have HR14 := Lib.hid (HRb.out.below hb14)
                have HS14 := Lib.hid (HRS.out.below hb0)
                clear hown14 hbs14 hb14 hT12 hT12l x0 x1 x2 x3 x4 x5 x6 hT22b
                go_upto_region 30 with fail
                have z0 : ∀ s : Since w14, s.val.cell? ⟨wr.heap.size, 0, none⟩ = some (.int .i64 q.rel) := fun s => s.cell (cell_of_row _ _ 0 _ _ _ hT14)
                have z1 : ∀ s : Since w14, s.val.cell? ⟨wr.heap.size, 1, none⟩ = some (.int .i64 q.mach) := fun s => s.cell (cell_of_row _ _ 1 _ _ _ hT14)
                have z2 : ∀ s : Since w14, s.val.cell? ⟨wr.heap.size, 2, none⟩ = some (.int .i64 q.num) := fun s => s.cell (cell_of_row _ _ 2 _ _ _ hT14)
                have z3 : ∀ s : Since w14, s.val.cell? ⟨wr.heap.size, 3, none⟩ = some (.int .i64 q.per) := fun s => s.cell (cell_of_row _ _ 3 _ _ _ hT14)
                have z4 : ∀ s : Since w14, s.val.cell? ⟨wr.heap.size, 4, none⟩ = some (.int .u64 ((q.print : Nat) : Int)) := fun s => s.cell (cell_of_row _ _ 4 _ _ _ hT14)
                have z5 : ∀ s : Since w14, s.val.cell? ⟨wr.heap.size, 5, none⟩ = some (.slice qa qn qc) := fun s => s.cell (cell_of_row _ _ 5 _ _ _ hT14)
                have z6 : ∀ s : Since w14, s.val.cell? ⟨wr.heap.size, 6, none⟩ = some (.bool wh) := fun s => s.cell (cell_of_row _ _ 6 _ _ _ hT14)
                have t0 : ∀ s : Since w14, s.val.cell? ⟨S, 0, none⟩ = some (.int .i64 sh.rel) := fun s => s.cell (cell_of_row _ _ 0 _ _ _ hT22c)
                have t1 : ∀ s : Since w14, s.val.cell? ⟨S, 1, none⟩ = some (.int .i64 sh.mach) := fun s => s.cell (cell_of_row _ _ 1 _ _ _ hT22c)
                have t2 : ∀ s : Since w14, s.val.cell? ⟨S, 2, none⟩ = some (.int .i64 sh.num) := fun s => s.cell (cell_of_row _ _ 2 _ _ _ hT22c)
                have t3 : ∀ s : Since w14, s.val.cell? ⟨S, 3, none⟩ = some (.int .i64 sh.per) := fun s => s.cell (cell_of_row _ _ 3 _ _ _ hT22c)
                have t4 : ∀ s : Since w14, s.val.cell? ⟨S, 4, none⟩ = some (.int .u64 ((sh.print : Nat) : Int)) := fun s => s.cell (cell_of_row _ _ 4 _ _ _ hT22c)
                have t5 : ∀ s : Since w14, s.val.cell? ⟨S, 5, none⟩ = some (.slice sa ls.length sc) := fun s => s.cell (cell_of_row _ _ 5 _ _ _ hT22c)
                have t6 : ∀ s : Since w14, s.val.cell? ⟨S, 6, none⟩ = some (.bool wh) := fun s => s.cell (cell_of_row _ _ 6 _ _ _ hT22c)
                have hc1 : ∀ r ∈ rq, r.chain.length ≤ 100000 := fun r hr => by have := HQC.out r hr; omega
                have hc2 : ∀ r ∈ rs, r.chain.length ≤ 100000 := fun r hr => by have := HCS.out r hr; omega
                have HEQ := Lib.hid (fun s : Since w14 => Equal_same a12 a14 np c12 c14 PX (by omega) s.val (H12.out.below s.property) (H14.out.below s.property))
                obtain ⟨D, hD⟩ : ∃ D : Bool, decide (q = sh ∧ wh = wh ∧ rq = rs) = D := ⟨_, rfl⟩
                have HC1 := Lib.hid (fun s : Since w14 => (Same_any q sh wh wh qa sa qn ls.length qc sc rq rs (by omega) (by omega) hc1 hc2 s.val (HR14.out.below s.property) (HS14.out.below s.property)).mono (R' := fun e w' => e = .returned (.bool D) ∧ Below s.val.heap.size s.val w') (fun e w' he => ⟨by rw [he.1, hD], he.2⟩))
                have HC2 := Lib.hid (fun s : Since w14 => (refSame_any q sh wh wh qa sa qn ls.length qc sc rq rs (by omega) (by omega) hc1 hc2 s.val (HR14.out.below s.property) (HS14.out.below s.property)).mono (R' := fun e w' => e = .returned (.bool D) ∧ Below s.val.heap.size s.val w') (fun e w' he => ⟨by rw [he.1, hD], he.2⟩))
                have dq : (((er : Nat) : Int) != ((er : Nat) : Int)) = false := by simp
                have dD : (D != D) = false := by simp
                clear hc1 hc2 hD
                refine wp_region_below (by kernel_rfl) (by kernel_rfl) ?_
                repeat (go_big_quiet_step ((first | (go_at_call 17; exact calls_since _ (HEQ.out _)) | (go_at_call 27; exact calls_since _ (HC1.out _)) | (go_at_call 28; exact calls_since _ (HC2.out _)))))
                refine wpQuiet_nil ?_
                intro w15 hb15
                have hb0 := hb0.trans (hb15.mono hb0.size)
                clear hb15 z0 z1 z2 z3 z4 z5 z6 t0 t1 t2 t3 t4 t5 t6
                go_wp2_with fail
                go_roundw
                case rel => exact ⟨j + 1, by omega, by go_num, hb0⟩
                case measure => simp [intOf]; omega
              · obtain rfl : j = 2 := by omega
                have hend := hbK.trans (hb.mono hbK.size)
                go_wp2_with fail
                go_ret
                exact ⟨rfl, hend⟩
end Go.Proofs.YtkgdogccnkjcgaaDoor
