/-
  A QUEUE of vertices (a slice that is appended to and cut at its front), and the WALK of circulation.search's around. (Filled in from a template of this repo.)
-/
import Derived.Test.YthoehobofdeifaaCirL
import Derived.Test.YthoehobofdeifaaCirN
import Derived.ArgAppend
namespace Go.Proofs.Ythoehobofdeifaa
open Go.ChangeShapes Go.WideShapes Go.ChangeAt Go.RowKit
set_option linter.unusedVariables false

/-- block b holds a queue from off on -/
structure Que (w : World) (b off cap : Nat) (xs : List Nat) : Prop where
  row : ∃ cur, w.heap[b]? = some (.cells cur 3 (0, 0)) ∧ off + cap ≤ cur.size ∧ ∀ j (u : Nat), xs[j]? = some u → cur[off + j]? = some (.int .i64 (u : Int))
  le : xs.length ≤ cap
  cm : cap ≤ maxLen
theorem Que.keep {w w' : World} {b off cap : Nat} {xs : List Nat} (h : Que w b off cap xs) (hk : w'.heap[b]? = w.heap[b]?) : Que w' b off cap xs := by
  obtain ⟨cur, h1, h2⟩ := h.row
  exact ⟨⟨cur, hk.trans h1, h2⟩, h.le, h.cm⟩
theorem Que.lt {w : World} {b off cap : Nat} {xs : List Nat} (h : Que w b off cap xs) : b < w.heap.size := by
  obtain ⟨cur, h1, _⟩ := h.row
  exact (Array.getElem?_eq_some_iff.1 h1).1
theorem Que.below {w w' : World} {b off cap : Nat} {xs : List Nat} (h : Que w b off cap xs) (hb : Below w.heap.size w w') : Que w' b off cap xs := h.keep (hb.block b h.lt)
theorem Que.cell {w : World} {b off cap : Nat} {xs : List Nat} (h : Que w b off cap xs) {j u : Nat} (hj : xs[j]? = some u) : w.cell? ⟨b, off + j, none⟩ = some (.int .i64 (u : Int)) := by
  obtain ⟨cur, h1, h2, h3⟩ := h.row
  rw [cell_of_row w b (off + j) _ _ _ h1]; exact h3 j u hj
theorem Que.ne {w : World} {b off cap : Nat} {xs : List Nat} (h : Que w b off cap xs) {b' : Nat} {t : TypeId} {n : Nat} {F : Nat → Value} (h' : VRow w b' t n F) (hne : 3 ≠ t) : b ≠ b' := by
  rintro rfl
  obtain ⟨cur, h1, _⟩ := h.row
  unfold VRow at h'
  rw [h1] at h'
  injection h' with h'
  injection h' with _ ht
  exact hne ht
theorem Que.pop {w : World} {b off cap u : Nat} {xs : List Nat} (h : Que w b off cap (u :: xs)) : (cap = 1 → Que w b off (cap - 1) xs ∧ xs = []) ∧ (cap ≠ 1 → Que w b (off + 1) (cap - 1) xs) := by
  obtain ⟨cur, h1, h2, h3⟩ := h.row
  have hle := h.le
  have hcm := h.cm
  simp only [List.length_cons] at hle
  refine ⟨fun e => ?_, fun e => ⟨⟨cur, h1, by omega, fun j v hj => ?_⟩, by omega, by omega⟩⟩
  · have : xs = [] := List.eq_nil_of_length_eq_zero (by omega)
    subst this
    exact ⟨⟨⟨cur, h1, by omega, fun j v hj => by simp at hj⟩, by simp, by omega⟩, rfl⟩
  · have := h3 (j + 1) v (by simpa using hj)
    rwa [show off + 1 + j = off + (j + 1) by omega]
theorem Que.push {w : World} {b off cap : Nat} {xs : List Nat} (h : Que w b off cap xs) (hr : xs.length + 1 ≤ cap) (y : Nat) : Que (w.setCell ⟨b, off + xs.length, none⟩ (.int .i64 (y : Int))) b off cap (xs ++ [y]) := by
  obtain ⟨cur, h1, h2, h3⟩ := h.row
  refine ⟨⟨_, heap_setCell_same w b (off + xs.length) cur _ (.int .i64 (y : Int)) h1, by simpa using h2, fun j u hj => ?_⟩, by simpa using hr, h.cm⟩
  rw [Array.getElem?_setIfInBounds]
  by_cases e : xs.length = j
  · subst e
    rw [List.getElem?_concat_length] at hj
    injection hj with hj
    subst hj
    rw [if_pos rfl, if_pos (by omega)]
  · rw [if_neg (by omega)]
    have : j < xs.length := by have := (List.getElem?_eq_some_iff.1 hj).1; simp at this; omega
    rw [List.getElem?_append_left this] at hj
    exact h3 j u hj
theorem natInts_get (xs : List Nat) (j : Nat) (u : Value) (h : (xs.map fun (x : Nat) => Value.int .i64 (x : Int))[j]? = some u) : ∃ x : Nat, xs[j]? = some x ∧ u = .int .i64 (x : Int) := by
  rw [List.getElem?_map] at h
  cases hx : xs[j]? with
  | none => rw [hx] at h; cases h
  | some x => rw [hx] at h; injection h with h; exact ⟨x, rfl, h.symm⟩
theorem wpList_append_que {w : World} {ops : Array Oper} {rest : List Oper} {o : Oper} {a : Act} {Q : Exit → Act → World → Prop} (hg : o.guard = none) (s x : Operand)
    (hop : o.op = Op.call { callee := Callee.builtin Builtin.append, args := #[s, x], argTypes := #[26, 26] })
    (b off cap : Nat) (xs : List Nat) (hs : a.eval s = .slice (some ⟨b, off, none⟩) xs.length cap) (hq : Que w b off cap xs) (g y : Nat) (hx : a.eval x = .slice (some ⟨g, 0, none⟩) 1 1) (hc : w.cell? ⟨g, 0, none⟩ = some (.int .i64 (y : Int))) (hl : xs.length + 1 ≤ 1000000)
    (h : ∀ b' off' cap' w', Que w' b' off' cap' (xs ++ [y]) → (b' = b ∨ w.heap.size ≤ b') → w.grownBy w' (some b) → wpList Try.prog ops Q rest (a.put o.dst (.slice (some ⟨b', off', none⟩) (xs.length + 1) cap')) w') :
    wpList Try.prog ops Q (o :: rest) a w := by
  obtain ⟨i, hi, hz, hz1, hz2⟩ := info_parts Try.infoInt
  obtain ⟨cur, h1, h2, h3⟩ := hq.row
  refine wpList_append_arg w hg s x 26 hop 3 i (.int .i64 0) 1 8 Try.underlying26 hi hz hz1 hz2 rfl (by omega) b off xs.length cap (xs.map fun (x : Nat) => Value.int .i64 (x : Int)) hs (by simp) (fun j u hj => ?_) ⟨g, 0, none⟩ 1 1 [.int .i64 (y : Int)] hx rfl (fun j u hj => ?_) (by simp [Value.oneCell']) (fun hr j hj => ?_) (by unfold maxLen; omega) (by omega) (fun hr => ?_) (fun hr v' w' hown hgr => ?_)
  · obtain ⟨v, hv, rfl⟩ := natInts_get xs j u hj
    exact hq.cell hv
  · have : j = 0 := by have := (List.getElem?_eq_some_iff.1 hj).1; simp at this; omega
    subst this
    simp at hj
    subst hj
    rw [add_none]; exact hc
  · have : j = 0 := by simp at hj; omega
    subst this
    refine ⟨?_, frozen_of_row _ _ _ _ _ h1⟩
    rw [cell_of_row w b _ _ _ _ h1, Array.getElem?_eq_getElem (by omega)]; rfl
  · rw [Nat.mul_one]
    exact h b off cap _ (hq.push hr y) (.inl rfl) (grownBy_set w b _ _)
  · have hb : ∃ g' cap', v' = .slice (some ⟨g', 0, none⟩) (xs.length + 1) cap' ∧ w.heap.size ≤ g' ∧ Que w' g' 0 cap' (xs ++ [y]) := by
      have hlen := hown.1
      rcases hown.2 with ⟨_, h0⟩ | ⟨g', cap', cur', rfl, hb, hgg, hnc, hcm, hcs, htk⟩
      · omega
      · refine ⟨g', cap', rfl, hb, ⟨⟨cur', hgg, by omega, fun j u hj => ?_⟩, by simpa using hnc, hcm⟩⟩
        rw [Nat.zero_add]
        have hjl : j < xs.length + 1 := by have := (List.getElem?_eq_some_iff.1 hj).1; simpa using this
        have e1 : ((xs.map fun (x : Nat) => Value.int .i64 (x : Int)) ++ [Value.int .i64 (y : Int)])[j]? = some (.int .i64 (u : Int)) := by
          rw [show (xs.map fun (x : Nat) => Value.int .i64 (x : Int)) ++ [Value.int .i64 (y : Int)] = (xs ++ [y]).map fun (x : Nat) => Value.int .i64 (x : Int) by simp, List.getElem?_map, hj]; rfl
        rw [← htk, List.getElem?_take, if_pos (by omega)] at e1
        simpa using e1
    obtain ⟨g', cap', rfl, hge, hq'⟩ := hb
    exact h g' 0 cap' w' hq' (.inr hge) ⟨hgr.os, hgr.tape, hgr.output, hgr.size, fun k hk _ => hgr.block k hk (by simp)⟩
theorem Que.of_row {w : World} {b n : Nat} {F : Nat → Value} (h : VRow w b 3 n F) {xs : List Nat} (hx : ∀ j (u : Nat), xs[j]? = some u → j < n ∧ F j = .int .i64 (u : Int)) (hl : xs.length ≤ n) (hn : n ≤ maxLen) : Que w b 0 n xs :=
  ⟨⟨_, h, by rw [vrow_size]; omega, fun j u hj => by
    obtain ⟨h1, h2⟩ := hx j u hj
    rw [Nat.zero_add, vrow_get n F j h1, h2]⟩, hl, hn⟩
theorem VRow.one (w : World) (t : TypeId) (v : Value) {b : Nat} (hb : b = w.heap.size) : VRow (w.alloc (.cells #[v] t)) b t 1 (fun _ => v) := VRow.new w t 1 (fun _ => v) hb
theorem Que.one {w : World} {b u : Nat} (h : VRow w b 3 1 (fun _ => .int .i64 (u : Int))) : Que w b 0 1 [u] := Que.of_row h (fun j v hj => by
  have hj0 : j = 0 := by have := (List.getElem?_eq_some_iff.1 hj).1; simp at this; omega
  subst hj0
  simp at hj
  subst hj
  exact ⟨by omega, rfl⟩) (by simp) (by simp [maxLen])
/-- the rows of around -/
structure QR (N : Nw) (w0 : World) (gs gb : Nat) (S : Nat → Bool) (bk : Nat → Sp) (b off cap : Nat) (Q : List Nat) (w : World) : Prop where
  rs : BRow w gs N.V S
  rb : SRow w gb N.V bk
  rq : Que w b off cap Q
  ns : w0.heap.size ≤ gs
  nb : w0.heap.size ≤ gb
  nq : w0.heap.size ≤ b
  below : Below w0.heap.size w0 w
section
variable {N : Nw} {w0 w : World} {gs gb b off cap : Nat} {S : Nat → Bool} {bk : Nat → Sp} {Q : List Nat}
theorem QR.more (h : QR N w0 gs gb S bk b off cap Q w) {w' : World} (hb : Below w.heap.size w w') : QR N w0 gs gb S bk b off cap Q w' :=
  ⟨VRow.below h.rs hb h.rs.lt, VRow.below h.rb hb h.rb.lt, h.rq.below hb, h.ns, h.nb, h.nq, h.below.trans (hb.mono h.below.size)⟩
theorem QR.ne (h : QR N w0 gs gb S bk b off cap Q w) : gs ≠ gb ∧ b ≠ gs ∧ b ≠ gb := ⟨VRow.ne h.rs h.rb (by decide), h.rq.ne h.rs (by decide), h.rq.ne h.rb (by decide)⟩
theorem QR.mark (h : QR N w0 gs gb S bk b off cap Q w) (v : Nat) (x : Sp) :
    QR N w0 gs gb (mark S v) (upd bk v x) b off cap Q (((w.setCell ⟨gs, v, none⟩ (.bool true)).setCell ⟨gb, v * 2, none⟩ (.int .i64 (x.i : Int))).setCell ⟨gb, v * 2 + 1, none⟩ (.bool (!x.fw))) := by
  obtain ⟨n1, n2, n3⟩ := h.ne
  refine ⟨VRow.off (VRow.off (VRow.set h.rs v _ _ (by unfold Go.Proofs.Ythoehobofdeifaa.mark; simp) (fun j _ hj => by unfold Go.Proofs.Ythoehobofdeifaa.mark; rw [if_neg hj])) _ n1) _ n1, SRow.put (VRow.off h.rb _ n1.symm) v x, ?_, h.ns, h.nb, h.nq, ((h.below.setCell h.ns _).setCell h.nb _).setCell h.nb _⟩
  refine h.rq.keep ?_
  rw [heap_setCell_other _ _ _ _ n3, heap_setCell_other _ _ _ _ n3, heap_setCell_other _ _ _ _ n2]
theorem QR.app (h : QR N w0 gs gb S bk b off cap Q w) {o : Obj} {w' : World} {b' off' cap' : Nat} {Q' : List Nat} (hg : (w.alloc o).grownBy w' (some b)) (hq : Que w' b' off' cap' Q') (hb : b' = b ∨ (w.alloc o).heap.size ≤ b') :
    QR N w0 gs gb S bk b' off' cap' Q' w' := by
  obtain ⟨n1, n2, n3⟩ := h.ne
  have hs : (w.alloc o).heap.size = w.heap.size + 1 := by simp
  have h0 := h.below.size
  have hr := (h.rs.alloc o).lt
  have hr2 := (h.rb.alloc o).lt
  exact ⟨(h.rs.alloc o).keep (hg.block gs hr (fun e => by injection e with e; exact n2 e.symm)), (h.rb.alloc o).keep (hg.block gb hr2 (fun e => by injection e with e; exact n3 e.symm)), hq, h.ns, h.nb,
    by have := h.nq; rcases hb with e | e <;> omega, below_grown1 (h.below.alloc h0 o) hg (by omega) h.nq⟩
end
/-- what around leaves -/
def ArPost (N : Nw) (f : Nat → Int) (z : Nat → Bool) (fm to_ : Nat) (w : World) (e : Ending) (w' : World) : Prop := Below w.heap.size w w' ∧
  ((∃ l a c, e = .returned (.tuple #[.slice a (List.length l) c, .bool true]) ∧ Stps w' a l ∧ (∀ x, a = some x → w.heap.size ≤ x.block) ∧ l.length ≤ 520 ∧ Wk N fm l to_ ∧ l.Pairwise (fun s t => s.i ≠ t.i) ∧ ∀ s ∈ l, s.i < N.m ∧ 0 < N.rz f z s) ∨
   (e = .returned (.tuple #[.slice none 0 0, .bool false]) ∧ ∃ R : Nat → Bool, R fm = true ∧ R to_ = false ∧ ∀ s : Sp, s.i < N.m → 0 < N.rz f z s → R (N.beg s) = true → R (N.fin s) = true))
set_option maxRecDepth 100000 in
set_option maxHeartbeats 4000000 in
theorem around_any (N : Nw) (hv : N.valid) (K : Lay) (g : Nat) (f : Nat → Int) (z : Nat → Bool) (hbd : N.bd f) (fm to_ : Nat) (hfm : fm < N.V) (hto : to_ < N.V) (w : World) (h : Srch w g N K) (hf : IRow w K.gf N.m f) (hz : BRow w K.gc N.m z) :
    Calls Try.prog 56 #[.pointer (some ⟨g, 0, none⟩), .int .i64 (fm : Int), .int .i64 (to_ : Int)] w (ArPost N f z fm to_ w) := by
  have c0 := h.cells.1
  have hg := h.lt
  have hV2 := hv.V2
  have mk2 := make_steps N.V (by omega)
  have mk3 := make_bools N.V (by omega)
  have HS := Lib.hid h
  have HF := Lib.hid hf
  have HZ := Lib.hid hz
  have HV := Lib.hid hv
  have HB := Lib.hid hbd
  clear h hf hz hv hbd
  go_enter Try.func56, Try.ntmps56
  go_wp2
  go_cut [8, 9, 10] from 14 to 27 (fun v8 v9 v10 wx => ∃ gb gs b : Nat, v8 = .slice (some ⟨gb, 0, none⟩) N.V N.V ∧ v9 = .slice (some ⟨gs, 0, none⟩) N.V N.V ∧ v10 = .slice (some ⟨b, 0, none⟩) 1 1 ∧ QR N w gs gb (fun _ => false) (fun _ => ⟨0, true⟩) b 0 1 [fm] wx)
  case first =>
    go_region
    all_goals
      go_wp2
      go_meet
      refine ⟨_, _, _, rfl, rfl, rfl, ⟨?_, ?_, Que.one ?_, ?_, ?_, ?_, ?_⟩⟩
      any_goals (simp; done)
      any_goals first | exact VRow.new _ _ _ _ (by simp) | exact (VRow.new _ _ _ _ (by simp)).alloc _ | exact ((VRow.new _ _ _ _ (by simp)).alloc _).alloc _ | exact VRow.one _ _ _ (by simp) | exact (VRow.one _ _ _ (by simp)).alloc _ | exact ((VRow.one _ _ _ (by simp)).alloc _).alloc _
      any_goals omega
      any_goals exact ((((Below.refl _ _).alloc (Nat.le_refl _) _).alloc (by simp) _).alloc (by simp; omega) _).drew
  case rest =>
    obtain ⟨gb, gs, b, rfl, rfl, rfl, hR⟩ := hcut
    clear mk2 mk3
    have q1 := hR.rs.cell fm hfm
    have q2 := hR.rs.frozen fm
    have q3 := hR.rs.lt
    have HR := Lib.hid hR
    clear hR
    go_wp2
    have hR2 : QR N w gs gb (mark (fun _ => false) fm) (fun _ => ⟨0, true⟩) b 0 1 [fm] (wc.setCell ⟨gs, fm, none⟩ (.bool true)) := by
      obtain ⟨n1, n2, n3⟩ := HR.out.ne
      exact ⟨VRow.set HR.out.rs fm _ _ (by unfold mark; simp) (fun j _ hj => by unfold mark; rw [if_neg hj]), VRow.off HR.out.rb _ n1.symm, HR.out.rq.keep (heap_setCell_other _ _ _ _ n2), HR.out.ns, HR.out.nb, HR.out.nq, HR.out.below.setCell HR.out.ns _⟩
    generalize (wc.setCell ⟨gs, fm, none⟩ (.bool true)) = w1 at *
    clear q1 q2 q3 HR wc
    have HR2 := Lib.hid hR2
    clear hR2
    go_loopg [10] N.V (fun n v10 wr => ∃ (S : Nat → Bool) (bk : Nat → Sp) (rk : Nat → Nat) (b off cap : Nat) (Q : List Nat), n = (N.V - nD S N.V) + Q.length ∧ v10 = .slice (some ⟨b, off, none⟩) Q.length cap ∧ Hid (Bf N f z fm S bk rk Q) ∧ Hid (QR N w gs gb S bk b off cap Q wr))
    case atStart => exact ⟨_, _, _, b, 0, 1, [fm], by rw [nD_one, if_pos hfm]; simp; omega, rfl, Lib.hid (Bf.start f z hfm _), HR2⟩
    case round =>
      obtain ⟨S, bk, rk, b, off, cap, Q, hgk, rfl, HBf, HR⟩ := hrel
      have hgk' := Lib.hid hgk
      clear hgk HR2
      obtain ⟨w2, rfl⟩ : ∃ w2 : World, w2 = wr := ⟨_, rfl⟩
      clear w1
      have q1 := HR.out.rs.cell to_ hto
      have q2 := HR.out.rs.lt
      by_cases hQ : 0 < Q.length ∧ S to_ = false
      · obtain ⟨hQ0, hSt⟩ := hQ
        rw [hSt] at q1
        obtain ⟨u, R, rfl⟩ : ∃ u R, Q = u :: R := by
          cases Q with
          | nil => simp at hQ0
          | cons u R => exact ⟨u, R, rfl⟩
        simp only [List.length_cons] at *
        have hS := HS.out.below HR.out.below
        have huS := HBf.out.que u (by simp)
        have huV := HBf.out.lt u huS
        have q3 := HR.out.rq.cell (j := 0) (u := u) rfl
        rw [Nat.add_zero] at q3
        obtain ⟨sa, sc, hat0, hst, _⟩ := HS.out.ats u huV
        have hq0 : K.gt < w.heap.size := block_lt_of_cell hat0
        have hat := (HR.out.below.cell (p := ⟨K.gt, u, none⟩) hq0).trans hat0
        have c3 := hS.cells.2.2.2.1
        have HSL := Lib.hid (HS.out.S_ok u huV)
        have hSn := HS.out.S_len u huV
        have hm2 := HV.out.m2
        have hg3 := hS.lt
        have hgt : K.gt < w2.heap.size := block_lt_of_cell hat
        have hbq := HR.out.rq.lt
        have HST := Lib.hid hst
        have HUS := Lib.hid huS
        clear hS hst hat0 huS
        obtain ⟨L, hL⟩ : ∃ L, K.S u = L := ⟨_, rfl⟩
        rw [hL] at hat hSn HST HSL
        have HLS := Lib.hid hL
        clear hL
        go_wp2_with fail
        go_quiet (fail)
        go_wp2_with fail
        have HR4 := Lib.hid (HR.out.more (below_drewN (Below.refl _ _) nq))
        generalize (w2.drewN nq) = w4 at *
        clear q1 q2 q3 c3 hat hgt hg3 HR hbq hq0
        have HG : Hid ((N.V - nD S N.V) + (R.length + 1) = gk) := Lib.hid (by rw [hgk'.out])
        go_loopw [10, 51] (fun v10 v51 wr => ∃ (j : Nat) (S : Nat → Bool) (bk : Nat → Sp) (rk : Nat → Nat) (b off cap : Nat) (R : List Nat), j ≤ L.length ∧ v51 = .int .i64 j ∧ v10 = .slice (some ⟨b, off, none⟩) (R.length + 1) cap ∧ Hid (Bf N f z fm S bk rk (u :: R)) ∧ Hid (∀ s ∈ L.take j, 0 < N.rz f z s → S (N.fin s) = true) ∧ Hid ((N.V - nD S N.V) + (R.length + 1) = gk) ∧ Hid (QR N w gs gb S bk b off cap (u :: R) wr)) (fun _ v _ => L.length - (intOf v).toNat)
        case atStart => exact ⟨0, S, bk, rk, b, off, cap, R, by omega, rfl, rfl, HBf, Lib.hid (fun s hs => by simp at hs), HG, HR4⟩
        case round =>
          obtain ⟨j, S1, bk1, rk1, b1, off1, cap1, R1, hj, rfl, rfl, HB1, HT1, HG1, HR1⟩ := hrel
          by_cases hlt : j < L.length
          · obtain ⟨s, hs, hsm⟩ := get_lt hlt
            obtain ⟨hsi, hsb⟩ := (HSL.out s).1 hsm
            have HTK := Lib.hid (take_snoc_get L j s hs)
            have HSB := Lib.hid hsb
            obtain ⟨bs, offs, rfl, hbl, k0, k1⟩ := HST.out.below HR1.out.below j s hs
            have hfin := fin_lt HV.out.ok hsi
            have hrz := rz_bd HV.out HB.out z s hsi
            obtain ⟨r0, r1⟩ := hrz
            clear hs hsm hsb
            have hba : Below w.heap.size w (wr.alloc (.cells #[.int .i64 (s.i : Int), .bool (!s.fw)] 75)) := HR1.out.below.alloc HR1.out.below.size _
            go_wp2_with fail
            refine (end_any s N K g hsi _ (HS.out.below hba)).mono ?_
            rintro e w5 ⟨rfl, hb5⟩
            have v0 : (wr.alloc (.cells #[.int .i64 (s.i : Int), .bool (!s.fw)] 75)).cell? ⟨wr.heap.size, 0, none⟩ = some (.int .i64 (s.i : Int)) := by simp [go_sem]
            have v1 : (wr.alloc (.cells #[.int .i64 (s.i : Int), .bool (!s.fw)] 75)).cell? ⟨wr.heap.size, 1, none⟩ = some (.bool (!s.fw)) := by simp [go_sem]
            have hgv : wr.heap.size < (wr.alloc (.cells #[.int .i64 (s.i : Int), .bool (!s.fw)] 75)).heap.size := by simp
            have hR5 := HR1.out.more (((Below.refl _ _).alloc (Nat.le_refl _) (.cells #[.int .i64 (s.i : Int), .bool (!s.fw)] 75)).trans (hb5.mono (by simp)))
            have z3 : gs ≠ wr.heap.size := by have := HR1.out.rs.lt; omega
            have z4 : gb ≠ wr.heap.size := by have := HR1.out.rb.lt; omega
            replace v0 := (hb5.cell (p := ⟨wr.heap.size, 0, none⟩) hgv).trans v0
            replace v1 := (hb5.cell (p := ⟨wr.heap.size, 1, none⟩) hgv).trans v1
            replace hgv : wr.heap.size < w5.heap.size := by have := hb5.size; omega
            have HR5 := Lib.hid hR5
            have Z3 := Lib.hid z3
            have Z4 := Lib.hid z4
            clear hb5 hba hR5 z3 z4 HR1 k0 k1 hbl
            generalize wr.heap.size = gv at *
            clear wr
            have q1 := HR5.out.rs.cell (N.fin s) hfin
            have q2 := HR5.out.rs.lt
            cases hSv : S1 (N.fin s)
            · rw [hSv] at q1
              have HSV := Lib.hid hSv
              clear hSv
              go_wp2_with fail
              refine (room_any s N HV.out K g f z HB.out hsi _ (HS.out.below HR5.out.below) (VRow.below HF.out HR5.out.below HF.out.lt) (VRow.below HZ.out HR5.out.below HZ.out.lt)).mono ?_
              rintro e w6 ⟨rfl, hb6⟩
              have hR6 := HR5.out.more hb6
              replace v0 := (hb6.cell (p := ⟨gv, 0, none⟩) hgv).trans v0
              replace v1 := (hb6.cell (p := ⟨gv, 1, none⟩) hgv).trans v1
              replace hgv : gv < w6.heap.size := by have := hb6.size; omega
              have HR6 := Lib.hid hR6
              clear hb6 hR6 HR5 q1 q2
              clear w5
              by_cases hrp : 0 < N.rz f z s
              · have HTK2 := HB1.out.take HV.out.ok hsi (by rw [HSB.out]; exact HB1.out.que u (by simp)) HSV.out hrp
                have HBT := Lib.hid HTK2.1
                have HCN := Lib.hid HTK2.2
                have hnV := nD_le (mark S1 (N.fin s)) N.V
                have hQl := HBT.out.len
                rw [HCN.out] at hnV hQl
                simp only [List.length_append, List.length_cons, List.length_nil] at hQl
                have HT2 : Hid (∀ t ∈ L.take (j + 1), 0 < N.rz f z t → mark S1 (N.fin s) (N.fin t) = true) := Lib.hid (fun t ht hrt => by
                  rw [HTK.out, List.mem_append] at ht
                  unfold mark
                  by_cases e : N.fin t = N.fin s
                  · rw [if_pos e]
                  · rw [if_neg e]
                    rcases ht with ht | ht
                    · exact HT1.out t ht hrt
                    · rw [List.mem_singleton.1 ht] at e; exact absurd rfl e)
                clear HTK2
                obtain ⟨r, hr⟩ : ∃ r, N.rz f z s = r := ⟨_, rfl⟩
                rw [hr] at hrp r0 r1 ⊢
                have HRZ := Lib.hid hr
                clear hr
                go_upto_region 9 with fail
                have z3 := Z3.out
                have z4 := Z4.out
                have z5 := HR6.out.ne.1
                have z6 := z3.symm
                have z7 := z4.symm
                have z8 := z5.symm
                have a1 := HR6.out.rs.cell (N.fin s) hfin
                have a2 := HR6.out.rs.frozen (N.fin s)
                have a3 := HR6.out.rb.cell (N.fin s * 2) (by omega)
                have hf2 : N.fin s * 2 + 1 < N.V * 2 := by omega
                have a4 := HR6.out.rb.cell (N.fin s * 2 + 1) hf2
                have a5 := HR6.out.rb.frozen (N.fin s * 2)
                have a6 := HR6.out.rb.frozen (N.fin s * 2 + 1)
                have a7 := HR6.out.rs.lt
                have a8 := HR6.out.rb.lt
                have hR7 := (HR6.out.mark (N.fin s) s).more (Below.refl _ _).drew
                have HR7 := Lib.hid hR7
                have HG2 : Hid ((N.V - nD (mark S1 (N.fin s)) N.V) + ((R1 ++ [N.fin s]).length + 1) = gk) := Lib.hid (by rw [HCN.out, ← HG1.out]; simp; omega)
                clear hR7 hf2
                go_region
                all_goals
                  generalize ((((w6.setCell ⟨gs, N.fin s, none⟩ (.bool true)).setCell ⟨gb, N.fin s * 2, none⟩ (.int .i64 (s.i : Int))).setCell ⟨gb, N.fin s * 2 + 1, none⟩ (.bool (!s.fw))).drew) = w7 at *
                  clear a1 a2 a3 a4 a5 a6 a7 a8 v0 v1 HR6 hgv
                  have HQ7 := Lib.hid (HR7.out.rq.below ((Below.refl _ _).alloc (Nat.le_refl _) (.cells #[.int .i64 (N.fin s : Int)] 3)))
                  have HNC : Hid ((w7.alloc (.cells #[.int .i64 (N.fin s : Int)] 3)).cell? ⟨w7.heap.size, 0, none⟩ = some (.int .i64 (N.fin s : Int))) := Lib.hid (by rw [cell_of_row _ _ 0 _ _ _ (heap_alloc_new w7 _)]; rfl)
                  have hlen : (u :: R1).length + 1 ≤ 1000000 := by simp; omega
                  have HLEN := Lib.hid hlen
                  clear hlen
                  go_wp2_with (at_builtin; refine wpList_append_que rfl _ _ rfl b1 off1 cap1 (u :: R1) rfl HQ7.out w7.heap.size (N.fin s) rfl HNC.out HLEN.out ?_; intro b2 off2 cap2 w8 hq8 hb8 hg8; have HR8 := Lib.hid (HR7.out.app hg8 hq8 hb8); clear hq8 hb8 hg8)
                  exact ⟨⟨j + 1, _, _, _, b2, off2, cap2, R1 ++ [N.fin s], by omega, by go_num, by simp, HBT, HT2, HG2, HR8⟩, by simp [intOf]; omega⟩
              · have HT2 : Hid (∀ t ∈ L.take (j + 1), 0 < N.rz f z t → S1 (N.fin t) = true) := Lib.hid (fun t ht hrt => by
                  rw [HTK.out, List.mem_append] at ht
                  rcases ht with ht | ht
                  · exact HT1.out t ht hrt
                  · rw [List.mem_singleton.1 ht] at hrt; exact absurd hrt hrp)
                have d4 : decide (0 < N.rz f z s) = false := by simpa using hrp
                go_wp2_with fail
                exact ⟨⟨j + 1, S1, bk1, rk1, b1, off1, cap1, R1, by omega, by go_num, rfl, HB1, HT2, HG1, HR6⟩, by simp [intOf]; omega⟩
            · rw [hSv] at q1
              have HT2 : Hid (∀ t ∈ L.take (j + 1), 0 < N.rz f z t → S1 (N.fin t) = true) := Lib.hid (fun t ht hrt => by
                rw [HTK.out, List.mem_append] at ht
                rcases ht with ht | ht
                · exact HT1.out t ht hrt
                · rw [List.mem_singleton.1 ht]; exact hSv)
              clear hSv
              go_wp2_with fail
              exact ⟨⟨j + 1, S1, bk1, rk1, b1, off1, cap1, R1, by omega, by go_num, rfl, HB1, HT2, HG1, HR5⟩, by simp [intOf]; omega⟩
          · obtain rfl : j = L.length := by omega
            have hcl : ∀ s : Sp, s.i < N.m → N.beg s = u → 0 < N.rz f z s → S1 (N.fin s) = true := fun s hsi hsb hr => HT1.out s (by rw [List.take_length]; exact (HSL.out s).2 ⟨hsi, hsb⟩) hr
            have HPOP := Lib.hid (HB1.out.pop hcl)
            have hpq := HR1.out.rq.pop
            have hle := HR1.out.rq.le
            simp only [List.length_cons] at hle
            have HG2 : Hid ((N.V - nD S1 N.V) + R1.length < gk) := Lib.hid (by have := HG1.out; omega)
            by_cases hc1 : cap1 = 1
            · have HQ2 := Lib.hid (hpq.1 hc1).1
              have HNIL := Lib.hid (hpq.1 hc1).2
              clear hpq hcl
              subst hc1
              go_wp2
              go_roundg ((N.V - nD S1 N.V) + R1.length)
              case rel => exact ⟨S1, bk1, rk1, b1, off1, _, R1, rfl, by rw [HNIL.out]; simp, HPOP, Lib.hid ⟨HR1.out.rs, HR1.out.rb, HQ2.out, HR1.out.ns, HR1.out.nb, HR1.out.nq, HR1.out.below⟩⟩
              case measure => exact HG2.out
            · have HQ2 := Lib.hid (hpq.2 hc1)
              clear hpq hcl
              go_wp2
              go_roundg ((N.V - nD S1 N.V) + R1.length)
              case rel => exact ⟨S1, bk1, rk1, b1, off1 + 1, _, R1, rfl, by simp, HPOP, Lib.hid ⟨HR1.out.rs, HR1.out.rb, HQ2.out, HR1.out.ns, HR1.out.nb, HR1.out.nq, HR1.out.below⟩⟩
              case measure => exact HG2.out
      · cases hSt : S to_
        · have hQ0 : Q = [] := by
            cases Q with
            | nil => rfl
            | cons u R => exact absurd ⟨by simp, hSt⟩ hQ
          subst hQ0
          rw [hSt] at q1
          have HNO : Hid (∃ R : Nat → Bool, R fm = true ∧ R to_ = false ∧ ∀ s : Sp, s.i < N.m → 0 < N.rz f z s → R (N.beg s) = true → R (N.fin s) = true) := Lib.hid ⟨S, HBf.out.root, hSt, fun s hsi hr hb => by
            rcases HBf.out.clo _ hb with h1 | h1
            · cases h1
            · exact h1 s hsi rfl hr⟩
          clear hQ hSt
          simp only [List.length_nil] at *
          go_wp2_with fail
          go_ret2
          exact ⟨HR.out.below, .inr ⟨rfl, HNO.out⟩⟩
        · rw [hSt] at q1
          obtain ⟨l, hPw, hlen, hWk, hpw, hl⟩ := HBf.out.found HV.out hSt
          have HPW := Lib.hid hPw
          have HPAIR := Lib.hid hpw
          have HWK := Lib.hid hWk
          have HL := Lib.hid hl
          have hlen2 : l.length ≤ 100000 := by omega
          clear hPw hpw hWk hl hSt hQ
          by_cases hQ0 : Q.length = 0
          · rw [hQ0]
            clear hQ0
            go_wp2_with fail
            refine (walk_any N K g bk fm to_ HV.out l hlen2 HPW.out hto gb N.V (Nat.le_refl _) _ (HS.out.below HR.out.below) HR.out.rb).mono ?_
            rintro e w5 ⟨a, c, rfl, hst, hnew, hbw⟩
            have HST := Lib.hid hst
            have HNEW := Lib.hid hnew
            have HBW := Lib.hid (HR.out.below.trans (hbw.mono HR.out.below.size))
            clear hst hnew hbw
            go_wp2_with fail
            go_ret2
            exact ⟨HBW.out, .inl ⟨l, a, c, rfl, HST.out, fun x hx => by have := HNEW.out x hx; have := HR.out.below.size; omega, hlen, HWK.out, HPAIR.out, HL.out⟩⟩
          · have hQ1 : 0 < Q.length := by omega
            clear hQ0
            go_wp2_with fail
            refine (walk_any N K g bk fm to_ HV.out l hlen2 HPW.out hto gb N.V (Nat.le_refl _) _ (HS.out.below HR.out.below) HR.out.rb).mono ?_
            rintro e w5 ⟨a, c, rfl, hst, hnew, hbw⟩
            have HST := Lib.hid hst
            have HNEW := Lib.hid hnew
            have HBW := Lib.hid (HR.out.below.trans (hbw.mono HR.out.below.size))
            clear hst hnew hbw
            go_wp2_with fail
            go_ret2
            exact ⟨HBW.out, .inl ⟨l, a, c, rfl, HST.out, fun x hx => by have := HNEW.out x hx; have := HR.out.below.size; omega, hlen, HWK.out, HPAIR.out, HL.out⟩⟩
end Go.Proofs.Ythoehobofdeifaa
