/-
  WALKS of the small methods of circulation.search: end, begin, room, price.
-/
import Derived.Test.YthoehobofdeifaaRows
import Derived.Test.YthoehobofdeifaaCirW
namespace Go.Proofs.Ythoehobofdeifaa
open Go.ChangeShapes Go.WideShapes Go.ChangeAt Go.RowKit
set_option linter.unusedVariables false

theorem end_any (s : Sp) (N : Nw) (K : Lay) (g : Nat) (hi : s.i < N.m) (w : World) (h : Srch w g N K) :
    Calls Try.prog 55 #[.pointer (some ⟨g, 0, none⟩), .agg #[.int .i64 (s.i : Int), .bool (!s.fw)]] w fun e w' => e = .returned (.int .i64 (N.fin s : Int)) ∧ Below w.heap.size w w' := by
  obtain ⟨b, off, ha, hb, k0, k1, k2, k3, k4⟩ := h.arcs s.i hi
  have c1 := h.cells.2.1
  have hg := h.lt
  rw [ha] at c1
  obtain ⟨i, fw⟩ := s
  simp only at hi k0 k1 k2 k3 k4 ⊢
  cases fw
  · have e : N.fin ⟨i, false⟩ = N.fr i := rfl
    rw [e]
    clear h ha k1 k2 k3 k4 e
    go_enter Try.func55, Try.ntmps55
    go_wp2
    go_quiet (fail)
    go_wp2
    go_ret
    exact ⟨rfl, below_drewN ((Below.refl _ _).alloc (Nat.le_refl _) _) _⟩
  · have e : N.fin ⟨i, true⟩ = N.to i := rfl
    rw [e]
    clear h ha k0 k2 k3 k4 e
    go_enter Try.func55, Try.ntmps55
    go_wp2
    go_quiet (fail)
    go_wp2
    go_ret
    exact ⟨rfl, below_drewN ((Below.refl _ _).alloc (Nat.le_refl _) _) _⟩

theorem begin_any (s : Sp) (N : Nw) (K : Lay) (g : Nat) (hi : s.i < N.m) (w : World) (h : Srch w g N K) :
    Calls Try.prog 54 #[.pointer (some ⟨g, 0, none⟩), .agg #[.int .i64 (s.i : Int), .bool (!s.fw)]] w fun e w' => e = .returned (.int .i64 (N.beg s : Int)) ∧ Below w.heap.size w w' := by
  obtain ⟨i, fw⟩ := s
  have hb : N.beg ⟨i, fw⟩ = N.fin ⟨i, !fw⟩ := by cases fw <;> rfl
  rw [hb]
  clear hb
  have HS := Lib.hid h
  simp only at hi ⊢
  clear h
  have hz : ∀ (x y : Value), Below w.heap.size w (w.alloc (.cells #[x, y] 75)) := fun x y => (Below.refl _ _).alloc (Nat.le_refl _) _
  cases fw
  · go_enter Try.func54, Try.ntmps54
    go_wp2_with (go_at_call 55; refine (end_any ⟨i, true⟩ N K g hi _ (HS.out.below (hz _ _))).mono ?_; rintro e w1 ⟨rfl, hb1⟩)
    go_ret
    exact ⟨rfl, (hz _ _).trans (hb1.mono (by simp))⟩
  · go_enter Try.func54, Try.ntmps54
    go_wp2_with (go_at_call 55; refine (end_any ⟨i, false⟩ N K g hi _ (HS.out.below (hz _ _))).mono ?_; rintro e w1 ⟨rfl, hb1⟩)
    go_ret
    exact ⟨rfl, (hz _ _).trans (hb1.mono (by simp))⟩

/-- the room of a step; nothing where the arc is closed -/
def Nw.rz (N : Nw) (f : Nat → Int) (z : Nat → Bool) (s : Sp) : Int := if z s.i = true then 0 else N.rm f s
theorem room_any (s : Sp) (N : Nw) (hv : N.valid) (K : Lay) (g : Nat) (f : Nat → Int) (z : Nat → Bool) (hbd : N.bd f) (hi : s.i < N.m) (w : World) (h : Srch w g N K) (hf : IRow w K.gf N.m f) (hz : BRow w K.gc N.m z) :
    Calls Try.prog 60 #[.pointer (some ⟨g, 0, none⟩), .agg #[.int .i64 (s.i : Int), .bool (!s.fw)]] w fun e w' => e = .returned (.int .i64 (N.rz f z s)) ∧ Below w.heap.size w w' := by
  obtain ⟨b, off, ha, hb, k0, k1, k2, k3, k4⟩ := h.arcs s.i hi
  obtain ⟨_, c1, c2, _, _, c5⟩ := h.cells
  rw [ha] at c1
  have hg := h.lt
  have q1 := hf.cell s.i hi
  have q2 := hz.cell s.i hi
  have l1 := hf.lt
  have l2 := hz.lt
  obtain ⟨v1, v2, v3⟩ := hv.lo s.i hi
  obtain ⟨v4, v5⟩ := hbd s.i hi
  obtain ⟨i, fw⟩ := s
  obtain ⟨r, hr⟩ : ∃ r, N.rz f z ⟨i, fw⟩ = r := ⟨_, rfl⟩
  rw [hr]
  unfold Nw.rz Nw.rm at hr
  simp only at *
  clear h hf hz hv hbd k0 k1 k4 ha
  generalize f i = fi at *
  generalize N.lo i = lo at *
  generalize N.up i = up at *
  generalize z i = zi at *
  generalize N.m = m at *
  obtain ⟨ga, K2, K3, K4, K5, K6, K7⟩ := K
  simp only at *
  cases zi
  · rw [if_neg (by simp)] at hr
    cases fw
    · rw [if_neg (by simp)] at hr
      subst hr
      go_enter Try.func60, Try.ntmps60
      go_wp2
      go_quiet (fail)
      go_wp2
      go_quiet (fail)
      go_wp2
      go_ret
      exact ⟨rfl, below_drewN (below_drewN ((Below.refl _ _).alloc (Nat.le_refl _) _) _) _⟩
    · rw [if_pos rfl] at hr
      subst hr
      go_enter Try.func60, Try.ntmps60
      go_wp2
      go_quiet (fail)
      go_wp2
      go_quiet (fail)
      go_wp2
      go_ret
      exact ⟨rfl, below_drewN (below_drewN ((Below.refl _ _).alloc (Nat.le_refl _) _) _) _⟩
  · rw [if_pos rfl] at hr
    subst hr
    go_enter Try.func60, Try.ntmps60
    go_wp2
    go_quiet (fail)
    go_wp2
    go_ret
    exact ⟨rfl, below_drewN ((Below.refl _ _).alloc (Nat.le_refl _) _) _⟩

theorem beg_lt {N : Nw} (h : N.ok) {s : Sp} (hi : s.i < N.m) : N.beg s < N.V := by
  obtain ⟨a, b⟩ := h s.i hi
  unfold Nw.beg; split <;> assumption
theorem fin_lt {N : Nw} (h : N.ok) {s : Sp} (hi : s.i < N.m) : N.fin s < N.V := by
  obtain ⟨a, b⟩ := h s.i hi
  unfold Nw.fin; split <;> assumption
set_option maxHeartbeats 1000000 in
theorem price_any (s : Sp) (N : Nw) (hv : N.valid) (K : Lay) (g : Nat) (p : Nat → Int) (hp : ∀ v, v < N.V → 0 ≤ p v ∧ p v ≤ 1099511627776) (hi : s.i < N.m) (w : World) (h : Srch w g N K) (hr : IRow w K.gp N.V p) :
    Calls Try.prog 38 #[.pointer (some ⟨g, 0, none⟩), .agg #[.int .i64 (s.i : Int), .bool (!s.fw)]] w fun e w' => e = .returned (.int .i64 (N.sp p s)) ∧ Below w.heap.size w w' := by
  obtain ⟨b, off, ha, hb, k0, k1, k2, k3, k4⟩ := h.arcs s.i hi
  have c1 := h.cells.2.1
  rw [ha] at c1
  have hg := h.lt
  obtain ⟨v1, v2⟩ := hv.c s.i hi
  have hbV := beg_lt hv.ok hi
  have hfV := fin_lt hv.ok hi
  obtain ⟨p1, p2⟩ := hp _ hbV
  obtain ⟨p3, p4⟩ := hp _ hfV
  have HS := Lib.hid h
  have HP := Lib.hid hr
  have HL := Lib.hid hr.lt
  clear h hr ha hp hv k0 k1 k2 k3
  obtain ⟨i, fw⟩ := s
  obtain ⟨r, hr⟩ : ∃ r, N.sp p ⟨i, fw⟩ = r := ⟨_, rfl⟩
  rw [hr]
  unfold Nw.sp Nw.sc at hr
  simp only at *
  cases fw
  · rw [if_neg (by simp)] at hr
    subst hr
    go_enter Try.func38, Try.ntmps38
    go_wp2
    go_quiet (fail)
    go_wp2
    have f1 : ((w.alloc (.cells #[.int .i64 (i : Int), .bool true] 75)).drewN nq).cell? ⟨w.heap.size, 0, none⟩ = some (.int .i64 (i : Int)) := by simp [go_sem]
    have f2 : ((w.alloc (.cells #[.int .i64 (i : Int), .bool true] 75)).drewN nq).cell? ⟨w.heap.size, 1, none⟩ = some (.bool true) := by simp [go_sem]
    have f3 : Below w.heap.size w ((w.alloc (.cells #[.int .i64 (i : Int), .bool true] 75)).drewN nq) := below_drewN ((Below.refl _ _).alloc (Nat.le_refl _) _) _
    have HW := Lib.hid (HS.out.below f3)
    have e4 := (HS.out.below f3).cells.2.2.2.2.1
    have e5 := (HP.out.below f3 HL.out).cell (N.beg ⟨i, false⟩) hbV
    have e6 := (HP.out.below f3 HL.out).cell (N.fin ⟨i, false⟩) hfV
    generalize ((w.alloc (.cells #[.int .i64 (i : Int), .bool true] 75)).drewN nq) = W at *
    refine wp_region_below (by kernel_rfl) (by kernel_rfl) ?_
    have g1 : ∀ x : Since W, x.val.cell? ⟨w.heap.size, 0, none⟩ = some (.int .i64 (i : Int)) := fun x => x.cell f1
    have g2 : ∀ x : Since W, x.val.cell? ⟨w.heap.size, 1, none⟩ = some (.bool true) := fun x => x.cell f2
    have g4 := fun x : Since W => x.cell e4
    have g5 := fun x : Since W => x.cell e5
    have g6 := fun x : Since W => x.cell e6
    clear f1 f2 e4 e5 e6 k4 c1
    repeat (go_big_quiet_step ((first
        | (go_at_call 54; exact calls_since _ (begin_any ⟨i, false⟩ N K g hi _ (HW.out.below (Since.property _))))
        | (go_at_call 55; exact calls_since _ (end_any ⟨i, false⟩ N K g hi _ (HW.out.below (Since.property _)))))))
    refine wpQuiet_nil ?_
    intro W1 hb1
    go_wp2
    go_ret
    exact ⟨rfl, f3.trans (hb1.mono f3.size)⟩
  · rw [if_pos rfl] at hr
    subst hr
    go_enter Try.func38, Try.ntmps38
    go_wp2
    go_quiet (fail)
    go_wp2
    have f1 : ((w.alloc (.cells #[.int .i64 (i : Int), .bool false] 75)).drewN nq).cell? ⟨w.heap.size, 0, none⟩ = some (.int .i64 (i : Int)) := by simp [go_sem]
    have f2 : ((w.alloc (.cells #[.int .i64 (i : Int), .bool false] 75)).drewN nq).cell? ⟨w.heap.size, 1, none⟩ = some (.bool false) := by simp [go_sem]
    have f3 : Below w.heap.size w ((w.alloc (.cells #[.int .i64 (i : Int), .bool false] 75)).drewN nq) := below_drewN ((Below.refl _ _).alloc (Nat.le_refl _) _) _
    have HW := Lib.hid (HS.out.below f3)
    have e4 := (HS.out.below f3).cells.2.2.2.2.1
    have e5 := (HP.out.below f3 HL.out).cell (N.beg ⟨i, true⟩) hbV
    have e6 := (HP.out.below f3 HL.out).cell (N.fin ⟨i, true⟩) hfV
    generalize ((w.alloc (.cells #[.int .i64 (i : Int), .bool false] 75)).drewN nq) = W at *
    refine wp_region_below (by kernel_rfl) (by kernel_rfl) ?_
    have g1 : ∀ x : Since W, x.val.cell? ⟨w.heap.size, 0, none⟩ = some (.int .i64 (i : Int)) := fun x => x.cell f1
    have g2 : ∀ x : Since W, x.val.cell? ⟨w.heap.size, 1, none⟩ = some (.bool false) := fun x => x.cell f2
    have g4 := fun x : Since W => x.cell e4
    have g5 := fun x : Since W => x.cell e5
    have g6 := fun x : Since W => x.cell e6
    clear f1 f2 e4 e5 e6 k4 c1
    repeat (go_big_quiet_step ((first
        | (go_at_call 54; exact calls_since _ (begin_any ⟨i, true⟩ N K g hi _ (HW.out.below (Since.property _))))
        | (go_at_call 55; exact calls_since _ (end_any ⟨i, true⟩ N K g hi _ (HW.out.below (Since.property _)))))))
    refine wpQuiet_nil ?_
    intro W1 hb1
    go_wp2
    go_ret
    exact ⟨rfl, f3.trans (hb1.mono f3.size)⟩
end Go.Proofs.Ythoehobofdeifaa
