/-
  WALKS of circulation.search's push, least, walk, and of slices.Reverse on steps.
-/
import Derived.Test.YthoehobofdeifaaCirM
namespace Go.Proofs.Ythoehobofdeifaa
open Go.ChangeShapes Go.WideShapes Go.ChangeAt Go.RowKit
set_option linter.unusedVariables false

theorem pushes_snoc (f : Nat → Int) (l : List Sp) (s : Sp) (d : Int) : pushes f (l ++ [s]) d = push (pushes f l d) s d := by
  unfold pushes; simp
theorem take_snoc_get {α : Type} (l : List α) (k : Nat) (x : α) (h : l[k]? = some x) : l.take (k + 1) = l.take k ++ [x] := by
  rw [List.take_add_one, h]; rfl
theorem get_lt {α : Type} {l : List α} {k : Nat} (h : k < l.length) : ∃ x, l[k]? = some x ∧ x ∈ l := ⟨l[k], List.getElem?_eq_getElem h, List.getElem_mem h⟩
theorem pair_take {l : List Sp} (h : l.Pairwise (fun s t => s.i ≠ t.i)) {k : Nat} {x : Sp} (hk : l[k]? = some x) : ∀ s ∈ l.take k, s.i ≠ x.i := by
  have h1 : (l.take (k + 1)).Pairwise (fun s t => s.i ≠ t.i) := h.sublist (List.take_sublist _ _)
  rw [take_snoc_get l k x hk, List.pairwise_append] at h1
  exact fun s hs => h1.2.2 s hs x (by simp)
theorem IRow.set {w : World} {b n : Nat} {f g : Nat → Int} (h : IRow w b n f) (i : Nat) (v : Int) (hi : g i = v) (hg : ∀ j, j ≠ i → g j = f j) : IRow (w.setCell ⟨b, i, none⟩ (.int .i64 v)) b n g :=
  VRow.set h i _ _ (by rw [hi]) (fun j _ hj => by rw [hg j hj])
theorem push_at (f : Nat → Int) (s : Sp) (d : Int) : push f s d s.i = if s.fw then f s.i + d else f s.i - d := by
  unfold push bump; rw [if_pos rfl]; cases s.fw <;> simp; omega

set_option maxRecDepth 100000 in
set_option maxHeartbeats 2000000 in
theorem push_any (N : Nw) (hv : N.valid) (K : Lay) (g : Nat) (f : Nat → Int) (hbd : N.bd f) (l : List Sp) (d : Int) (hd : 0 ≤ d) (hr : ∀ s ∈ l, d ≤ N.rm f s) (hi : ∀ s ∈ l, s.i < N.m) (hpw : l.Pairwise (fun s t => s.i ≠ t.i))
    (hln : l.length ≤ 9223372036854775806) (a : Option Addr) (ca : Nat) (w : World) (h : Srch w g N K) (hf : IRow w K.gf N.m f) (hl : Stps w a l) (hfar : ∀ x, a = some x → x.block ≠ K.gf) :
    Calls Try.prog 53 #[.pointer (some ⟨g, 0, none⟩), .slice a l.length ca, .int .i64 d] w fun e w' => e = .returned (.tuple #[]) ∧ Kp [K.gf] w w' ∧ IRow w' K.gf N.m (pushes f l d) := by
  have hcm : [K.gf] = [K.gf] := rfl
  have hsub : ∀ x ∈ [K.gf], x ∈ [K.gf, K.gp, K.gc] := by simp
  have HB := Lib.hid hbd
  have HS := Lib.hid h
  have HF := Lib.hid hf
  have HL := Lib.hid hl
  have HR := Lib.hid hr
  have HI := Lib.hid hi
  have HP := Lib.hid hpw
  have HV := Lib.hid hv
  have HFAR := Lib.hid hfar
  have HSUB := Lib.hid hsub
  obtain ⟨n, hn⟩ : ∃ n, l.length = n := ⟨_, rfl⟩
  rw [hn] at hln ⊢
  have HN := Lib.hid hn
  clear h hf hl hr hi hpw hv hbd hfar hn hsub hcm
  go_enter Try.func53, Try.ntmps53
  go_wp2
  go_loopw [10] (fun v10 wr => ∃ k : Nat, k ≤ n ∧ v10 = .int .i64 k ∧ Kp [K.gf] w wr ∧ IRow wr K.gf N.m (pushes f (l.take k) d)) (fun v _ => n - (intOf v).toNat)
  case atStart => exact ⟨0, by omega, rfl, Kp.refl _ _, HF.out⟩
  case round =>
    obtain ⟨k, hk, rfl, hkp, hrow⟩ := hrel
    by_cases hlt : k < n
    · obtain ⟨s, hs, hsm⟩ := get_lt (l := l) (k := k) (by rw [HN.out]; exact hlt)
      obtain ⟨b, off, rfl, hb, k0, k1⟩ := HL.out.kp hkp (fun x hx => by have := HFAR.out x hx; simpa using this) k s hs
      have hS := HS.out.kp (hkp.mono HSUB.out)
      have c2 := hS.cells.2.2.1
      have hg := hS.lt
      have hsi := HI.out s hsm
      have q1 := hrow.cell s.i hsi
      have q2 := hrow.frozen s.i
      have hfl := hrow.lt
      have hpo : pushes f (l.take k) d s.i = f s.i := pushes_other f d (pair_take HP.out hs)
      have hro := HR.out s hsm
      have hts := take_snoc_get l k s hs
      have HT : Hid (∀ W : World, IRow W K.gf N.m (push (pushes f (l.take k) d) s d) → IRow W K.gf N.m (pushes f (l.take (k + 1)) d)) := Lib.hid (fun W hW => by rw [hts, pushes_snoc]; exact hW)
      have HPA : Hid (push (pushes f (l.take k) d) s d s.i = if s.fw then f s.i + d else f s.i - d) := Lib.hid (by rw [push_at, hpo])
      have HPO : Hid (∀ j, j ≠ s.i → push (pushes f (l.take k) d) s d j = pushes f (l.take k) d j) := Lib.hid (fun j hj => push_other _ _ _ (fun e => hj e.symm))
      obtain ⟨v1, v2, v3⟩ := HV.out.lo s.i hsi
      obtain ⟨v4, v5⟩ := HB.out s.i hsi
      rw [hpo] at q1
      have HROW := Lib.hid hrow
      unfold Nw.rm at hro
      clear hS hs hsm hts hpo hrow
      generalize pushes f (l.take k) d = fk at *
      generalize f s.i = fi at *
      obtain ⟨i, fw⟩ := s
      simp only at *
      cases fw
      · simp only [Bool.false_eq_true, if_false, Bool.not_false] at *
        go_wp2
        go_region
        all_goals
          go_wp2
          go_roundw
          case rel => exact ⟨k + 1, by omega, by go_num, ((hkp.setCell _ _ (.inl (by simp))).alloc _).drew, HT.out _ (VRow.kp (IRow.set HROW.out i _ HPA.out HPO.out) (((Kp.refl [] _).alloc _).drew) (by simp))⟩
          case measure => simp [intOf]; omega
      · simp only [if_true, Bool.not_true] at *
        go_wp2
        go_region
        all_goals
          go_wp2
          go_roundw
          case rel => exact ⟨k + 1, by omega, by go_num, ((hkp.setCell _ _ (.inl (by simp))).alloc _).drew, HT.out _ (VRow.kp (IRow.set HROW.out i _ HPA.out HPO.out) (((Kp.refl [] _).alloc _).drew) (by simp))⟩
          case measure => simp [intOf]; omega
    · obtain rfl : k = n := by omega
      have e : l.take k = l := by rw [← HN.out]; exact List.take_length
      rw [e] at hrow
      go_wp2
      go_end0
      exact ⟨rfl, hkp, hrow⟩

/-- the least room -/
def lst (N : Nw) (f : Nat → Int) (z : Nat → Bool) (l : List Sp) (m : Int) : Int := l.foldl (fun m s => min m (N.rz f z s)) m
theorem lst_snoc (N : Nw) (f : Nat → Int) (z : Nat → Bool) (l : List Sp) (s : Sp) (m : Int) : lst N f z (l ++ [s]) m = min (lst N f z l m) (N.rz f z s) := by unfold lst; simp
theorem lst_le (N : Nw) (f : Nat → Int) (z : Nat → Bool) (l : List Sp) : ∀ (m : Int), lst N f z l m ≤ m ∧ ∀ s ∈ l, lst N f z l m ≤ N.rz f z s := by
  induction l with
  | nil => intro m; exact ⟨Int.le_refl _, fun s hs => by cases hs⟩
  | cons x l ih =>
    intro m
    obtain ⟨h1, h2⟩ := ih (min m (N.rz f z x))
    refine ⟨?_, fun s hs => ?_⟩
    · show lst N f z l (min m (N.rz f z x)) ≤ m; omega
    · show lst N f z l (min m (N.rz f z x)) ≤ _
      rw [List.mem_cons] at hs
      rcases hs with rfl | hs
      · omega
      · exact h2 s hs
theorem lst_pos (N : Nw) (f : Nat → Int) (z : Nat → Bool) (l : List Sp) : ∀ (m : Int), 0 < m → (∀ s ∈ l, 0 < N.rz f z s) → 0 < lst N f z l m := by
  induction l with
  | nil => intro m hm _; exact hm
  | cons x l ih =>
    intro m hm h
    have := h x (by simp)
    exact ih (min m (N.rz f z x)) (by omega) (fun s hs => h s (by simp [hs]))
theorem rz_bd {N : Nw} (hv : N.valid) {f : Nat → Int} (hbd : N.bd f) (z : Nat → Bool) (s : Sp) (hi : s.i < N.m) : 0 ≤ N.rz f z s ∧ N.rz f z s ≤ 1099511627776 := by
  obtain ⟨v1, v2, v3⟩ := hv.lo s.i hi
  obtain ⟨v4, v5⟩ := hbd s.i hi
  unfold Nw.rz Nw.rm
  split
  · omega
  · split <;> omega
theorem lst_bd {N : Nw} (hv : N.valid) {f : Nat → Int} (hbd : N.bd f) (z : Nat → Bool) (l : List Sp) : ∀ (m : Int), 0 ≤ m → (∀ s ∈ l, s.i < N.m) → 0 ≤ lst N f z l m := by
  induction l with
  | nil => intro m hm _; exact hm
  | cons x l ih =>
    intro m hm h
    have := rz_bd hv hbd z x (h x (by simp))
    exact ih (min m (N.rz f z x)) (by omega) (fun s hs => h s (by simp [hs]))

set_option maxRecDepth 100000 in
set_option maxHeartbeats 2000000 in
theorem least_any (N : Nw) (hv : N.valid) (K : Lay) (g : Nat) (f : Nat → Int) (z : Nat → Bool) (hbd : N.bd f) (l : List Sp) (hi : ∀ s ∈ l, s.i < N.m) (m : Int) (hm : 0 ≤ m ∧ m ≤ 9223372036854775807)
    (hln : l.length ≤ 9223372036854775806) (a : Option Addr) (ca : Nat) (w : World) (h : Srch w g N K) (hf : IRow w K.gf N.m f) (hz : BRow w K.gc N.m z) (hl : Stps w a l) :
    Calls Try.prog 52 #[.pointer (some ⟨g, 0, none⟩), .slice a l.length ca, .int .i64 m] w fun e w' => e = .returned (.int .i64 (lst N f z l m)) ∧ Below w.heap.size w w' := by
  have HB := Lib.hid hbd
  have HS := Lib.hid h
  have HF := Lib.hid hf
  have HZ := Lib.hid hz
  have HL := Lib.hid hl
  have HI := Lib.hid hi
  have HV := Lib.hid hv
  obtain ⟨m0, m1⟩ := hm
  obtain ⟨n, hn⟩ : ∃ n, l.length = n := ⟨_, rfl⟩
  rw [hn] at hln ⊢
  have HN := Lib.hid hn
  clear h hf hz hl hi hv hbd hn
  go_enter Try.func52, Try.ntmps52
  go_wp2
  go_loopw [2, 11] (fun v2 v11 wr => ∃ k : Nat, k ≤ n ∧ v11 = .int .i64 k ∧ v2 = .int .i64 (lst N f z (l.take k) m) ∧ Below w.heap.size w wr) (fun _ v _ => n - (intOf v).toNat)
  case atStart => exact ⟨0, by omega, rfl, rfl, Below.refl _ _⟩
  case round =>
    obtain ⟨k, hk, rfl, rfl, hb⟩ := hrel
    by_cases hlt : k < n
    · obtain ⟨s, hs, hsm⟩ := get_lt (l := l) (k := k) (by rw [HN.out]; exact hlt)
      obtain ⟨b, off, rfl, hbl, k0, k1⟩ := HL.out.below hb k s hs
      have hsi := HI.out s hsm
      have hrb := rz_bd HV.out HB.out z s hsi
      have h0 := lst_bd HV.out HB.out z (l.take k) m m0 (fun s hs => HI.out s (List.mem_of_mem_take hs))
      have h1 := (lst_le N f z (l.take k) m).1
      have HT : Hid (lst N f z (l.take (k + 1)) m = min (lst N f z (l.take k) m) (N.rz f z s)) := Lib.hid (by rw [take_snoc_get l k s hs, lst_snoc])
      clear hs hsm
      generalize lst N f z (l.take k) m = x at *
      have hba : Below w.heap.size w (wr.alloc (.cells #[.int .i64 (s.i : Int), .bool (!s.fw)] 75)) := hb.alloc hb.size _
      go_wp2_with fail
      refine (room_any s N HV.out K g f z HB.out hsi _ (HS.out.below hba) (VRow.below HF.out hba HF.out.lt) (VRow.below HZ.out hba HZ.out.lt)).mono ?_
      rintro e w1 ⟨rfl, hb1⟩
      have hb2 := hba.trans (hb1.mono hba.size)
      generalize N.rz f z s = r at *
      clear hb1 hba
      go_wp2
      exact ⟨⟨k + 1, by omega, by go_num, by rw [HT.out]; congr 1; split <;> omega, hb2⟩, by simp [intOf]; omega⟩
    · obtain rfl : k = n := by omega
      have e : l.take k = l := by rw [← HN.out]; exact List.take_length
      rw [e]
      go_wp2
      go_ret
      exact ⟨rfl, hb⟩
end Go.Proofs.Ythoehobofdeifaa
