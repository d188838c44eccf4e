/-
  WALKS of put and uints.
-/
import Derived.Test.YtkgdogccnkjcgaaDoorChk
namespace Go.Proofs.YtkgdogccnkjcgaaDoor
open Go.ChangeShapes Go.WideShapes Go.ChangeAt Go.RowKit
/-- bytes that are handed back -/
def BsMade (zs : List Nat) (w : World) (e : Ending) (w' : World) : Prop := ∃ (a : Option Addr) (n cap : Nat), e = .returned (.slice a n cap) ∧ Bs w' a n cap zs ∧ Below w.heap.size w w'
theorem BytMade.bs {zs : List Nat} {w w' : World} {e : Ending} (h : BytMade zs w e w') : BsMade zs w e w' := by
  obtain ⟨v, rfl, ho, hb⟩ := h
  obtain ⟨a, cap, rfl, hbs⟩ := Bs.of_own ho
  exact ⟨a, _, cap, rfl, hbs, hb⟩
def flatL (ls : List Nat) : List Nat := ls.flatMap uenc
theorem flatL_cons (x : Nat) (ls : List Nat) : flatL (x :: ls) = uenc x ++ flatL ls := by simp [flatL]
theorem flatL_append (xs ys : List Nat) : flatL (xs ++ ys) = flatL xs ++ flatL ys := by simp [flatL]
theorem flatL_byt (ls : List Nat) : Byt (flatL ls) := fun x hx => by
  obtain ⟨n, _, hx⟩ := List.mem_flatMap.1 hx
  exact uenc_byt n x hx
def Small (ls : List Nat) : Prop := ∀ x ∈ ls, x < 9223372036854775808
theorem flatL_len : ∀ (ls : List Nat), Small ls → (flatL ls).length ≤ 10 * ls.length
  | [], _ => by simp [flatL]
  | x :: ls, h => by
    rw [flatL_cons, List.length_append, List.length_cons]
    have h1 := uenc_len10 (n := x) (by have := h x (by simp); omega)
    have h2 := flatL_len ls (fun y hy => h y (by simp [hy]))
    omega
/-- a list of numbers as integers -/
abbrev up (ls : List Nat) : List Int := ls.map fun (x : Nat) => (x : Int)
theorem up_get (ls : List Nat) (k : Nat) : (up ls).getD k 0 = ((ls.getD k 0 : Nat) : Int) := by
  by_cases h : k < ls.length <;> simp [List.getD, h]
theorem flatL_take (ls : List Nat) (k : Nat) (h : k < ls.length) : flatL (ls.take (k + 1)) = flatL (ls.take k) ++ uenc (ls.getD k 0) := by
  rw [List.take_succ_eq_append_getElem h, flatL_append]
  simp [flatL, List.getD, h]
set_option maxRecDepth 100000 in
set_option maxHeartbeats 4000000 in
theorem put_any (a a' : Option Addr) (n cap m cap' : Nat) (zs ls : List Nat) (hm : m ≤ 4000) (hn : n ≤ 50000) (hls : Small ls) (w : World) (h : Bs w a n cap zs) (h' : Is w a' m cap' (up ls)) : Calls Tryd.prog 33 #[.slice a n cap, .slice a' m cap'] w (BsMade (zs ++ flatL ls) w) := by
  have HB := Lib.hid h
  have HC := Lib.hid h'
  have HN := Lib.hid (show ls.length = m by have := h'.1; simpa using this)
  have HZ := Lib.hid h.1
  have HS := Lib.hid hls
  clear h h' hls
  go_enter Tryd.func33, Tryd.ntmps33
  go_wp2_with fail
  go_loopw [0, 9] (fun v0 v9 wr => ∃ (k : Nat) (b : Option Addr) (p c : Nat), k ≤ m ∧ v9 = .int .i64 k ∧ v0 = .slice b p c ∧ Bs wr b p c (zs ++ flatL (ls.take k)) ∧ Below w.heap.size w wr) (fun _ v _ => m - (intOf v).toNat)
  case atStart => exact ⟨0, a, n, cap, by omega, rfl, rfl, by simpa [flatL] using HB.out, Below.refl _ _⟩
  case round =>
    obtain ⟨k, b, p, c, hk, rfl, rfl, hbs, hb⟩ := hrel
    by_cases hlt : k < m
    · have hkl : k < ls.length := by have := HN.out; omega
      obtain ⟨bb, off, rfl, hbl, hcell⟩ := HC.out.2.2.2.2.int k (by simpa using hkl)
      have c1 := (hb.cell (p := ⟨bb, off + k, none⟩) hbl).trans (hcell k (by simpa using hkl))
      rw [up_get] at c1
      have hft := flatL_take ls k hkl
      have hx : ls.getD k 0 < 9223372036854775808 := HS.out _ (by simp [List.getD, hkl])
      have hpl := hbs.1
      have hfl := flatL_len (ls.take k) (fun y hy => HS.out y (List.mem_of_mem_take hy))
      rw [List.length_append, HZ.out] at hpl
      rw [List.length_take] at hfl
      obtain ⟨x, hxx⟩ : ∃ x, ls.getD k 0 = x := ⟨_, rfl⟩
      rw [hxx] at c1 hft hx
      have hp : p ≤ 99000 := by omega
      have HF := Lib.hid hft
      have HBS := Lib.hid hbs
      clear hcell hft hxx hbs hfl hpl
      go_wp2_with fail
      refine (PutUint_any b p c x _ hp (by omega) _ HBS.out).mono ?_
      intro e w2 hmade
      obtain ⟨b2, p2, c2, rfl, hbs2, hb2⟩ := hmade.bs
      have hb12 := hb.trans (hb2.mono hb.size)
      rw [List.append_assoc, ← HF.out] at hbs2
      clear hb2
      go_wp2_with fail
      exact ⟨⟨k + 1, b2, p2, c2, by omega, by go_num, rfl, hbs2, hb12⟩, by simp [intOf]; omega⟩
    · obtain rfl : k = m := by omega
      rw [List.take_of_length_le (by have := HN.out; omega)] at hbs
      go_wp2_with fail
      go_ret
      exact ⟨b, p, c, rfl, hbs, hb⟩
set_option maxRecDepth 100000 in
set_option maxHeartbeats 4000000 in
theorem uints_any (a a' : Option Addr) (n cap m cap' : Nat) (zs ls : List Nat) (hm : m ≤ 4000) (hn : n ≤ 50000) (hls : Small ls) (w : World) (h : Bs w a n cap zs) (h' : Is w a' m cap' (up ls)) : Calls Tryd.prog 59 #[.slice a n cap, .slice a' m cap'] w (BsMade (zs ++ flatL ls) w) := by
  have HB := Lib.hid h
  have HC := Lib.hid h'
  have HN := Lib.hid (show ls.length = m by have := h'.1; simpa using this)
  have HZ := Lib.hid h.1
  have HS := Lib.hid hls
  clear h h' hls
  go_enter Tryd.func59, Tryd.ntmps59
  go_wp2_with fail
  go_loopw [0, 5] (fun v0 v5 wr => ∃ (k : Nat) (b : Option Addr) (p c : Nat), k ≤ m ∧ v5 = .int .i64 k ∧ v0 = .slice b p c ∧ Bs wr b p c (zs ++ flatL (ls.take k)) ∧ Below w.heap.size w wr) (fun _ v _ => m - (intOf v).toNat)
  case atStart => exact ⟨0, a, n, cap, by omega, rfl, rfl, by simpa [flatL] using HB.out, Below.refl _ _⟩
  case round =>
    obtain ⟨k, b, p, c, hk, rfl, rfl, hbs, hb⟩ := hrel
    by_cases hlt : k < m
    · have hkl : k < ls.length := by have := HN.out; omega
      obtain ⟨bb, off, rfl, hbl, hcell⟩ := HC.out.2.2.2.2.int k (by simpa using hkl)
      have c1 := (hb.cell (p := ⟨bb, off + k, none⟩) hbl).trans (hcell k (by simpa using hkl))
      rw [up_get] at c1
      have hft := flatL_take ls k hkl
      have hx : ls.getD k 0 < 9223372036854775808 := HS.out _ (by simp [List.getD, hkl])
      have hpl := hbs.1
      have hfl := flatL_len (ls.take k) (fun y hy => HS.out y (List.mem_of_mem_take hy))
      rw [List.length_append, HZ.out] at hpl
      rw [List.length_take] at hfl
      obtain ⟨x, hxx⟩ : ∃ x, ls.getD k 0 = x := ⟨_, rfl⟩
      rw [hxx] at c1 hft hx
      have hp : p ≤ 99000 := by omega
      have HF := Lib.hid hft
      have HBS := Lib.hid hbs
      clear hcell hft hxx hbs hfl hpl
      go_wp2_with fail
      refine (refPutUint_any b p c x _ hp (by omega) _ HBS.out).mono ?_
      intro e w2 hmade
      obtain ⟨b2, p2, c2, rfl, hbs2, hb2⟩ := hmade.bs
      have hb12 := hb.trans (hb2.mono hb.size)
      rw [List.append_assoc, ← HF.out] at hbs2
      clear hb2
      go_wp2_with fail
      exact ⟨⟨k + 1, b2, p2, c2, by omega, by go_num, rfl, hbs2, hb12⟩, by simp [intOf]; omega⟩
    · obtain rfl : k = m := by omega
      rw [List.take_of_length_le (by have := HN.out; omega)] at hbs
      go_wp2_with fail
      go_ret
      exact ⟨b, p, c, rfl, hbs, hb⟩
end Go.Proofs.YtkgdogccnkjcgaaDoor
