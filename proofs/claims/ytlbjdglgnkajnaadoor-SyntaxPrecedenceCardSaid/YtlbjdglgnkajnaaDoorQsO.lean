/-
  WALK of the reference's reader: operator. (Filled in from a template of this repo.)
-/
import Derived.Test.YtlbjdglgnkajnaaDoorQsD
namespace Go.Proofs.YtlbjdglgnkajnaaDoor
open Go.ChangeShapes Go.WideShapes Go.ChangeAt Go.RowKit
set_option linter.unusedVariables false
set_option linter.unusedSimpArgs false

/-- the operation of the first sign that comes next -/
def opF (bad : Bool) (rest : List Tk) : List (Bt × Int) → Option Int
  | [] => none
  | x :: l => if (!bad && isT x.1 rest) = true then some x.2 else opF bad rest l
theorem opF_yes {bad : Bool} {rest : List Tk} {l : List (Bt × Int)} {i : Nat} {x : Bt × Int} (hx : l[i]? = some x) (h : (!bad && isT x.1 rest) = true) : opF bad rest (l.drop i) = some x.2 := by
  obtain ⟨hlt, e⟩ := List.getElem?_eq_some_iff.mp hx
  rw [List.drop_eq_getElem_cons hlt, e]
  show (if _ then _ else _) = _
  rw [if_pos h]
theorem opF_no {bad : Bool} {rest : List Tk} {l : List (Bt × Int)} {i : Nat} {x : Bt × Int} (hx : l[i]? = some x) (h : (!bad && isT x.1 rest) = false) : opF bad rest (l.drop i) = opF bad rest (l.drop (i + 1)) := by
  obtain ⟨hlt, e⟩ := List.getElem?_eq_some_iff.mp hx
  rw [List.drop_eq_getElem_cons hlt, e]
  show (if _ then _ else _) = _
  rw [if_neg (by rw [h]; simp)]
/-- two rows of signs and of operations -/
def Sgn (w : World) (bs bo : Nat) (l : List (Bt × Int)) : Prop := bs < w.heap.size ∧ bo < w.heap.size ∧ ∀ j x, l[j]? = some x → w.cell? ⟨bs, j, none⟩ = some (.string (st x.1)) ∧ w.cell? ⟨bo, j, none⟩ = some (.int .i64 x.2)
theorem Sgn.below {w w' : World} {bs bo : Nat} {l : List (Bt × Int)} (h : Sgn w bs bo l) (hb : Below w.heap.size w w') : Sgn w' bs bo l :=
  ⟨by have := hb.size; have := h.1; omega, by have := hb.size; have := h.2.1; omega, fun j x hj => ⟨(World.cell?_of_block (a := ⟨bs, j, none⟩) (hb.block bs h.1)).trans (h.2.2 j x hj).1, (World.cell?_of_block (a := ⟨bo, j, none⟩) (hb.block bo h.2.1)).trans (h.2.2 j x hj).2⟩⟩
/-- what operator leaves -/
def RoPost (K : PC) (at_ : Nat) (bad : Bool) (rest : List Tk) (l : List (Bt × Int)) (w : World) (e : Ending) (w' : World) : Prop :=
  ∃ at2 rest2, RAt w' K at2 bad rest2 ∧ w.grownBy w' (some K.g) ∧
    ((∃ o, opF bad rest l = some o ∧ e = .returned (.tuple #[.int .i64 o, .int .i64 (lnOf rest)]) ∧ bad = false ∧ kOf rest ≠ 0 ∧ at2 = at_ + 1 ∧ rest2 = rest.tail) ∨ (opF bad rest l = none ∧ e = .returned (.tuple #[.int .i64 0, .int .i64 0]) ∧ at2 = at_ ∧ rest2 = rest))
def natOf : Value → Nat
  | .int _ z => z.toNat
  | _ => 0
set_option maxRecDepth 100000 in
set_option maxHeartbeats 4000000 in
theorem roperator_any (K : PC) (at_ : Nat) (bad : Bool) (rest : List Tk) (l : List (Bt × Int)) (bs bo : Nat) (w : World) (h : RAt w K at_ bad rest) (hs : Sgn w bs bo l) (hl : l.length ≤ 4) (hbs : bs ≠ K.g ∧ bo ≠ K.g) :
    Calls Tryd.prog 71 #[.pointer (some ⟨K.g, 0, none⟩), .slice (some ⟨bs, 0, none⟩) l.length l.length, .slice (some ⟨bo, 0, none⟩) l.length l.length] w (RoPost K at_ bad rest l w) := by
  obtain ⟨⟨rk, rn, rv, rt⟩, r, hxr⟩ := h.en.cons
  have HP := Lib.hid h
  have HS := Lib.hid hs
  have HKR : Hid (lnOf rest = rn) := Lib.hid (by rw [hxr]; rfl)
  have HLK : Hid (∀ wx, RAt wx K at_ bad rest → Calls Tryd.prog 36 #[.pointer (some ⟨K.g, 0, none⟩)] wx fun e w' => e = .returned (.agg #[.int .i64 rk, .int .i64 rn, .int .i64 rv, .string (st rt)]) ∧ Below wx.heap.size wx w') := Lib.hid (fun wx h => now_at K at_ bad rk rn rv rt r wx (by rw [← hxr]; exact h))
  have hfd1 : ∀ W : World, (Instr.field 59 (.agg #[.int .i64 rk, .int .i64 rn, .int .i64 rv, .string (st rt)]) 1).run Tryd.prog W = .ok (.int .i64 rn) W := fun _ => by kernel_rfl
  obtain ⟨n, hn⟩ : ∃ n, l.length = n := ⟨_, rfl⟩
  have HN := Lib.hid hn
  rw [hn] at hl ⊢
  clear h hs hxr hn
  go_enter Tryd.func71, Tryd.ntmps71
  go_upto_block 0 with fail
  go_wp2_with fail
  go_loopw [8] (fun v8 wr => ∃ i : Nat, v8 = .int .i64 (i : Int) ∧ i ≤ n ∧ Hid (Below w.heap.size w wr ∧ opF bad rest l = opF bad rest (l.drop i))) (fun v8 _ => n - natOf v8)
  case atStart => exact ⟨0, rfl, Nat.zero_le _, Lib.hid ⟨Below.refl _ _, rfl⟩⟩
  case round =>
    rename World => wa
    obtain ⟨i, rfl, hin, HL⟩ := hrel
    have HPa := Lib.hid (HP.out.below HL.out.1)
    have HSa := Lib.hid (HS.out.below HL.out.1)
    by_cases hlt : i < n
    · obtain ⟨x, hx⟩ : ∃ x, l[i]? = some x := ⟨l[i]'(by rw [HN.out]; exact hlt), List.getElem?_eq_getElem _⟩
      obtain ⟨k1, k2⟩ := HSa.out.2.2 i x hx
      have HX := Lib.hid hx
      have hl1 := HSa.out.1
      have hl2 := HSa.out.2.1
      have hlt2 : (i : Int) < (n : Int) := by omega
      clear hx
      go_wp2_with fail
      refine (ris_any K at_ bad rest x.1 _ HPa.out).mono ?_
      rintro e w2 ⟨rfl, hb2⟩
      have HB2 := Lib.hid (HL.out.1.trans (hb2.mono HL.out.1.size))
      have HP2 := Lib.hid (HP.out.below HB2.out)
      clear hb2 k1 k2
      cases hT : (!bad && isT x.1 rest)
      · have HT := Lib.hid hT
        (try rw [hT])
        clear hT
        go_wp2_with fail
        go_roundw
        case rel => exact ⟨i + 1, by go_num, by omega, Lib.hid ⟨HB2.out, by rw [HL.out.2]; exact opF_no HX.out HT.out⟩⟩
        case measure => simp [natOf]; omega
      · have HT := Lib.hid hT
        (try rw [hT])
        clear hT
        obtain ⟨rfl, hT2⟩ : bad = false ∧ isT x.1 rest = true := by simpa using HT.out
        have HT2 := Lib.hid hT2
        clear hT2
        go_wp2_with fail
        refine (HLK.out _ HP2.out).mono ?_
        rintro e w3 ⟨rfl, hb3⟩
        have HB3 := Lib.hid (HB2.out.trans (hb3.mono HB2.out.size))
        have HP3 := Lib.hid (HP.out.below HB3.out)
        clear hb3
        obtain ⟨-, p1, -, f1, -, hlp⟩ := HP3.out.cells
        have hw1 : IntKind.i64.wrap ((at_ : Int) + 1) = (at_ : Int) + 1 := by have := HP3.out.n; have := HP3.out.lt.1; rw [IntKind.wrap_i64]; omega
        have k2 := (heap_setCell_other w3 ⟨K.g, 1, none⟩ bo (.int .i64 ((at_ : Int) + 1)) hbs.2)
        have k3 := (World.cell?_of_block (a := ⟨bo, i, none⟩) k2).trans ((HS.out.below HB3.out).2.2 i x HX.out).2
        have hl3 := (HS.out.below HB3.out).2.1
        have HF := Lib.hid (And.intro (HP3.out.step (isT_k HT2.out).2.2.1) (grownBy_trans (grownBy_of_below HB3.out (some K.g)) (grownBy_set w3 K.g 1 (.int .i64 ((at_ : Int) + 1)))))
        go_wp2_with fail
        refine bodyPost_ret (v := .tuple #[.int .i64 x.2, .int .i64 rn]) (by simp [results, Tryd.results71, go_sem]) rfl ?_
        exact ⟨at_ + 1, rest.tail, HF.out.1, HF.out.2, .inl ⟨x.2, by rw [HL.out.2]; exact opF_yes HX.out HT.out, by rw [HKR.out], rfl, (isT_k HT2.out).2.2.1, rfl, rfl⟩⟩
    · obtain rfl : i = n := by omega
      have HE : Hid (opF bad rest l = none) := Lib.hid (by rw [HL.out.2, List.drop_of_length_le (by rw [HN.out]; exact Nat.le_refl _)]; rfl)
      go_wp2_with fail
      refine bodyPost_ret (v := .tuple #[.int .i64 0, .int .i64 0]) (by simp [results, Tryd.results71, go_sem]) rfl ?_
      exact ⟨at_, rest, HPa.out, grownBy_of_below HL.out.1 (some K.g), .inr ⟨HE.out, rfl, rfl, rfl⟩⟩
end Go.Proofs.YtlbjdglgnkajnaaDoor
