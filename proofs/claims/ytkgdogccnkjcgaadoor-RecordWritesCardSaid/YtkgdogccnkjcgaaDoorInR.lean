/-
  WHAT THE WALK IS TOLD OF A HEADER AND OF A RECORD THAT CAME IN by value.
-/
import Derived.Test.YtkgdogccnkjcgaaDoorHdd
import Derived.Lib.SmallJoins
namespace Go.Proofs.YtkgdogccnkjcgaaDoor
open Go.ChangeShapes Go.WideShapes Go.ChangeAt Go.RowKit Go.Deep
theorem trod_ints {H : Type} {enc : TypeId × Value → H} {P : Program} {w : World} {base : Nat} {spare : Nat → Bool} {held : Bool} {k : IntKind} {t e : TypeId} {c : Value} {y : DataW H × List MemPlace} {n : Nat}
    (ht : P.underlying t = some (.slice e)) (he : P.underlying e = some (.int k)) (hc : P.cellsOf e = 1) (hf : DataW.trod enc P w base spare held n t [c] = some y) :
    ∃ (a : Option Addr) (len cap : Nat) (zs : List Int), c = .slice a len cap ∧ InInts k w a len cap zs := by
  rcases open_ints ht he hc hf with ⟨hcs, _⟩ | ⟨x, l, c', zs, hcs, _, hl, hm, hz, _, hcell, hwz⟩
  · simp at hcs
    subst hcs
    exact ⟨none, 0, 0, [], rfl, rfl, Nat.le_refl _, ⟨by simp [maxLen], fun _ => rfl⟩, fun i hi => absurd hi (by omega)⟩
  · simp at hcs
    subst hcs
    have hz' : l ≤ zs.length := by rw [hz]; split <;> omega
    refine ⟨_, _, _, zs.take l, rfl, ?_, hl, ⟨hm, fun e => by cases e⟩, ?_⟩
    · rw [List.length_take]; omega
    · intro i hi
      have hiz : i < zs.length := by omega
      have h1 := hcell i hiz
      obtain ⟨b, off, spot⟩ := x
      have hspot : spot = none := by
        by_cases h0 : spot.isSome
        · have hc0 := hcell 0 (by omega)
          simpa [Addr.add] using World.cell?_spot hc0
        · simpa using h0
      subst hspot
      have hadd : (⟨b, off, none⟩ : Addr).add i = ⟨b, off + i, none⟩ := by unfold Addr.add; split <;> simp_all
      rw [hadd] at h1
      have hg : (zs.take l).getD i 0 = zs.getD i 0 := by simp [List.getD, hi]
      refine ⟨b, off, rfl, block_lt_of_cell h1, by rw [hg]; exact h1, ?_⟩
      rw [hg]
      have : zs.getD i 0 ∈ zs := by simp [List.getD, List.getElem?_eq_getElem hiz]
      exact hwz _ this
theorem in_is {w : World} {a : Option Addr} {len cap : Nat} {zs : List Int} (h : InInts .i64 w a len cap zs) : Is w a len cap zs := by
  obtain ⟨h1, h2, ⟨h3, h5⟩, h4⟩ := h
  refine ⟨h1, h2, h3, h5, fun hne => ?_⟩
  have h0 : 0 < len := by
    rcases Nat.eq_zero_or_pos len with h | h
    · have : zs = [] := List.eq_nil_of_length_eq_zero (by omega)
      subst this; exact absurd rfl hne
    · exact h
  obtain ⟨b, off, e, hb, _⟩ := h4 0 h0
  refine ⟨b, off, e, hb, fun j u hj => ?_⟩
  have hjl : j < len := by have := (List.getElem?_eq_some_iff.1 hj).1; simpa [h1] using this
  obtain ⟨b', off', e', _, hc, _⟩ := h4 j hjl
  rw [ints_get zs j (by omega)] at hj
  injection hj with hj
  rw [e] at e'
  injection e' with e'
  injection e' with e1 e2
  subst e1 e2
  rw [hc, ← hj]
theorem c43 : Tryd.prog.cellsOf 43 = 4 := by kernel_rfl
theorem c29 : Tryd.prog.cellsOf 29 = 5 := by kernel_rfl
theorem c45 : Tryd.prog.cellsOf 45 = 7 := by kernel_rfl
theorem c3 : Tryd.prog.cellsOf 3 = 1 := by kernel_rfl
theorem c27 : Tryd.prog.cellsOf 27 = 1 := by kernel_rfl
theorem c41 : Tryd.prog.cellsOf 41 = 1 := by kernel_rfl
theorem in_hd {H : Type} {enc : TypeId × Value → H} {w : World} {r : Reach} {base b0 : Nat} {spare : Nat → Bool} {held : Bool} {v : Value} {d : DataW H} {p : List MemPlace}
    (hv : Value.okWide Tryd.prog w r b0 29 v) (h : DataW.Trod enc Tryd.prog w base spare held 29 v d p) : ∃ h : Hd, v = h.val ∧ h.print < 18446744073709551616 := by
  obtain ⟨cs, rfl, hsz⟩ := okWide_struct Tryd.underlying29 hv
  obtain ⟨l⟩ := cs
  match l, hsz.trans c29 with
  | [v0, v1, v2, v3, v4], _ =>
    obtain ⟨fuel, hf⟩ := h
    obtain ⟨xs, n, _, hx, _, hlen, hg⟩ := DataW.trod_struct Tryd.underlying29 hf
    match xs, hlen with
    | [y0, y1, y2, y3, y4], _ =>
      have g0 := hg 0 _ rfl
      have g1 := hg 1 _ rfl
      have g2 := hg 2 _ rfl
      have g3 := hg 3 _ rfl
      have g4 := hg 4 _ rfl
      simp [Value.cells, c3, c27] at g0 g1 g2 g3 g4
      obtain ⟨a0, e0, _, _⟩ := DataW.trod_int Tryd.underlying3 g0
      obtain ⟨a1, e1, _, _⟩ := DataW.trod_int Tryd.underlying3 g1
      obtain ⟨a2, e2, _, _⟩ := DataW.trod_int Tryd.underlying3 g2
      obtain ⟨a3, e3, _, _⟩ := DataW.trod_int Tryd.underlying3 g3
      obtain ⟨a4, e4, _, wf4⟩ := DataW.trod_int Tryd.underlying27 g4
      simp at e0 e1 e2 e3 e4
      subst e0 e1 e2 e3 e4
      have hb := bounds_u64 wf4
      refine ⟨⟨a0, a1, a2, a3, a4.toNat⟩, ?_, by show a4.toNat < _; omega⟩
      have e5 : ((a4.toNat : Nat) : Int) = a4 := by omega
      show _ = Value.agg #[_, _, _, _, .int .u64 ((a4.toNat : Nat) : Int)]
      rw [e5]
theorem in_rc {H : Type} {enc : TypeId × Value → H} {w : World} {r : Reach} {base b0 : Nat} {spare : Nat → Bool} {held : Bool} {v : Value} {d : DataW H} {p : List MemPlace}
    (hv : Value.okWide Tryd.prog w r b0 45 v) (h : DataW.Trod enc Tryd.prog w base spare held 45 v d p) : ∃ (x : Rc) (ca : Option Addr) (cn cc : Nat), v = x.val (.slice ca cn cc) ∧ Is w ca cn cc x.chain := by
  obtain ⟨cs, rfl, hsz⟩ := okWide_struct Tryd.underlying45 hv
  obtain ⟨l⟩ := cs
  match l, hsz.trans c45 with
  | [v0, v1, v2, v3, v4, v5, v6], _ =>
    obtain ⟨fuel, hf⟩ := h
    obtain ⟨xs, n, _, hx, _, hlen, hg⟩ := DataW.trod_struct Tryd.underlying45 hf
    match xs, hlen with
    | [y0, y1, y2, y3], _ =>
      have g0 := hg 0 _ rfl
      have g1 := hg 1 _ rfl
      have g2 := hg 2 _ rfl
      have g3 := hg 3 _ rfl
      simp [Value.cells, c3, c43] at g0 g1 g2 g3
      obtain ⟨xs', n', _, hx', _, hlen', hg'⟩ := DataW.trod_struct Tryd.underlying43 g1
      match xs', hlen' with
      | [z0, z1, z2, z3], _ =>
        have k0 := hg' 0 _ rfl
        have k1 := hg' 1 _ rfl
        have k2 := hg' 2 _ rfl
        have k3 := hg' 3 _ rfl
        simp [c3, c41] at k0 k1 k2 k3
        obtain ⟨a0, e0, _, _⟩ := DataW.trod_int Tryd.underlying3 g0
        obtain ⟨a5, e5, _, _⟩ := DataW.trod_int Tryd.underlying3 g2
        obtain ⟨a6, e6, _, _⟩ := DataW.trod_int Tryd.underlying3 g3
        obtain ⟨a1, e1, _, _⟩ := DataW.trod_int Tryd.underlying3 k0
        obtain ⟨a2, e2, _, _⟩ := DataW.trod_int Tryd.underlying3 k1
        obtain ⟨a4, e4, _, _⟩ := DataW.trod_int Tryd.underlying3 k3
        obtain ⟨ca, cn, cc, ks, rfl, hin⟩ := trod_ints (k := .i64) Tryd.underlying41 Tryd.underlying3 c3 k2
        simp at e0 e1 e2 e4 e5 e6
        subst e0 e1 e2 e4 e5 e6
        exact ⟨⟨a0, a1, a2, a4, a5, a6, ks⟩, ca, cn, cc, rfl, in_is hin⟩
end Go.Proofs.YtkgdogccnkjcgaaDoor
