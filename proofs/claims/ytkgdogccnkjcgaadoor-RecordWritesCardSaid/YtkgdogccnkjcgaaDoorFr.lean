/-
  WALKS of Frame (both).
-/
import Derived.Test.YtkgdogccnkjcgaaDoorFrame
namespace Go.Proofs.YtkgdogccnkjcgaaDoor
open Go.ChangeShapes Go.WideShapes Go.ChangeAt Go.RowKit

/-- what bytes mean as a frame -/
def fd (l : List Nat) : List Nat × Nat × Nat :=
  if (ud l).2.2 ≠ 0 then ([], 0, (ud l).2.2)
  else if 65535 < (ud l).1 then ([], 0, 5)
  else if l.length < (ud l).2.1 + (ud l).1 + 4 then ([], 0, 2)
  else if (l.drop ((ud l).2.1 + (ud l).1)).take 4 = le4 (crc ((l.drop (ud l).2.1).take (ud l).1)) then ((l.drop (ud l).2.1).take (ud l).1, (ud l).2.1 + (ud l).1 + 4, 0)
  else ([], 0, 4)
/-- what Frame says -/
def Framed (zs : List Nat) (w : World) (e : Ending) (w' : World) : Prop :=
  ∃ v, e = .returned (.tuple #[v, .int .i64 (fd zs).2.1, .int .i64 (fd zs).2.2]) ∧ w'.ownsRow w.heap.size 5 1 v (fd zs).1.length (byts (fd zs).1) ∧ Below w.heap.size w w'
theorem framed_of {zs : List Nat} {w w' : World} {k r : Nat} (h : fd zs = ([], k, r)) (hb : Below w.heap.size w w') : Framed zs w (.returned (.tuple #[.slice none 0 0, .int .i64 k, .int .i64 r])) w' := by
  refine ⟨.slice none 0 0, ?_, ?_, hb⟩
  · rw [h]
  · rw [h]; exact World.ownsRow_nil _ _ _ _
/-- a piece of a slice -/
theorem Bs.cut {w : World} {b off n cap lo m : Nat} {zs : List Nat} (h : Bs w (some ⟨b, off, none⟩) n cap zs) (hl : lo + m ≤ n) : Bs w (some ⟨b, off + lo, none⟩) m (cap - lo) ((zs.drop lo).take m) := by
  obtain ⟨h1, h2, h3, h4, h5⟩ := h
  refine ⟨by simp; omega, by omega, by omega, (fun e => by cases e), fun hne => ?_⟩
  obtain ⟨b', off', e, hb, hc⟩ := h5 (by intro e; rw [List.map_eq_nil_iff] at e; subst e; exact hne (by simp))
  injection e with e
  injection e with e1 e2
  subst e1 e2
  refine ⟨_, _, rfl, hb, fun j u hj => ?_⟩
  rw [Nat.add_assoc]
  apply hc
  rw [← hj]
  have hjm : j < m := by have := (List.getElem?_eq_some_iff.1 hj).1; simp at this; omega
  simp [hjm]
theorem four (zs : List Nat) (m : Nat) (h : m + 4 ≤ zs.length) : (zs.drop m).take 4 = [zs.getD m 0, zs.getD (m + 1) 0, zs.getD (m + 2) 0, zs.getD (m + 3) 0] := by
  apply List.ext_getElem?
  intro j
  by_cases hj : j < 4
  · rw [List.getElem?_take, if_pos hj, List.getElem?_drop]
    rw [List.getElem?_eq_getElem (show m + j < zs.length by omega)]
    rcases (show j = 0 ∨ j = 1 ∨ j = 2 ∨ j = 3 by omega) with rfl | rfl | rfl | rfl
    · simp [List.getD, List.getElem?_eq_getElem (show m < zs.length by omega)]
    · simp [List.getD, List.getElem?_eq_getElem (show m + 1 < zs.length by omega)]
    · simp [List.getD, List.getElem?_eq_getElem (show m + 2 < zs.length by omega)]
    · simp [List.getD, List.getElem?_eq_getElem (show m + 3 < zs.length by omega)]
  · rw [List.getElem?_take, if_neg hj]; simp [show 4 ≤ j by omega]
theorem ye4 {zs : List Nat} {c i x m : Nat} (h : ∀ j, j < i → zs.getD (m + j) 0 = c / 256 ^ j % 256) (hx : zs.getD (m + i) 0 = x) : x = c / 256 ^ i % 256 → ∀ j, j < i + 1 → zs.getD (m + j) 0 = c / 256 ^ j % 256 := by
  intro he j hj
  by_cases h1 : j < i
  · exact h j h1
  · obtain rfl : j = i := by omega
    rw [hx, he]
theorem no4 {zs ps : List Nat} {c i x v k : Nat} (hf : fd zs = if (zs.drop (k + v)).take 4 = le4 c then (ps, k + v + 4, 0) else ([], 0, 4)) (hc : c < 4294967296) (hl : k + v + 4 ≤ zs.length) (hi : i < 4) (hx : zs.getD (k + v + i) 0 = x) (hne : x ≠ c / 256 ^ i % 256) : fd zs = ([], 0, 4) := by
  rw [hf, if_neg]
  rw [four _ _ hl]
  unfold le4
  intro e
  injection e with e0 e
  injection e with e1 e
  injection e with e2 e
  injection e with e3 e
  apply hne
  rw [← hx]
  rcases (show i = 0 ∨ i = 1 ∨ i = 2 ∨ i = 3 by omega) with rfl | rfl | rfl | rfl
  · rw [Nat.add_zero, e0]; simp
  · rw [e1]
  · rw [e2]
  · rw [e3]; omega
theorem yes4 {zs ps : List Nat} {c v k : Nat} (hf : fd zs = if (zs.drop (k + v)).take 4 = le4 c then (ps, k + v + 4, 0) else ([], 0, 4)) (hc : c < 4294967296) (hl : k + v + 4 ≤ zs.length) (h : ∀ j, j < 4 → zs.getD (k + v + j) 0 = c / 256 ^ j % 256) : fd zs = (ps, k + v + 4, 0) := by
  rw [hf, if_pos]
  rw [four _ _ hl, ← Nat.add_zero (k + v), h 0 (by omega)]
  simp only [Nat.add_zero]
  rw [h 1 (by omega), h 2 (by omega), h 3 (by omega)]
  unfold le4
  have h3 : c / 256 ^ 3 % 256 = c / 16777216 := by omega
  rw [h3]
  simp
theorem ownsRow_mono {w : World} {b b' e size n : Nat} {v : Value} {xs : List Value} (h : w.ownsRow b e size v n xs) (hb : b' ≤ b) : w.ownsRow b' e size v n xs := by
  rcases h with ⟨h1, h2 | ⟨g, cap, cur, h3, h4, h5⟩⟩
  · exact ⟨h1, .inl h2⟩
  · exact ⟨h1, .inr ⟨g, cap, cur, h3, by omega, h5⟩⟩
set_option maxRecDepth 100000 in
set_option maxHeartbeats 4000000 in
theorem Frame_any (a : Option Addr) (n cap : Nat) (zs : List Nat) (hm : n ≤ 100000) (hby : Byt zs) (w : World) (h : Bs w a n cap zs) (hl : Laid w) : Calls Tryd.prog 34 #[.slice a n cap] w (Framed zs w) := by
  have H := Lib.hid h
  have HB := Lib.hid hby
  have HL := Lib.hid hl
  have hz := h.1
  obtain ⟨b1, b2, b3, b4, b5⟩ := ud_bd zs
  have hfd : fd zs = fd zs := rfl
  conv at hfd => rhs; unfold fd
  obtain ⟨⟨v, k, r⟩, hu⟩ : ∃ u, ud zs = u := ⟨_, rfl⟩
  rw [hu] at b1 b2 b3 b4 b5 hfd
  simp only at b1 b2 b3 b4 b5 hfd
  have HU := Lib.hid hu
  rw [hz] at hfd b3
  clear h hby hu hl
  by_cases hr : r = 0
  · subst hr
    rw [if_neg (by simp)] at hfd
    clear b5
    by_cases hv : 65535 < v
    · rw [if_pos hv] at hfd
      have HF := Lib.hid hfd
      clear hfd
      go_enter Tryd.func34, Tryd.ntmps34
      go_wp2_with fail
      refine (Uint_any a n cap zs hm HB.out _ H.out).mono ?_
      rintro e w1 ⟨he, rfl⟩
      rw [HU.out] at he
      subst he
      go_wp2_with fail
      go_ret3
      exact framed_of HF.out (Below.refl _ _)
    · rw [if_neg hv] at hfd
      by_cases hs : n < k + v + 4
      · rw [if_pos hs] at hfd
        have HF := Lib.hid hfd
        clear hfd
        go_enter Tryd.func34, Tryd.ntmps34
        go_wp2_with fail
        refine (Uint_any a n cap zs hm HB.out _ H.out).mono ?_
        rintro e w1 ⟨he, rfl⟩
        rw [HU.out] at he
        subst he
        go_wp2_with fail
        go_ret3
        exact framed_of HF.out (Below.refl _ _)
      · rw [if_neg hs] at hfd
        have hne : 0 < zs.length := by omega
        obtain ⟨b, off, rfl, hbl, hcell⟩ := H.out.2.2.2.2.byt 0 hne
        have hq := H.out.cut (lo := k) (m := v) (by omega)
        obtain ⟨ps, hps⟩ : ∃ ps, (zs.drop k).take v = ps := ⟨_, rfl⟩
        rw [hps] at hq hfd
        have hpb : Byt ps := by rw [← hps]; exact (HB.out.drop k).take v
        have hcl := crc_lt hpb
        obtain ⟨c, hc⟩ : ∃ c, crc ps = c := ⟨_, rfl⟩
        rw [hc] at hcl hfd
        have HC := Lib.hid hc
        have HQ := Lib.hid hq
        have HPB := Lib.hid hpb
        have hcap := H.out.2.1
        have hcapm := H.out.2.2.1
        unfold maxLen at hcapm
        clear hq hc hpb
        go_enter Tryd.func34, Tryd.ntmps34
        go_wp2_with fail
        refine (Uint_any _ n cap zs hm HB.out _ H.out).mono ?_
        rintro e w1 ⟨he, rfl⟩
        rw [HU.out] at he
        subst he
        go_wp2_with fail
        refine (Checksum_any _ v (cap - k) ps (by omega) HPB.out _ HQ.out HL.out).mono ?_
        rintro e w2 ⟨rfl, hb2⟩
        rw [HC.out]
        have HX := Lib.hid (fun i (hi : i < 4) => (hb2.cell (p := ⟨b, off + (k + v + i), none⟩) hbl).trans (hcell (k + v + i) (by omega)))
        have HFD := Lib.hid hfd
        have HPS := Lib.hid hps
        clear hfd hps hcell
        go_wp2_with fail
        go_loopw [49] (fun v49 wr => ∃ i : Nat, i ≤ 4 ∧ v49 = .int .i64 i ∧ Hid (∀ j, j < i → zs.getD (k + v + j) 0 = c / 256 ^ j % 256) ∧ wr = w2) (fun v _ => 4 - (intOf v).toNat)
        case atStart => exact ⟨0, by omega, rfl, Lib.hid (fun j hj => by omega), rfl⟩
        case round =>
          obtain ⟨i, hi, rfl, HI, rfl⟩ := hrel
          by_cases hi4 : i < 4
          · have c1 := HX.out i hi4
            obtain ⟨x, hx⟩ : ∃ x, zs.getD (k + v + i) 0 = x := ⟨_, rfl⟩
            rw [hx, ← Nat.add_assoc] at c1
            have hxb := HB.out.get (k + v + i)
            rw [hx] at hxb
            have HXX := Lib.hid hx
            clear hx
            have HYE := Lib.hid (ye4 HI.out HXX.out)
            have HNO := Lib.hid (fun hne => no4 (v := v) (k := k) HFD.out hcl (by omega) hi4 HXX.out hne)
            clear HI
            rcases (show i = 0 ∨ i = 1 ∨ i = 2 ∨ i = 3 by omega) with rfl | rfl | rfl | rfl
            · have hp : c / 256 ^ 0 % 256 = c % 256 := by omega
              rw [hp] at HNO HYE
              rw [Nat.add_zero] at c1
              by_cases hxe : x = c % 256
              · have d1 : ((x : Int) != (c : Int) % 256) = false := by simp; omega
                have HT := Lib.hid (HYE.out hxe)
                clear hxe HNO HYE hp
                go_wp2_with fail
                exact ⟨⟨1, by omega, rfl, HT, trivial⟩, by simp [intOf]⟩
              · have d1 : ((x : Int) != (c : Int) % 256) = true := by simp; omega
                have HT := Lib.hid (HNO.out hxe)
                clear hxe HNO HYE hp
                go_wp2_with fail
                go_ret3
                exact framed_of HT.out hb2
            · have hp : c / 256 ^ 1 % 256 = c / 256 % 256 := by omega
              rw [hp] at HNO HYE
              by_cases hxe : x = c / 256 % 256
              · have d1 : ((x : Int) != (c : Int) / 256 % 256) = false := by simp; omega
                have HT := Lib.hid (HYE.out hxe)
                clear hxe HNO HYE hp
                go_wp2_with fail
                exact ⟨⟨2, by omega, rfl, HT, trivial⟩, by simp [intOf]⟩
              · have d1 : ((x : Int) != (c : Int) / 256 % 256) = true := by simp; omega
                have HT := Lib.hid (HNO.out hxe)
                clear hxe HNO HYE hp
                go_wp2_with fail
                go_ret3
                exact framed_of HT.out hb2
            · have hp : c / 256 ^ 2 % 256 = c / 65536 % 256 := by omega
              rw [hp] at HNO HYE
              by_cases hxe : x = c / 65536 % 256
              · have d1 : ((x : Int) != (c : Int) / 65536 % 256) = false := by simp; omega
                have HT := Lib.hid (HYE.out hxe)
                clear hxe HNO HYE hp
                go_wp2_with fail
                exact ⟨⟨3, by omega, rfl, HT, trivial⟩, by simp [intOf]⟩
              · have d1 : ((x : Int) != (c : Int) / 65536 % 256) = true := by simp; omega
                have HT := Lib.hid (HNO.out hxe)
                clear hxe HNO HYE hp
                go_wp2_with fail
                go_ret3
                exact framed_of HT.out hb2
            · have hp : c / 256 ^ 3 % 256 = c / 16777216 := by omega
              rw [hp] at HNO HYE
              by_cases hxe : x = c / 16777216
              · have d1 : ((x : Int) != (c : Int) / 16777216) = false := by simp; omega
                have HT := Lib.hid (HYE.out hxe)
                clear hxe HNO HYE hp
                go_wp2_with fail
                exact ⟨⟨4, by omega, rfl, HT, trivial⟩, by simp [intOf]⟩
              · have d1 : ((x : Int) != (c : Int) / 16777216) = true := by simp; omega
                have HT := Lib.hid (HNO.out hxe)
                clear hxe HNO HYE hp
                go_wp2_with fail
                go_ret3
                exact framed_of HT.out hb2
          · obtain rfl : i = 4 := by omega
            have hcl4 := yes4 (v := v) (k := k) HFD.out hcl (by omega) HI.out
            have HT := Lib.hid hcl4
            clear HI hcl4
            go_wp2_with fail
            refine (CloneB _ v (cap - k) ps (by omega) _ (HQ.out.below hb2)).mono ?_
            rintro e w4 ⟨u, rfl, hown, hb4⟩
            go_wp2_with fail
            go_ret3
            refine ⟨u, by rw [HT.out]; rfl, ?_, hb2.trans (hb4.mono hb2.size)⟩
            rw [HT.out]; exact ownsRow_mono hown hb2.size
  · rw [if_pos hr] at hfd
    obtain ⟨rfl, rfl⟩ := b5 hr
    have HF := Lib.hid hfd
    have d1 : ((r : Int) != 0) = true := by simp; omega
    clear hfd b5 hr
    go_enter Tryd.func34, Tryd.ntmps34
    go_wp2_with fail
    refine (Uint_any a n cap zs hm HB.out _ H.out).mono ?_
    rintro e w1 ⟨he, rfl⟩
    rw [HU.out] at he
    subst he
    go_wp2_with fail
    go_ret3
    exact framed_of HF.out (Below.refl _ _)
end Go.Proofs.YtkgdogccnkjcgaaDoor
