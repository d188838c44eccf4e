/-
  WALKS of the reader, forwards: what was written is read.
-/
import Derived.Test.YtkgdogccnkjcgaaDoorEnc
namespace Go.Proofs.YtkgdogccnkjcgaaDoor
open Go.ChangeShapes Go.WideShapes Go.ChangeAt Go.RowKit
/-- block g is a reader that has these bytes before it -/
def Rd (w : World) (g : Nat) (zs : List Nat) : Prop := ∃ (a : Option Addr) (n cap : Nat), w.heap[g]? = some (.cells #[.slice a n cap, .int .i64 0] 92 (0, 0)) ∧ Bs w a n cap zs ∧ (∀ x, a = some x → x.block ≠ g)
theorem Bs.not_block {w : World} {a : Option Addr} {n cap g : Nat} {zs : List Nat} (h : Bs w a n cap zs) (hne : ∀ x, a = some x → x.block ≠ g) {w' : World} (hg : w.grownBy w' (some g)) : Bs w' a n cap zs :=
  ⟨h.1, h.2.1, h.2.2.1, h.2.2.2.1, h.2.2.2.2.grown hg (fun x k e1 e2 => by injection e2 with e2; subst e2; exact hne x e1)⟩
/-- the rest of a slice -/
theorem Bs.rest {w : World} {b off n cap k : Nat} {xs zs : List Nat} (h : Bs w (some ⟨b, off, none⟩) n cap (xs ++ zs)) (hk : xs.length = k) :
    Bs w (if cap = k then some ⟨b, off, none⟩ else some ⟨b, off + k, none⟩) (n - k) (cap - k) zs := by
  have hl := h.1
  rw [List.length_append, hk] at hl
  have h1 : (xs ++ zs).drop k = zs := by rw [← hk]; simp
  have h2 : ((xs ++ zs).drop k).take (n - k) = zs := by rw [h1]; exact List.take_of_length_le (by omega)
  by_cases hc : cap = k
  · rw [if_pos hc]
    have hn := h.2.1
    obtain rfl : zs = [] := List.eq_nil_of_length_eq_zero (by omega)
    exact ⟨by simp; omega, by omega, by have := h.2.2.1; omega, (fun e => by cases e), Cells.nil _ _⟩
  · rw [if_neg hc]
    have := Bs.cut (lo := k) (m := n - k) h (by omega)
    rw [h2] at this
    exact this
/-- what reading leaves -/
def RdPost (g : Nat) (rest : List Nat) (v : Value) (w : World) (e : Ending) (w' : World) : Prop := e = .returned v ∧ Rd w' g rest ∧ w.grownBy w' (some g)
set_option maxRecDepth 100000 in
set_option maxHeartbeats 8000000 in
theorem uint_good (g v : Nat) (rest : List Nat) (hv : v < 18446744073709551616) (hb : Byt rest) (hlen : (uenc v ++ rest).length ≤ 100000) (w : World) (h : Rd w g (uenc v ++ rest)) : Calls Tryd.prog 55 #[.pointer (some ⟨g, 0, none⟩)] w (RdPost g rest (.int .u64 (v : Nat)) w) := by
  obtain ⟨a, n, cap, hg, hbs, hne⟩ := h
  have hu := ud_enc hv rest
  have hp := uenc_pos v
  have hl := hbs.1
  rw [hl] at hlen
  rw [List.length_append] at hl
  obtain ⟨k, hk⟩ : ∃ k, (uenc v).length = k := ⟨_, rfl⟩
  rw [hk] at hu hp hl
  cases a with
  | none => have := hbs.2.2.2.1 rfl; have := hbs.2.1; omega
  | some ad =>
  have hex := hbs.2.2.2.2.byt 0 (by rw [List.length_append]; omega)
  obtain ⟨b, off, ea, hbl, _⟩ := hex
  injection ea with ea
  subst ea
  have hbg : b ≠ g := hne _ rfl
  have hrest := hbs.rest hk
  have hnc := hbs.2.1
  have hcm := hbs.2.2.1
  unfold maxLen at hcm
  obtain ⟨ad, had⟩ : ∃ ad : Addr, (if cap = k then some (⟨b, off, none⟩ : Addr) else some ⟨b, off + k, none⟩) = some ad := by
    by_cases hc : cap = k
    · exact ⟨_, if_pos hc⟩
    · exact ⟨_, if_neg hc⟩
  have hadb : ad.block = b := by
    by_cases hc : cap = k
    · rw [if_pos hc] at had; injection had with had; rw [← had]
    · rw [if_neg hc] at had; injection had with had; rw [← had]
  rw [had] at hrest
  have f0 : w.cell? ⟨g, 0, none⟩ = some (.slice (some ⟨b, off, none⟩) n cap) := by simp [World.cell?, hg]
  have f1 : w.cell? ⟨g, 1, none⟩ = some (.int .i64 0) := by simp [World.cell?, hg]
  have z0 : w.frozen? ⟨g, 0, none⟩ = false := by simp [World.frozen?, hg]
  have z1 : w.frozen? ⟨g, 1, none⟩ = false := by simp [World.frozen?, hg]
  have h1 := heap_setCell_same w g 0 _ _ (.slice (some ad) (n - k) (cap - k)) hg
  have h2 := heap_setCell_same _ g 1 _ _ (.int .i64 0) h1
  have hgr : w.grownBy ((w.setCell ⟨g, 0, none⟩ (.slice (some ad) (n - k) (cap - k))).setCell ⟨g, 1, none⟩ (.int .i64 0)) (some g) := grownBy_trans (grownBy_set w g 0 _) (grownBy_set _ g 1 _)
  have HRD : Hid (Rd ((w.setCell ⟨g, 0, none⟩ (.slice (some ad) (n - k) (cap - k))).setCell ⟨g, 1, none⟩ (.int .i64 0)) g rest) := Lib.hid ⟨some ad, n - k, cap - k, h2, hrest.not_block (fun x hx => by injection hx with hx; rw [← hx, hadb]; exact hbg) hgr, fun x hx => by injection hx with hx; rw [← hx, hadb]; exact hbg⟩
  have HBS := Lib.hid hbs
  have HB := Lib.hid (Byt.append (uenc_byt v) hb)
  have HU := Lib.hid hu
  have HGR := Lib.hid hgr
  have s1 : (0 : Int) ≤ (k : Int) := by omega
  have s2 : (k : Int) ≤ (n : Int) := by omega
  clear h1 h2 hrest hbs hu hgr
  go_enter Tryd.func55, Tryd.ntmps55
  go_wp2_with fail
  refine (Uint_any _ n cap (uenc v ++ rest) (by omega) HB.out _ HBS.out).mono ?_
  rintro e w1 ⟨he, rfl⟩
  rw [HU.out] at he
  subst he
  go_wp2_with fail
  go_ret
  exact ⟨rfl, HRD.out, HGR.out⟩
set_option maxRecDepth 100000 in
set_option maxHeartbeats 8000000 in
theorem int_good (g : Nat) (z : Int) (rest : List Nat) (hz1 : -9223372036854775808 ≤ z) (hz2 : z ≤ 9223372036854775807) (hb : Byt rest) (hlen : (uenc (zig z) ++ rest).length ≤ 100000) (w : World) (h : Rd w g (uenc (zig z) ++ rest)) : Calls Tryd.prog 57 #[.pointer (some ⟨g, 0, none⟩)] w (RdPost g rest (.int .i64 z) w) := by
  have hv := zig_lt hz1 hz2
  have hzz := zag_zig z
  obtain ⟨v, hvz⟩ : ∃ v, zig z = v := ⟨_, rfl⟩
  rw [hvz] at hv hzz h hlen
  have HZ := Lib.hid hzz
  clear hzz hvz hz1 hz2
  obtain ⟨a, n, cap, hg, hbs, hne⟩ := h
  have hu := ud_enc hv rest
  have hp := uenc_pos v
  have hl := hbs.1
  rw [hl] at hlen
  rw [List.length_append] at hl
  obtain ⟨k, hk⟩ : ∃ k, (uenc v).length = k := ⟨_, rfl⟩
  rw [hk] at hu hp hl
  cases a with
  | none => have := hbs.2.2.2.1 rfl; have := hbs.2.1; omega
  | some ad =>
  have hex := hbs.2.2.2.2.byt 0 (by rw [List.length_append]; omega)
  obtain ⟨b, off, ea, hbl, _⟩ := hex
  injection ea with ea
  subst ea
  have hbg : b ≠ g := hne _ rfl
  have hrest := hbs.rest hk
  have hnc := hbs.2.1
  have hcm := hbs.2.2.1
  unfold maxLen at hcm
  obtain ⟨ad, had⟩ : ∃ ad : Addr, (if cap = k then some (⟨b, off, none⟩ : Addr) else some ⟨b, off + k, none⟩) = some ad := by
    by_cases hc : cap = k
    · exact ⟨_, if_pos hc⟩
    · exact ⟨_, if_neg hc⟩
  have hadb : ad.block = b := by
    by_cases hc : cap = k
    · rw [if_pos hc] at had; injection had with had; rw [← had]
    · rw [if_neg hc] at had; injection had with had; rw [← had]
  rw [had] at hrest
  have f0 : w.cell? ⟨g, 0, none⟩ = some (.slice (some ⟨b, off, none⟩) n cap) := by simp [World.cell?, hg]
  have f1 : w.cell? ⟨g, 1, none⟩ = some (.int .i64 0) := by simp [World.cell?, hg]
  have z0 : w.frozen? ⟨g, 0, none⟩ = false := by simp [World.frozen?, hg]
  have z1 : w.frozen? ⟨g, 1, none⟩ = false := by simp [World.frozen?, hg]
  have h1 := heap_setCell_same w g 0 _ _ (.slice (some ad) (n - k) (cap - k)) hg
  have h2 := heap_setCell_same _ g 1 _ _ (.int .i64 0) h1
  have hgr : w.grownBy ((w.setCell ⟨g, 0, none⟩ (.slice (some ad) (n - k) (cap - k))).setCell ⟨g, 1, none⟩ (.int .i64 0)) (some g) := grownBy_trans (grownBy_set w g 0 _) (grownBy_set _ g 1 _)
  have HRD : Hid (Rd ((w.setCell ⟨g, 0, none⟩ (.slice (some ad) (n - k) (cap - k))).setCell ⟨g, 1, none⟩ (.int .i64 0)) g rest) := Lib.hid ⟨some ad, n - k, cap - k, h2, hrest.not_block (fun x hx => by injection hx with hx; rw [← hx, hadb]; exact hbg) hgr, fun x hx => by injection hx with hx; rw [← hx, hadb]; exact hbg⟩
  have HBS := Lib.hid hbs
  have HB := Lib.hid (Byt.append (uenc_byt v) hb)
  have HU := Lib.hid hu
  have HGR := Lib.hid hgr
  have s1 : (0 : Int) ≤ (k : Int) := by omega
  have s2 : (k : Int) ≤ (n : Int) := by omega
  clear h1 h2 hrest hbs hu hgr
  go_enter Tryd.func57, Tryd.ntmps57
  go_wp2_with fail
  refine (Int_any _ n cap (uenc v ++ rest) (by omega) HB.out _ HBS.out).mono ?_
  rintro e w1 ⟨he, rfl⟩
  rw [HU.out] at he
  simp only [HZ.out] at he
  subst he
  go_wp2_with fail
  go_ret
  exact ⟨rfl, HRD.out, HGR.out⟩
set_option maxRecDepth 100000 in
set_option maxHeartbeats 4000000 in
theorem small_good (g v : Nat) (rest : List Nat) (hv : v ≤ 4611686018427387904) (hb : Byt rest) (hlen : (uenc v ++ rest).length ≤ 100000) (w : World) (h : Rd w g (uenc v ++ rest)) : Calls Tryd.prog 54 #[.pointer (some ⟨g, 0, none⟩)] w (RdPost g rest (.int .i64 (v : Nat)) w) := by
  have H := Lib.hid h
  have HB := Lib.hid hb
  have HL := Lib.hid hlen
  have d1 : decide ((v : Int) ≤ 4611686018427387904) = true := by simp; omega
  clear h hb hlen
  go_enter Tryd.func54, Tryd.ntmps54
  go_wp2_with fail
  refine (uint_good g v rest (by omega) HB.out HL.out _ H.out).mono ?_
  rintro e w1 ⟨rfl, hrd, hgr⟩
  go_wp2_with fail
  go_ret
  exact ⟨rfl, hrd, hgr⟩
set_option maxRecDepth 100000 in
set_option maxHeartbeats 4000000 in
theorem done_good (g : Nat) (a : Option Addr) (cap : Nat) (w : World) (hg : w.heap[g]? = some (.cells #[.slice a 0 cap, .int .i64 0] 92 (0, 0))) : Calls Tryd.prog 56 #[.pointer (some ⟨g, 0, none⟩)] w fun e w' => e = .returned (.bool true) ∧ w' = w := by
  have f0 : w.cell? ⟨g, 0, none⟩ = some (.slice a 0 cap) := by simp [World.cell?, hg]
  have f1 : w.cell? ⟨g, 1, none⟩ = some (.int .i64 0) := by simp [World.cell?, hg]
  go_enter Tryd.func56, Tryd.ntmps56
  go_wp2_with fail
  go_ret
  exact ⟨rfl, rfl⟩
end Go.Proofs.YtkgdogccnkjcgaaDoor
