/-
  WALKS of Checksum (both).
-/
import Derived.Test.YtkgdogccnkjcgaaDoorInt
namespace Go.Proofs.YtkgdogccnkjcgaaDoor
open Go.ChangeShapes Go.WideShapes Go.ChangeAt Go.RowKit

/-- the table of the program's text, as it lies in memory -/
def Laid (w : World) : Prop := 0 < w.heap.size ∧ ∀ j, j < 16 → w.cell? ⟨0, j, none⟩ = some (.int .u32 ((tab.getD j 0 : Nat) : Int))
theorem Laid.below {w w' : World} (h : Laid w) (hb : Below w.heap.size w w') : Laid w' :=
  ⟨by have := hb.size; have := h.1; omega, fun j hj => (hb.cell (p := ⟨0, j, none⟩) h.1).trans (h.2 j hj)⟩
theorem tab_lt : ∀ j, tab.getD j 0 < 4294967296 := by
  intro j
  by_cases h : j < 16
  · have : ∀ j, j < 16 → tab.getD j 0 < 4294967296 := by decide
    exact this j h
  · have : tab.getD j 0 = 0 := by rw [List.getD, List.getElem?_eq_none (show tab.length ≤ j by simp [tab]; omega)]; rfl
    omega
theorem u32x (a b : Nat) (ha : a < 4294967296) (hb : b < 4294967296) : bits .xor .u32 (a : Int) (b : Int) = ((a ^^^ b : Nat) : Int) := u32_xor_nat a b ha hb
theorem u32a15 (a : Nat) (ha : a < 4294967296) : bits .and .u32 (a : Int) 15 = ((a % 16 : Nat) : Int) := by
  rw [show (15 : Int) = ((15 : Nat) : Int) from rfl, u32_and_nat a 15 ha (by omega), nat_mask4]
theorem crcF_take (c : Nat) (zs : List Nat) (k : Nat) (h : k < zs.length) : crcF c (zs.take (k + 1)) = sB (crcF c (zs.take k)) (zs.getD k 0) := by
  have : zs.take (k + 1) = zs.take k ++ [zs.getD k 0] := by rw [List.take_succ_eq_append_getElem h]; simp [List.getD, h]
  rw [this, crcF_snoc]
theorem not32 (c : Nat) (h : c < 4294967296) : bits .xor .u32 IntKind.u32.max (c : Int) = ((4294967295 ^^^ c : Nat) : Int) := u32x 4294967295 c (by omega) h
theorem u32a1 (a : Nat) (ha : a < 4294967296) : bits .and .u32 (a : Int) 1 = ((a % 2 : Nat) : Int) := by
  rw [show (1 : Int) = ((1 : Nat) : Int) from rfl, u32_and_nat a 1 ha (by omega), nat_mask1]
def it : Nat → Nat → Nat
  | 0, c => c
  | t + 1, c => s1 (it t c)
set_option maxRecDepth 100000 in
set_option maxHeartbeats 4000000 in
theorem Checksum_any (a : Option Addr) (n cap : Nat) (zs : List Nat) (hm : n ≤ 100000) (hby : Byt zs) (w : World) (h : Bs w a n cap zs) (hl : Laid w) :
    Calls Tryd.prog 51 #[.slice a n cap] w fun e w' => e = .returned (.int .u32 (crc zs : Nat)) ∧ Below w.heap.size w w' := by
  have HC := Lib.hid h
  have HN := Lib.hid h.1
  have HB := Lib.hid hby
  have HL := Lib.hid hl
  clear h hby hl
  go_enter Tryd.func51, Tryd.ntmps51
  go_wp2_with fail
  go_loopw [3, 8] (fun v3 v8 wr => ∃ k : Nat, k ≤ n ∧ v8 = .int .i64 k ∧ v3 = .int .u32 (crcF 4294967295 (zs.take k) : Nat) ∧ Below w.heap.size w wr) (fun _ v _ => n - (intOf v).toNat)
  case atStart => exact ⟨0, by omega, rfl, rfl, Below.refl _ _⟩
  case round =>
    obtain ⟨k, hk, rfl, rfl, hb⟩ := hrel
    by_cases hlt : k < n
    · have hkl : k < zs.length := by have := HN.out; omega
      obtain ⟨b, off, rfl, hbl, hcell⟩ := HC.out.2.2.2.2.byt k hkl
      have c1 := (hb.cell (p := ⟨b, off + k, none⟩) hbl).trans (hcell k hkl)
      have hx := HB.out.get k
      have hc := crcF_lt (zs.take k) 4294967295 (by omega) (fun x hx => HB.out x (List.mem_of_mem_take hx))
      have hst := crcF_take 4294967295 zs k hkl
      obtain ⟨x, hxx⟩ : ∃ x : Nat, zs.getD k 0 = x := ⟨_, rfl⟩
      obtain ⟨c, hcc⟩ : ∃ c, crcF 4294967295 (zs.take k) = c := ⟨_, rfl⟩
      rw [hxx] at c1 hx hst
      rw [hcc] at hc hst ⊢
      have e1 := u32x c x hc (by omega)
      have l1 : c ^^^ x < 4294967296 := Nat.xor_lt_two_pow (n := 32) (by omega) (by omega)
      unfold sB at hst
      obtain ⟨c', hc'⟩ : ∃ c', c ^^^ x = c' := ⟨_, rfl⟩
      rw [hc'] at e1 l1 hst
      have t1 := s4_table c'
      have l2 := s4_lt l1
      have L := HL.out.below hb
      have g1 := L.2 (c' % 16) (Nat.mod_lt _ (by omega))
      have g1l := tab_lt (c' % 16)
      have a1 := u32a15 c' l1
      obtain ⟨m1, hm1⟩ : ∃ m, c' % 16 = m := ⟨_, rfl⟩
      rw [hm1] at a1 g1 g1l t1
      have hm1' : m1 < 16 := by rw [← hm1]; exact Nat.mod_lt _ (by omega)
      obtain ⟨y1, hy1⟩ : ∃ y, tab.getD m1 0 = y := ⟨_, rfl⟩
      rw [hy1] at g1 g1l t1
      obtain ⟨d1, hd1⟩ : ∃ d, s4 c' = d := ⟨_, rfl⟩
      rw [hd1] at t1 l2 hst
      have x1 : bits .xor .u32 ((c' : Int) / 16) (y1 : Int) = (d1 : Int) := by
        rw [show (c' : Int) / 16 = ((c' / 16 : Nat) : Int) by omega, u32x _ _ (by omega) g1l, ← t1]
      have t2 := s4_table d1
      have l3 := s4_lt l2
      have g2 := L.2 (d1 % 16) (Nat.mod_lt _ (by omega))
      have g2l := tab_lt (d1 % 16)
      have a2 := u32a15 d1 l2
      obtain ⟨m2, hm2⟩ : ∃ m, d1 % 16 = m := ⟨_, rfl⟩
      rw [hm2] at a2 g2 g2l t2
      have hm2' : m2 < 16 := by rw [← hm2]; exact Nat.mod_lt _ (by omega)
      obtain ⟨y2, hy2⟩ : ∃ y, tab.getD m2 0 = y := ⟨_, rfl⟩
      rw [hy2] at g2 g2l t2
      obtain ⟨d2, hd2⟩ : ∃ d, s4 d1 = d := ⟨_, rfl⟩
      rw [hd2] at t2 l3 hst
      have x2 : bits .xor .u32 ((d1 : Int) / 16) (y2 : Int) = (d2 : Int) := by
        rw [show (d1 : Int) / 16 = ((d1 / 16 : Nat) : Int) by omega, u32x _ _ (by omega) g2l, ← t2]
      have HS := Lib.hid hst
      have i0 : (0 : Int) ≤ (k : Int) := by omega
      have i1 : (k : Int) < (n : Int) := by omega
      clear hcell hst hxx hcc hc' t1 t2 hd1 hd2 hy1 hy2 hm1 hm2 L
      go_wp2_with fail
      exact ⟨⟨k + 1, by omega, by go_num, by rw [HS.out], hb⟩, by simp [intOf]; omega⟩
    · obtain rfl : k = n := by omega
      have htk : zs.take k = zs := List.take_of_length_le (by have := HN.out; omega)
      rw [htk]
      have hc := crcF_lt zs 4294967295 (by omega) HB.out
      have hcrc : crc zs = 4294967295 ^^^ crcF 4294967295 zs := rfl
      obtain ⟨c, hcc⟩ : ∃ c, crcF 4294967295 zs = c := ⟨_, rfl⟩
      rw [hcc] at hc hcrc ⊢
      have e1 := not32 c hc
      have HR := Lib.hid hcrc
      clear htk hcrc hcc
      go_wp2_with fail
      go_ret
      exact ⟨by rw [HR.out, ← e1]; rfl, hb⟩
set_option maxRecDepth 100000 in
set_option maxHeartbeats 4000000 in
theorem refChecksum_any (a : Option Addr) (n cap : Nat) (zs : List Nat) (hm : n ≤ 100000) (hby : Byt zs) (w : World) (h : Bs w a n cap zs) :
    Calls Tryd.prog 50 #[.slice a n cap] w fun e w' => e = .returned (.int .u32 (crc zs : Nat)) ∧ Below w.heap.size w w' := by
  have HC := Lib.hid h
  have HN := Lib.hid h.1
  have HB := Lib.hid hby
  clear h hby
  go_enter Tryd.func50, Tryd.ntmps50
  go_wp2_with fail
  go_loopw [3, 4] (fun v3 v4 wr => ∃ k : Nat, k ≤ n ∧ v4 = .int .i64 k ∧ v3 = .int .u32 (crcF 4294967295 (zs.take k) : Nat) ∧ Below w.heap.size w wr) (fun _ v _ => n - (intOf v).toNat)
  case atStart => exact ⟨0, by omega, rfl, rfl, Below.refl _ _⟩
  case round =>
    obtain ⟨k, hk, rfl, rfl, hb⟩ := hrel
    by_cases hlt : k < n
    · have hkl : k < zs.length := by have := HN.out; omega
      obtain ⟨b, off, rfl, hbl, hcell⟩ := HC.out.2.2.2.2.byt k hkl
      have c1 := (hb.cell (p := ⟨b, off + k, none⟩) hbl).trans (hcell k hkl)
      have hx := HB.out.get k
      have hc := crcF_lt (zs.take k) 4294967295 (by omega) (fun x hx => HB.out x (List.mem_of_mem_take hx))
      have hst := crcF_take 4294967295 zs k hkl
      obtain ⟨x, hxx⟩ : ∃ x : Nat, zs.getD k 0 = x := ⟨_, rfl⟩
      obtain ⟨c, hcc⟩ : ∃ c, crcF 4294967295 (zs.take k) = c := ⟨_, rfl⟩
      rw [hxx] at c1 hx hst
      rw [hcc] at hc hst ⊢
      have e1 := u32x c x hc (by omega)
      have l1 : c ^^^ x < 4294967296 := Nat.xor_lt_two_pow (n := 32) (by omega) (by omega)
      unfold sB at hst
      obtain ⟨c', hc'⟩ : ∃ c', c ^^^ x = c' := ⟨_, rfl⟩
      rw [hc'] at e1 l1 hst
      have i0 : (0 : Int) ≤ (k : Int) := by omega
      have i1 : (k : Int) < (n : Int) := by omega
      have HS := Lib.hid hst
      clear hcell hst hxx hcc hc'
      go_wp2_with fail
      have HI := Lib.hid (show s4 (s4 c') = it 8 c' from rfl)
      clear e1
      go_loopw [3, 5] (fun v3 v5 wr' => ∃ t d : Nat, t ≤ 8 ∧ d < 4294967296 ∧ v5 = .int .i64 t ∧ v3 = .int .u32 d ∧ Hid (d = it t c') ∧ wr' = wr) (fun _ v _ => 8 - (intOf v).toNat)
      case atStart => exact ⟨0, c', by omega, l1, rfl, rfl, Lib.hid rfl, rfl⟩
      case round =>
        obtain ⟨t, d, ht, hd, rfl, rfl, HD, rfl⟩ := hrel
        by_cases hlt8 : t < 8
        · have hs := s1_lt hd
          have a1 := u32a1 d hd
          have hit : it (t + 1) c' = s1 d := by rw [HD.out]; rfl
          by_cases hp : d % 2 = 1
          · have hsd : s1 d = (d / 2) ^^^ 3988292384 := by unfold s1; rw [if_pos hp]; rfl
            have x1 : bits .xor .u32 ((d : Int) / 2) 3988292384 = (s1 d : Nat) := by
              rw [hsd, show (d : Int) / 2 = ((d / 2 : Nat) : Int) by omega, show (3988292384 : Int) = ((3988292384 : Nat) : Int) from rfl, u32x _ _ (by omega) (by omega)]
            obtain ⟨y, hy⟩ : ∃ y, s1 d = y := ⟨_, rfl⟩
            rw [hy] at x1 hs hit
            rw [hp] at a1
            have HT := Lib.hid hit.symm
            clear hsd hy hit hp HD
            go_wp2_with fail
            exact ⟨⟨t + 1, y, by omega, hs, by go_num, rfl, HT, trivial⟩, by simp [intOf]; omega⟩
          · have hsd : s1 d = d / 2 := by unfold s1; rw [if_neg hp]; simp
            rw [hsd] at hit hs
            rw [show d % 2 = 0 by omega] at a1
            have HT := Lib.hid hit.symm
            clear hsd hit hp HD
            go_wp2_with fail
            exact ⟨⟨t + 1, d / 2, by omega, hs, by go_num, by go_num, HT, trivial⟩, by simp [intOf]; omega⟩
        · obtain rfl : t = 8 := by omega
          have HE := Lib.hid ((HS.out.trans HI.out).trans HD.out.symm)
          go_wp2_with fail
          exact ⟨⟨k + 1, by omega, by go_num, by rw [HE.out], hb⟩, by simp [intOf]; omega⟩
    · obtain rfl : k = n := by omega
      have htk : zs.take k = zs := List.take_of_length_le (by have := HN.out; omega)
      rw [htk]
      have hc := crcF_lt zs 4294967295 (by omega) HB.out
      have hcrc : crc zs = 4294967295 ^^^ crcF 4294967295 zs := rfl
      obtain ⟨c, hcc⟩ : ∃ c, crcF 4294967295 zs = c := ⟨_, rfl⟩
      rw [hcc] at hc hcrc ⊢
      have e1 := not32 c hc
      have HR := Lib.hid hcrc
      clear htk hcrc hcc
      go_wp2_with fail
      go_ret
      exact ⟨by rw [HR.out, ← e1]; rfl, hb⟩
end Go.Proofs.YtkgdogccnkjcgaaDoor
