/-
  WALKS of PutFrame (both).
-/
import Derived.Test.YtkgdogccnkjcgaaDoorSum
namespace Go.Proofs.YtkgdogccnkjcgaaDoor
open Go.ChangeShapes Go.WideShapes Go.ChangeAt Go.RowKit

/-- the four bytes of a checksum -/
def le4 (c : Nat) : List Nat := [c % 256, c / 256 % 256, c / 65536 % 256, c / 16777216]
def frame (ps : List Nat) : List Nat := uenc ps.length ++ ps ++ le4 (crc ps)
theorem own_below {w w' : World} {B e size n : Nat} {v : Value} {xs : List Value} (h : w.ownsRow B e size v n xs) (hb : Below w.heap.size w w') : w'.ownsRow B e size v n xs :=
  h.kept (w' := w') ⟨hb.os, hb.tape, hb.output, hb.size, fun i hi _ => hb.block i hi⟩ (by by_cases e : v.ownBlock = none; exact .inl e; exact .inr e)
/-- what PutFrame says -/
def Put (zs ps : List Nat) (w : World) (e : Ending) (w' : World) : Prop :=
  (65535 < ps.length ∧ e = .returned (.tuple #[.slice none 0 0, .int .i64 5]) ∧ Below w.heap.size w w') ∨
  (ps.length ≤ 65535 ∧ ∃ v, e = .returned (.tuple #[v, .int .i64 0]) ∧ w'.ownsRow w.heap.size 5 1 v (zs ++ frame ps).length (byts (zs ++ frame ps)) ∧ Below w.heap.size w w')
set_option maxRecDepth 100000 in
set_option maxHeartbeats 4000000 in
theorem PutFrame_any (a a' : Option Addr) (n cap n' cap' : Nat) (zs ps : List Nat) (hn : n ≤ 98000) (hn' : n' ≤ 70000) (hby : Byt ps) (w : World) (h : Bs w a n cap zs) (h' : Bs w a' n' cap' ps) (hl : Laid w) :
    Calls Tryd.prog 31 #[.slice a n cap, .slice a' n' cap'] w (Put zs ps w) := by
  obtain ⟨i0, hi0, hz0, hz1, hz2⟩ := info_parts Tryd.info5
  have HC := Lib.hid h
  have HC' := Lib.hid h'
  have HB := Lib.hid hby
  have HL := Lib.hid hl
  have hz := h.1
  have hz' := h'.1
  clear h h' hby hl
  by_cases hbig : 65535 < n'
  · go_enter Tryd.func31, Tryd.ntmps31
    go_wp2_with fail
    go_ret2
    exact Or.inl ⟨by omega, rfl, Below.refl _ _⟩
  · have h10 := uenc_len10 (n := n') (by omega)
    go_enter Tryd.func31, Tryd.ntmps31
    go_wp2_with fail
    refine (PutUint_any a n cap n' zs (by omega) (by omega) _ HC.out).mono ?_
    rintro e w1 ⟨v, rfl, hown, hb1⟩
    have hL1 : (zs ++ uenc n').length ≤ 98010 := by rw [List.length_append]; omega
    obtain ⟨L, hL⟩ : ∃ L, (zs ++ uenc n').length = L := ⟨_, rfl⟩
    rw [hL] at hown hL1
    obtain ⟨c, hc⟩ : ∃ c, crc ps = c := ⟨_, rfl⟩
    have hcl := crc_lt HB.out
    have HCR := Lib.hid hc
    have HLL := Lib.hid hL
    rw [hc] at hcl
    clear hL
    have HP := Lib.hid (HC'.out.below hb1)
    have hsz := hb1.size
    clear HC
    go_wp2_with (at_builtin; refine wpList_append_src rfl _ _ _ rfl w.heap.size 5 i0 _ 1 1 Tryd.underlying22 hi0 hz0 hz1 hz2 rfl (by omega) _ _ _ rfl hown a' n' cap' (byts ps) rfl HP.out.2.1 HP.out.2.2.2.1 (by simp [hz']) HP.out.2.2.2.2 (byts_one _) (by unfold maxLen; omega) (by omega) hsz ?_; intro v2 w2 hown2 hgr; have hb2 := hb1.grown hgr hsz (fun k e => (hown.lt k e).1); clear hgr)
    have HQ := Lib.hid (HC'.out.below hb2)
    have HO := Lib.hid hown2
    clear hown hown2
    go_wp2_with fail
    refine (Checksum_any _ _ _ ps (by omega) HB.out _ HQ.out (HL.out.below hb2)).mono ?_
    rintro e w3 ⟨rfl, hb3⟩
    rw [hc]
    have hown3 := own_below HO.out hb3
    have hsz3 := hb3.size
    have hsz2 := hb2.size
    clear hc
    go_wp2_with (at_builtin; refine wpList_append_own _ rfl _ _ _ rfl w.heap.size 5 i0 _ 1 1 Tryd.underlying22 hi0 hz0 hz1 hz2 rfl (by omega) _ _ _ rfl (hown3.alloc _) ⟨w3.heap.size, 0, none⟩ 4 4 [.int .u8 ((c : Int) % 256), .int .u8 ((c : Int) / 256 % 256), .int .u8 ((c : Int) / 65536 % 256), .int .u8 ((c : Int) / 16777216)] rfl rfl (World.news_of_block (cs := #[.int .u8 ((c : Int) % 256), .int .u8 ((c : Int) / 256 % 256), .int .u8 ((c : Int) / 65536 % 256), .int .u8 ((c : Int) / 16777216)]) (t := 5) (fr := (0, 0)) (heap_alloc_new w3 _)) (by simp [Value.oneCell']) (by unfold maxLen; omega) (by omega) (by simp; omega) ?_; intro v4 w4 hown4 hgr4 _)
    have hb4 := ((hb2.trans (hb3.mono hsz2)).alloc (by omega) (.cells #[.int .u8 ((c : Int) % 256), .int .u8 ((c : Int) / 256 % 256), .int .u8 ((c : Int) / 65536 % 256), .int .u8 ((c : Int) / 16777216)] 5)).grown hgr4 (by simp; omega) (fun k hk => (hown3.lt k hk).1)
    have e4 : byts (zs ++ frame ps) = byts (zs ++ uenc n') ++ byts ps ++ [.int .u8 ((c : Int) % 256), .int .u8 ((c : Int) / 256 % 256), .int .u8 ((c : Int) / 65536 % 256), .int .u8 ((c : Int) / 16777216)] := by
      unfold frame; rw [HCR.out, hz']; simp [le4]
    have l4 : (zs ++ frame ps).length = L + n' + 4 := by rw [← HLL.out]; unfold frame; rw [hz']; simp [le4]; omega
    have HE := Lib.hid e4
    clear hown3 hgr4 e4
    go_ret2
    exact Or.inr ⟨by omega, v4, rfl, by rw [HE.out, l4]; exact hown4, hb4⟩
set_option maxRecDepth 100000 in
set_option maxHeartbeats 4000000 in
theorem refPutFrame_any (a a' : Option Addr) (n cap n' cap' : Nat) (zs ps : List Nat) (hn : n ≤ 98000) (hn' : n' ≤ 70000) (hby : Byt ps) (w : World) (h : Bs w a n cap zs) (h' : Bs w a' n' cap' ps) :
    Calls Tryd.prog 30 #[.slice a n cap, .slice a' n' cap'] w (Put zs ps w) := by
  obtain ⟨i0, hi0, hz0, hz1, hz2⟩ := info_parts Tryd.info5
  have HC := Lib.hid h
  have HC' := Lib.hid h'
  have HB := Lib.hid hby
  have hz := h.1
  have hz' := h'.1
  clear h h' hby
  by_cases hbig : 65535 < n'
  · go_enter Tryd.func30, Tryd.ntmps30
    go_wp2_with fail
    go_ret2
    exact Or.inl ⟨by omega, rfl, Below.refl _ _⟩
  · have h10 := uenc_len10 (n := n') (by omega)
    go_enter Tryd.func30, Tryd.ntmps30
    go_wp2_with fail
    refine (refPutUint_any a n cap n' zs (by omega) (by omega) _ HC.out).mono ?_
    rintro e w1 ⟨v, rfl, hown, hb1⟩
    have hL1 : (zs ++ uenc n').length ≤ 98010 := by rw [List.length_append]; omega
    obtain ⟨L, hL⟩ : ∃ L, (zs ++ uenc n').length = L := ⟨_, rfl⟩
    rw [hL] at hown hL1
    obtain ⟨c, hc⟩ : ∃ c, crc ps = c := ⟨_, rfl⟩
    have hcl := crc_lt HB.out
    have HCR := Lib.hid hc
    have HLL := Lib.hid hL
    rw [hc] at hcl
    clear hL
    have HP := Lib.hid (HC'.out.below hb1)
    have hsz := hb1.size
    clear HC
    go_wp2_with (at_builtin; refine wpList_append_src rfl _ _ _ rfl w.heap.size 5 i0 _ 1 1 Tryd.underlying22 hi0 hz0 hz1 hz2 rfl (by omega) _ _ _ rfl hown a' n' cap' (byts ps) rfl HP.out.2.1 HP.out.2.2.2.1 (by simp [hz']) HP.out.2.2.2.2 (byts_one _) (by unfold maxLen; omega) (by omega) hsz ?_; intro v2 w2 hown2 hgr; have hb2 := hb1.grown hgr hsz (fun k e => (hown.lt k e).1); clear hgr)
    have HQ := Lib.hid (HC'.out.below hb2)
    have HO := Lib.hid hown2
    clear hown hown2
    go_wp2_with fail
    refine (refChecksum_any _ _ _ ps (by omega) HB.out _ HQ.out).mono ?_
    rintro e w3 ⟨rfl, hb3⟩
    rw [hc]
    have hown3 := own_below HO.out hb3
    have hsz3 := hb3.size
    have hsz2 := hb2.size
    clear hc
    go_wp2_with (at_builtin; refine wpList_append_own _ rfl _ _ _ rfl w.heap.size 5 i0 _ 1 1 Tryd.underlying22 hi0 hz0 hz1 hz2 rfl (by omega) _ _ _ rfl (hown3.alloc _) ⟨w3.heap.size, 0, none⟩ 4 4 [.int .u8 ((c : Int) % 256), .int .u8 ((c : Int) / 256 % 256), .int .u8 ((c : Int) / 65536 % 256), .int .u8 ((c : Int) / 16777216)] rfl rfl (World.news_of_block (cs := #[.int .u8 ((c : Int) % 256), .int .u8 ((c : Int) / 256 % 256), .int .u8 ((c : Int) / 65536 % 256), .int .u8 ((c : Int) / 16777216)]) (t := 5) (fr := (0, 0)) (heap_alloc_new w3 _)) (by simp [Value.oneCell']) (by unfold maxLen; omega) (by omega) (by simp; omega) ?_; intro v4 w4 hown4 hgr4 _)
    have hb4 := ((hb2.trans (hb3.mono hsz2)).alloc (by omega) (.cells #[.int .u8 ((c : Int) % 256), .int .u8 ((c : Int) / 256 % 256), .int .u8 ((c : Int) / 65536 % 256), .int .u8 ((c : Int) / 16777216)] 5)).grown hgr4 (by simp; omega) (fun k hk => (hown3.lt k hk).1)
    have e4 : byts (zs ++ frame ps) = byts (zs ++ uenc n') ++ byts ps ++ [.int .u8 ((c : Int) % 256), .int .u8 ((c : Int) / 256 % 256), .int .u8 ((c : Int) / 65536 % 256), .int .u8 ((c : Int) / 16777216)] := by
      unfold frame; rw [HCR.out, hz']; simp [le4]
    have l4 : (zs ++ frame ps).length = L + n' + 4 := by rw [← HLL.out]; unfold frame; rw [hz']; simp [le4]; omega
    have HE := Lib.hid e4
    clear hown3 hgr4 e4
    go_ret2
    exact Or.inr ⟨by omega, v4, rfl, by rw [HE.out, l4]; exact hown4, hb4⟩
end Go.Proofs.YtkgdogccnkjcgaaDoor
