/-
  The law SyntaxPrecedence of chapter 4 holds of the given program at every input that can be read (the card's tied claim).
-/
import Derived.Test.YtlbjdglgnkajnaaDoorSyC
import Derived.OrdersHeld
import Derived.Deep.RegionLaw
import Derived.Test.YtlbjdglgnkajnaaDoorLaidU
import Derived.ChangeMaps5
import Derived.Test.YtlbjdglgnkajnaaDoorTie
import Derived.Test.YtlbjdglgnkajnaaDoorCards
namespace Go.Proofs.YtlbjdglgnkajnaaDoor.syntaxPrecedence
open Go.ChangeShapes Go.WideShapes Go.ChangeAt Go.RowKit
set_option linter.unusedVariables false

set_option linter.unusedVariables false
set_option linter.unusedSimpArgs false

def tX (s t : Bt) : Bt := 49 :: 32 :: (s ++ 32 :: 50 :: 32 :: (t ++ [32, 51]))
def tL (s t : Bt) : Bt := 40 :: 49 :: 32 :: (s ++ 32 :: 50 :: 41 :: 32 :: (t ++ [32, 51]))
def tR (s t : Bt) : Bt := 49 :: 32 :: (s ++ 32 :: 40 :: 50 :: 32 :: (t ++ [32, 51, 41]))
/-- what the plain law says of two operators -/
theorem chk_cases (i k : Nat) (hi : i < 11) (hk : k < 11) : ∃ hL aL hR aR, okT (txL i k) = some (one1 hL aL) ∧ okT (txR i k) = some (one1 hR aR) ∧ eqF false (one1 hL aL) (one1 hR aR) = false ∧
    ((lvB i = 2 ∧ lvB k = 2 ∧ badT (txX i k) = true) ∨ (¬ (lvB i = 2 ∧ lvB k = 2) ∧ ∃ hX aX, okT (txX i k) = some (one1 hX aX) ∧ (lvB i < lvB k → eqF false (one1 hX aX) (one1 hR aR) = true) ∧ (¬ lvB i < lvB k → eqF false (one1 hX aX) (one1 hL aL) = true))) := by
  have one : ∀ F, isOne F = true → ∃ h a, F = one1 h a := fun F h => by
    cases F with
    | nil => cases h
    | cons h1 a1 r =>
      cases r with
      | nil => exact ⟨h1, a1, rfl⟩
      | cons _ _ _ => cases h
  have h := chk_at i k hi hk
  unfold chk at h
  split at h
  · rename_i L R e1 e2
    simp only [Bool.and_eq_true, Bool.not_eq_true'] at h
    obtain ⟨⟨⟨h1, h2⟩, h3⟩, h4⟩ := h
    obtain ⟨hL, aL, rfl⟩ := one L h1
    obtain ⟨hR, aR, rfl⟩ := one R h2
    refine ⟨hL, aL, hR, aR, e1, e2, h3, ?_⟩
    split at h4
    · rename_i hc
      exact .inl ⟨hc.1, hc.2, h4⟩
    · rename_i hc
      split at h4
      · rename_i X e3
        simp only [Bool.and_eq_true] at h4
        obtain ⟨hX, aX, rfl⟩ := one X h4.1
        refine .inr ⟨hc, hX, aX, e3, fun hlt => ?_, fun hlt => ?_⟩
        · have := h4.2; rw [if_pos hlt] at this; exact this
        · have := h4.2; rw [if_neg hlt] at this; exact this
      · cases h4
  · cases h
set_option maxRecDepth 100000 in
set_option maxHeartbeats 8000000 in
theorem walk (a0 a1 : Int) (w : World) (w0 : (Lit.int .u8 a0).wf = true) (w1 : (Lit.int .u8 a1).wf = true) (hw : Lad w) :
    Calls Tryd.prog 4 #[.int .u8 a0, .int .u8 a1] w fun e w' => e = .returned (.bool true) ∧ Below w.heap.size w w' := by
  have HW := Lib.hid hw
  obtain ⟨b00, b01⟩ := bounds_u8 w0
  obtain ⟨b10, b11⟩ := bounds_u8 w1
  clear w0 w1 hw
  obtain ⟨i, hi⟩ : ∃ i : Nat, a0 % 11 = (i : Int) := ⟨(a0 % 11).toNat, by omega⟩
  obtain ⟨k, hk⟩ : ∃ k : Nat, a1 % 11 = (k : Int) := ⟨(a1 % 11).toNat, by omega⟩
  have hi11 : i < 11 := by omega
  have hk11 : k < 11 := by omega
  have ti : Int.tmod a0 11 = (i : Int) := by rw [Int.tmod_eq_emod_of_nonneg b00]; exact hi
  have tk : Int.tmod a1 11 = (k : Int) := by rw [Int.tmod_eq_emod_of_nonneg b10]; exact hk
  have wi0 : IntKind.i64.wrap a0 = a0 := by rw [IntKind.wrap_i64]; omega
  have wi1 : IntKind.i64.wrap a1 = a1 := by rw [IntKind.wrap_i64]; omega
  have wii : IntKind.i64.wrap (i : Int) = (i : Int) := by rw [IntKind.wrap_i64]; omega
  have wik : IntKind.i64.wrap (k : Int) = (k : Int) := by rw [IntKind.wrap_i64]; omega
  go_enter Tryd.func4, Tryd.ntmps4
  go_wp2_with fail
  refine (awake4_any w HW.out).mono ?_
  rintro e w2 ⟨rfl, hb2⟩
  have HT := Lib.hid ((Txs.new w2 sgL 9).be (below_alloc _ (.cells (lvL.map (fun x => Value.int .i64 x)).toArray 3)))
  have HL := Lib.hid (Nms.new (w2.alloc (.cells (sgL.map (fun x => Value.string (st x))).toArray 9)) lvL 3)
  have HB := Lib.hid ((hb2.alloc hb2.size (.cells (sgL.map (fun x => Value.string (st x))).toArray 9)).alloc (by simp; have := hb2.size; omega) (.cells (lvL.map (fun x => Value.int .i64 x)).toArray 3))
  have HSZ : Hid ((w2.alloc (.cells (sgL.map (fun x => Value.string (st x))).toArray 9)).heap.size = w2.heap.size + 1) := Lib.hid (by simp)
  clear hb2
  go_upto_region 6 with fail
  obtain ⟨w3, hw3⟩ : ∃ W, (w2.alloc (.cells (sgL.map (fun x => Value.string (st x))).toArray 9)).alloc (.cells (lvL.map (fun x => Value.int .i64 x)).toArray 3) = W := ⟨_, rfl⟩
  obtain ⟨gs, hgs⟩ : ∃ x, w2.heap.size = x := ⟨_, rfl⟩
  (try rw [show (w2.alloc (.cells #[.string { data := #[124, 124] }, .string { data := #[38, 38] }, .string { data := #[60] }, .string { data := #[60, 61] }, .string { data := #[61, 61] }, .string { data := #[33, 61] }, .string { data := #[43] }, .string { data := #[45] }, .string { data := #[42] }, .string { data := #[47] }, .string { data := #[37] }] 9)).alloc (.cells #[.int .i64 0, .int .i64 1, .int .i64 2, .int .i64 2, .int .i64 2, .int .i64 2, .int .i64 3, .int .i64 3, .int .i64 4, .int .i64 4, .int .i64 4] 3) = w3 from hw3])
  rw [HSZ.out] at HL
  rw [hw3, hgs] at HT HL
  rw [hw3] at HB
  (try rw [hgs])
  obtain ⟨s1, s2, s3⟩ := sgL_at i hi11
  obtain ⟨k1, k2, k3⟩ := sgL_at k hk11
  have HCS : Hid (gs < w3.heap.size ∧ w3.cell? ⟨gs, i, none⟩ = some (.string (st (sgB i))) ∧ w3.cell? ⟨gs, k, none⟩ = some (.string (st (sgB k)))) := Lib.hid ⟨HT.out.1, HT.out.2 i _ s1, HT.out.2 k _ k1⟩
  have HLV : Hid (gs + 1 < w3.heap.size ∧ w3.cell? ⟨gs + 1, i, none⟩ = some (.int .i64 (lvB i)) ∧ w3.cell? ⟨gs + 1, k, none⟩ = some (.int .i64 (lvB k))) := Lib.hid ⟨HL.out.1, HL.out.2 i _ s3, HL.out.2 k _ k3⟩
  have HCK := Lib.hid (chk_cases i k hi11 hk11)
  have hii : (i : Int) < 11 := by omega
  have hkk : (k : Int) < 11 := by omega
  clear hw3 hgs s1 s3 k1 k3 ti tk wi0 wi1 wii wik HT HL HSZ hi hk b00 b01 b10 b11
  obtain ⟨si, hsi⟩ : ∃ x, sgB i = x := ⟨_, rfl⟩
  obtain ⟨sk, hsk⟩ : ∃ x, sgB k = x := ⟨_, rfl⟩
  obtain ⟨li, hli⟩ : ∃ x, lvB i = x := ⟨_, rfl⟩
  obtain ⟨lk, hlk⟩ : ∃ x, lvB k = x := ⟨_, rfl⟩
  rw [hsi] at s2 HCS
  rw [hsk] at k2 HCS
  rw [hli] at HLV HCK
  rw [hlk] at HLV HCK
  rw [show txX i k = tX si sk by rw [← hsi, ← hsk]; simp [txX, tX], show txL i k = tL si sk by rw [← hsi, ← hsk]; simp [txL, tL], show txR i k = tR si sk by rw [← hsi, ← hsk]; simp [txR, tR]] at HCK
  clear hsi hsk hli hlk
  have hst := st_cat
  go_cut [9, 10, 11] from 28 to 44 (fun v9 v10 v11 wx => ∃ (g : Nat) (h1 : Hd) (a1 : Option Addr) (n1 c1 : Nat) (ln er : Int), v9 = .pointer (some ⟨g, 0, none⟩) ∧ v10 = .int .i64 ln ∧ v11 = .int .i64 er ∧ Hid (Below w3.heap.size w3 wx ∧ PA (tX si sk) wx g h1 a1 n1 c1 er (fun b => w3.heap.size ≤ b) ∧ w3.heap.size ≤ g))
  case first =>
    obtain ⟨wd, hwd⟩ : ∃ W, w3.drew = W := ⟨_, rfl⟩
    have HCD : Hid (gs < wd.heap.size ∧ wd.cell? ⟨gs, i, none⟩ = some (.string (st si)) ∧ wd.cell? ⟨gs, k, none⟩ = some (.string (st sk))) := Lib.hid (by rw [← hwd]; exact HCS.out)
    have HBD : Hid (Below w3.heap.size w3 wd) := Lib.hid (by rw [← hwd]; exact (Below.refl _ _).drew)
    have HWD : Hid (Lad wd) := Lib.hid (HW.out.below (HB.out.trans (HBD.out.mono HB.out.size)))
    refine wp_region_held_drew (S := (fun w' => w'.cell? ⟨gs, i, none⟩ = some (.string (st si)) ∧ w'.cell? ⟨gs, k, none⟩ = some (.string (st sk)))) (by kernel_rfl) (by rw [hwd]; exact HCD.out.2) (fun hHeld => ?_)
    rw [hwd] at hHeld ⊢
    clear hwd
    refine wpAnyH_takeD (i := 0) (d := some 29) (v := ?_) rfl (by kernel_rfl) (by kernel_rfl) (by kernel_rfl) (by kernel_rfl) (fun _ _ _ h => h) (Or.inl ⟨by kernel_rfl, ?_⟩) (by assumption) ?_
    rotate_left
    · (intro w hSw; (try dsimp only at hSw); go_simp; try (first | with_reducible rfl | (split <;> first | (exfalso; omega) | with_reducible rfl)))
    (try simp only [Act.put, List.setIfInBounds_toArray, List.set_cons_zero, List.set_cons_succ])
    refine wpAnyH_takeD (i := 1) (d := some 30) (v := ?_) rfl (by kernel_rfl) (by kernel_rfl) (by kernel_rfl) (by kernel_rfl) (fun _ _ _ h => h) (Or.inl ⟨by kernel_rfl, ?_⟩) (by assumption) ?_
    rotate_left
    · (intro w hSw; (try dsimp only at hSw); go_simp; try (first | with_reducible rfl | (split <;> first | (exfalso; omega) | with_reducible rfl)))
    (try simp only [Act.put, List.setIfInBounds_toArray, List.set_cons_zero, List.set_cons_succ])
    refine wpAnyH_takeD (i := 2) (d := some 31) (v := ?_) rfl (by kernel_rfl) (by kernel_rfl) (by kernel_rfl) (by kernel_rfl) (fun _ _ _ h => h) (Or.inl ⟨by kernel_rfl, ?_⟩) (by assumption) ?_
    rotate_left
    · (intro w hSw; (try dsimp only at hSw); go_simp; try (first | with_reducible rfl | (split <;> first | (exfalso; omega) | with_reducible rfl)))
    (try simp only [Act.put, List.setIfInBounds_toArray, List.set_cons_zero, List.set_cons_succ])
    refine wpAnyH_takeD (i := 3) (d := some 32) (v := ?_) rfl (by kernel_rfl) (by kernel_rfl) (by kernel_rfl) (by kernel_rfl) (fun _ _ _ h => h) (Or.inl ⟨by kernel_rfl, ?_⟩) (by assumption) ?_
    rotate_left
    · (intro w hSw; (try dsimp only at hSw); go_simp; try (first | with_reducible rfl | (split <;> first | (exfalso; omega) | with_reducible rfl)))
    (try simp only [Act.put, List.setIfInBounds_toArray, List.set_cons_zero, List.set_cons_succ])
    refine wpAnyH_takeD (i := 4) (d := some 33) (v := ?_) rfl (by kernel_rfl) (by kernel_rfl) (by kernel_rfl) (by kernel_rfl) (fun _ _ _ h => h) (Or.inl ⟨by kernel_rfl, ?_⟩) (by assumption) ?_
    rotate_left
    · (intro w hSw; (try dsimp only at hSw); go_simp; try (first | with_reducible rfl | (split <;> first | (exfalso; omega) | with_reducible rfl)))
    (try simp only [Act.put, List.setIfInBounds_toArray, List.set_cons_zero, List.set_cons_succ])
    refine wpAnyH_takeD (i := 5) (d := some 34) (v := ?_) rfl (by kernel_rfl) (by kernel_rfl) (by kernel_rfl) (by kernel_rfl) (fun _ _ _ h => h) (Or.inl ⟨by kernel_rfl, ?_⟩) (by assumption) ?_
    rotate_left
    · (intro w hSw; (try dsimp only at hSw); go_simp; try (first | with_reducible rfl | (split <;> first | (exfalso; omega) | with_reducible rfl)))
    (try simp only [Act.put, List.setIfInBounds_toArray, List.set_cons_zero, List.set_cons_succ])
    refine wpAnyH_takeD (i := 6) (d := some 35) (v := ?_) rfl (by kernel_rfl) (by kernel_rfl) (by kernel_rfl) (by kernel_rfl) (fun _ _ _ h => h) (Or.inl ⟨by kernel_rfl, ?_⟩) (by assumption) ?_
    rotate_left
    · (intro w hSw; (try dsimp only at hSw); go_simp; try (first | with_reducible rfl | (split <;> first | (exfalso; omega) | with_reducible rfl)))
    (try simp only [Act.put, List.setIfInBounds_toArray, List.set_cons_zero, List.set_cons_succ])
    refine wpAnyH_takeD (i := 7) (d := some 36) (v := ?_) rfl (by kernel_rfl) (by kernel_rfl) (by kernel_rfl) (by kernel_rfl) (fun _ _ _ h => h) (Or.inl ⟨by kernel_rfl, ?_⟩) (by assumption) ?_
    rotate_left
    · (intro w hSw; (try dsimp only at hSw); go_simp; try (first | with_reducible rfl | (split <;> first | (exfalso; omega) | with_reducible rfl)))
    (try simp only [Act.put, List.setIfInBounds_toArray, List.set_cons_zero, List.set_cons_succ])
    refine wpAnyH_takeD (i := 8) (d := some 37) (v := ?_) rfl (by kernel_rfl) (by kernel_rfl) (by kernel_rfl) (by kernel_rfl) (fun _ _ _ h => h) (Or.inl ⟨by kernel_rfl, ?_⟩) (by assumption) ?_
    rotate_left
    · (intro w hSw; (try dsimp only at hSw); go_simp; try (first | with_reducible rfl | (split <;> first | (exfalso; omega) | with_reducible rfl)))
    (try simp only [Act.put, List.setIfInBounds_toArray, List.set_cons_zero, List.set_cons_succ])
    refine wpAnyH_takeD (i := 9) (d := some 38) (v := ?_) rfl (by kernel_rfl) (by kernel_rfl) (by kernel_rfl) (by kernel_rfl) (fun _ _ _ h => h) (Or.inl ⟨by kernel_rfl, ?_⟩) (by assumption) ?_
    rotate_left
    · (intro w hSw; (try dsimp only at hSw); go_simp; try (first | with_reducible rfl | (split <;> first | (exfalso; omega) | with_reducible rfl)))
    (try simp only [Act.put, List.setIfInBounds_toArray, List.set_cons_zero, List.set_cons_succ])
    refine wpAnyH_takeD (i := 10) (d := some 39) (v := ?_) rfl (by kernel_rfl) (by kernel_rfl) (by kernel_rfl) (by kernel_rfl) (fun _ _ _ h => h) (Or.inl ⟨by kernel_rfl, ?_⟩) (by assumption) ?_
    rotate_left
    · (intro w hSw; (try dsimp only at hSw); go_simp; try (first | with_reducible rfl | (split <;> first | (exfalso; omega) | with_reducible rfl)))
    (try simp only [Act.put, List.setIfInBounds_toArray, List.set_cons_zero, List.set_cons_succ])
    refine wpAnyH_takeD (i := 11) (d := some 40) (v := ?_) rfl (by kernel_rfl) (by kernel_rfl) (by kernel_rfl) (by kernel_rfl) (fun _ _ _ h => h) (Or.inl ⟨by kernel_rfl, ?_⟩) (by assumption) ?_
    rotate_left
    · (intro w hSw; (try dsimp only at hSw); go_simp; try (first | with_reducible rfl | (split <;> first | (exfalso; omega) | with_reducible rfl)))
    (try simp only [Act.put, List.setIfInBounds_toArray, List.set_cons_zero, List.set_cons_succ])
    refine wpAnyH_ready (rs := [12, 17]) (by kernel_rfl) (by simp) ?_
    refine AllReadyH.cons rfl (fun K0 hK => ?_) (AllReadyH.cons rfl (fun K0 hK => ?_) AllReadyH.nil)
    · go_simp
      refine (ParseExpr_any (tX si sk) (by simp [tX]; omega) wd HWD.out).mono ?_
      intro e we hp
      obtain ⟨h1, a1, n1, c1, ln, er, rfl⟩ := pe_form hp
      have HP := Lib.hid hp
      have HZ := Lib.hid (Lc.zero we)
      refine hK.out _ _ ⟨(hp.1.cell HCD.out.1).trans hHeld.1, (hp.1.cell HCD.out.1).trans hHeld.2⟩ (fun hHeld => ?_)
      clear hK K0 hp
      (try simp only [Act.put, List.setIfInBounds_toArray, List.set_cons_zero, List.set_cons_succ])
      refine wpAnyH_takeD (i := 13) (d := some 28) (v := ?_) rfl (by kernel_rfl) (by kernel_rfl) (by kernel_rfl) (by kernel_rfl) (fun _ _ _ h => h) (Or.inl ⟨by kernel_rfl, ?_⟩) (by assumption) ?_
      rotate_left
      · (intro w hSw; (try dsimp only at hSw); go_simp; try (first | with_reducible rfl | (split <;> first | (exfalso; omega) | with_reducible rfl)))
      (try simp only [Act.put, List.setIfInBounds_toArray, List.set_cons_zero, List.set_cons_succ])
      refine wpAnyH_takeD (i := 14) (d := some 42) (v := ?_) rfl (by kernel_rfl) (by kernel_rfl) (by kernel_rfl) (by kernel_rfl) (fun _ _ _ h => h) (Or.inl ⟨by kernel_rfl, ?_⟩) (by assumption) ?_
      rotate_left
      · (intro w hSw; (try dsimp only at hSw); go_simp; try (first | with_reducible rfl | (split <;> first | (exfalso; omega) | with_reducible rfl)))
      (try simp only [Act.put, List.setIfInBounds_toArray, List.set_cons_zero, List.set_cons_succ])
      refine wpAnyH_takeD (i := 15) (d := some 43) (v := ?_) rfl (by kernel_rfl) (by kernel_rfl) (by kernel_rfl) (by kernel_rfl) (fun _ _ _ h => h) (Or.inl ⟨by kernel_rfl, ?_⟩) (by assumption) ?_
      rotate_left
      · (intro w hSw; (try dsimp only at hSw); go_simp; try (first | with_reducible rfl | (split <;> first | (exfalso; omega) | with_reducible rfl)))
      (try simp only [Act.put, List.setIfInBounds_toArray, List.set_cons_zero, List.set_cons_succ])
      refine wpAnyH_takeD (i := 16) (d := some 44) (v := ?_) rfl (by kernel_rfl) (by kernel_rfl) (by kernel_rfl) (by kernel_rfl) (fun _ _ _ h => h) (Or.inl ⟨by kernel_rfl, ?_⟩) (by assumption) ?_
      rotate_left
      · (intro w hSw; (try dsimp only at hSw); go_simp; try (first | with_reducible rfl | (split <;> first | (exfalso; omega) | with_reducible rfl)))
      (try simp only [Act.put, List.setIfInBounds_toArray, List.set_cons_zero, List.set_cons_succ])
      refine wpAnyH_ready (rs := [17]) (by kernel_rfl) (by simp) ?_
      refine AllReadyH.cons rfl (fun K0 hK => ?_) AllReadyH.nil
      go_simp
      refine hK.out _ _ ⟨cell_ml _ hHeld.1, cell_ml _ hHeld.2⟩ (fun hHeld => ?_)
      clear hK K0
      (try simp only [Act.put, List.setIfInBounds_toArray, List.set_cons_zero, List.set_cons_succ])
      have HNE : Hid (we.heap.size ≠ gs) := Lib.hid (by have := HP.out.1.size; have := HCD.out.1; omega)
      have HBQ := Lib.hid (below_alloc we zex)
      have HGZ : Hid (we.heap.size ≤ we.heap.size) := Lib.hid (Nat.le_refl _)
      obtain ⟨wq, hwq⟩ : ∃ W, we.alloc zex = W := ⟨_, rfl⟩
      obtain ⟨gz, hgz⟩ : ∃ x, we.heap.size = x := ⟨_, rfl⟩
      have hwq2 : we.alloc (.cells #[.int .i64 0, .int .i64 0, .int .i64 0, .int .i64 0, .string { data := #[] }, .slice none 0 0] 31) = wq := hwq
      (try rw [hwq2])
      rw [hwq, hgz] at HZ
      rw [hgz] at HNE
      rw [hwq] at HBQ hHeld
      have HGZ2 : Hid (we.heap.size = gz) := Lib.hid hgz
      (try rw [hgz])
      clear hwq hwq2 hgz HGZ
      refine wpAnyH_ready (rs := [18]) (by kernel_rfl) (by simp) ?_
      refine AllReadyH.cons rfl (fun K0 hK => ?_) AllReadyH.nil
      obtain ⟨y0, y1, y2, y3, y4, y5⟩ := HZ.out.cells
      obtain ⟨g0, g1, g2, g3, g4, g5⟩ := HZ.out.froz
      have hlR := HZ.out.lt
      go_simp
      refine hK.out _ _ ⟨cell_set6 (by have := HNE.out; omega) hHeld.1, cell_set6 (by have := HNE.out; omega) hHeld.2⟩ (fun hHeld => ?_)
      clear hK K0
      (try simp only [Act.put, List.setIfInBounds_toArray, List.set_cons_zero, List.set_cons_succ])
      refine wpAnyH_takeD (i := 19) (d := some 10) (v := ?_) rfl (by kernel_rfl) (by kernel_rfl) (by kernel_rfl) (by kernel_rfl) (fun _ _ _ h => h) (Or.inl ⟨by kernel_rfl, ?_⟩) (by assumption) ?_
      rotate_left
      · (intro w hSw; (try dsimp only at hSw); go_simp; try (first | with_reducible rfl | (split <;> first | (exfalso; omega) | with_reducible rfl)))
      (try simp only [Act.put, List.setIfInBounds_toArray, List.set_cons_zero, List.set_cons_succ])
      refine wpAnyH_takeD (i := 20) (d := some 11) (v := ?_) rfl (by kernel_rfl) (by kernel_rfl) (by kernel_rfl) (by kernel_rfl) (fun _ _ _ h => h) (Or.inl ⟨by kernel_rfl, ?_⟩) (by assumption) ?_
      rotate_left
      · (intro w hSw; (try dsimp only at hSw); go_simp; try (first | with_reducible rfl | (split <;> first | (exfalso; omega) | with_reducible rfl)))
      (try simp only [Act.put, List.setIfInBounds_toArray, List.set_cons_zero, List.set_cons_succ])
      refine wpAnyH_done (by kernel_rfl) ?_ _
      (try simp only [Act.put, List.setIfInBounds_toArray, List.set_cons_zero, List.set_cons_succ])
      have HFIN : Hid (∀ W, W = set6 wq gz (.int .i64 h1.k) (.int .i64 h1.op) (.int .i64 h1.v) (.int .i64 h1.ln) (.string (st h1.nm)) (.slice a1 n1 c1) → Below w3.heap.size w3 W ∧ PA (tX si sk) W gz h1 a1 n1 c1 er (fun b => w3.heap.size ≤ b) ∧ w3.heap.size ≤ gz) := Lib.hid (fun W hW => by
        subst hW
        have b1 := HBD.out.trans (HP.out.1.mono HBD.out.size)
        have hgz := HGZ2.out
        refine ⟨below_s6 (b1.trans (HBQ.out.mono b1.size)) (by have := b1.size; omega), PA.of HP.out (by simp [tX]; omega) (HZ.out.s6 h1 _) (fun b hb _ => (other_set6 b (by omega)).trans (HBQ.out.block b hb)) (by rw [size_set6]; exact HBQ.out.size) (fun b hb => by have := HBD.out.size; omega), by have := b1.size; omega⟩)
      clear y0 y1 y2 y3 y4 y5 g0 g1 g2 g3 g4 g5 hlR hHeld
      go_wp2_with fail
      go_meet
      exact ⟨_, h1, a1, n1, c1, ln, er, rfl, rfl, rfl, Lib.hid (HFIN.out _ rfl)⟩
    · go_simp
      refine hK.out _ _ ⟨cell_ml _ hHeld.1, cell_ml _ hHeld.2⟩ (fun hHeld => ?_)
      clear hK K0
      (try simp only [Act.put, List.setIfInBounds_toArray, List.set_cons_zero, List.set_cons_succ])
      have HZ0 := Lib.hid (Lc.zero wd)
      have HWA := Lib.hid (HWD.out.below (below_alloc wd zex))
      have HSA : Hid (gs < (wd.alloc zex).heap.size ∧ (wd.alloc zex).heap.size = wd.heap.size + 1 ∧ gs < wd.heap.size) := Lib.hid ⟨by simp; have := HCD.out.1; omega, by simp, HCD.out.1⟩
      have HB0 := Lib.hid (HBD.out.alloc HBD.out.size zex)
      have HGZ : Hid (w3.heap.size ≤ wd.heap.size) := Lib.hid HBD.out.size
      obtain ⟨wq, hwq⟩ : ∃ W, wd.alloc zex = W := ⟨_, rfl⟩
      obtain ⟨gz, hgz⟩ : ∃ x, wd.heap.size = x := ⟨_, rfl⟩
      have hwq2 : wd.alloc (.cells #[.int .i64 0, .int .i64 0, .int .i64 0, .int .i64 0, .string { data := #[] }, .slice none 0 0] 31) = wq := hwq
      (try rw [hwq2])
      rw [hwq, hgz] at HZ0 HSA
      rw [hwq] at HWA HB0 hHeld
      rw [hgz] at HGZ
      (try rw [hgz])
      clear hwq hwq2 hgz
      refine wpAnyH_ready (rs := [12]) (by kernel_rfl) (by simp) ?_
      refine AllReadyH.cons rfl (fun K0 hK => ?_) AllReadyH.nil
      go_simp
      refine (ParseExpr_any (tX si sk) (by simp [tX]; omega) wq HWA.out).mono ?_
      intro e we hp
      obtain ⟨h1, a1, n1, c1, ln, er, rfl⟩ := pe_form hp
      have HP := Lib.hid hp
      have HZ := Lib.hid (HZ0.out.be hp.1)
      refine hK.out _ _ ⟨(hp.1.cell HSA.out.1).trans hHeld.1, (hp.1.cell HSA.out.1).trans hHeld.2⟩ (fun hHeld => ?_)
      clear hK K0 hp
      (try simp only [Act.put, List.setIfInBounds_toArray, List.set_cons_zero, List.set_cons_succ])
      refine wpAnyH_takeD (i := 13) (d := some 28) (v := ?_) rfl (by kernel_rfl) (by kernel_rfl) (by kernel_rfl) (by kernel_rfl) (fun _ _ _ h => h) (Or.inl ⟨by kernel_rfl, ?_⟩) (by assumption) ?_
      rotate_left
      · (intro w hSw; (try dsimp only at hSw); go_simp; try (first | with_reducible rfl | (split <;> first | (exfalso; omega) | with_reducible rfl)))
      (try simp only [Act.put, List.setIfInBounds_toArray, List.set_cons_zero, List.set_cons_succ])
      refine wpAnyH_takeD (i := 14) (d := some 42) (v := ?_) rfl (by kernel_rfl) (by kernel_rfl) (by kernel_rfl) (by kernel_rfl) (fun _ _ _ h => h) (Or.inl ⟨by kernel_rfl, ?_⟩) (by assumption) ?_
      rotate_left
      · (intro w hSw; (try dsimp only at hSw); go_simp; try (first | with_reducible rfl | (split <;> first | (exfalso; omega) | with_reducible rfl)))
      (try simp only [Act.put, List.setIfInBounds_toArray, List.set_cons_zero, List.set_cons_succ])
      refine wpAnyH_takeD (i := 15) (d := some 43) (v := ?_) rfl (by kernel_rfl) (by kernel_rfl) (by kernel_rfl) (by kernel_rfl) (fun _ _ _ h => h) (Or.inl ⟨by kernel_rfl, ?_⟩) (by assumption) ?_
      rotate_left
      · (intro w hSw; (try dsimp only at hSw); go_simp; try (first | with_reducible rfl | (split <;> first | (exfalso; omega) | with_reducible rfl)))
      (try simp only [Act.put, List.setIfInBounds_toArray, List.set_cons_zero, List.set_cons_succ])
      refine wpAnyH_takeD (i := 16) (d := some 44) (v := ?_) rfl (by kernel_rfl) (by kernel_rfl) (by kernel_rfl) (by kernel_rfl) (fun _ _ _ h => h) (Or.inl ⟨by kernel_rfl, ?_⟩) (by assumption) ?_
      rotate_left
      · (intro w hSw; (try dsimp only at hSw); go_simp; try (first | with_reducible rfl | (split <;> first | (exfalso; omega) | with_reducible rfl)))
      (try simp only [Act.put, List.setIfInBounds_toArray, List.set_cons_zero, List.set_cons_succ])
      have HNE : Hid (gz ≠ gs) := Lib.hid (by have := HSA.out.2.2; omega)
      refine wpAnyH_ready (rs := [18]) (by kernel_rfl) (by simp) ?_
      refine AllReadyH.cons rfl (fun K0 hK => ?_) AllReadyH.nil
      obtain ⟨y0, y1, y2, y3, y4, y5⟩ := HZ.out.cells
      obtain ⟨g0, g1, g2, g3, g4, g5⟩ := HZ.out.froz
      have hlR := HZ.out.lt
      go_simp
      refine hK.out _ _ ⟨cell_set6 (by have := HNE.out; omega) hHeld.1, cell_set6 (by have := HNE.out; omega) hHeld.2⟩ (fun hHeld => ?_)
      clear hK K0
      (try simp only [Act.put, List.setIfInBounds_toArray, List.set_cons_zero, List.set_cons_succ])
      refine wpAnyH_takeD (i := 19) (d := some 10) (v := ?_) rfl (by kernel_rfl) (by kernel_rfl) (by kernel_rfl) (by kernel_rfl) (fun _ _ _ h => h) (Or.inl ⟨by kernel_rfl, ?_⟩) (by assumption) ?_
      rotate_left
      · (intro w hSw; (try dsimp only at hSw); go_simp; try (first | with_reducible rfl | (split <;> first | (exfalso; omega) | with_reducible rfl)))
      (try simp only [Act.put, List.setIfInBounds_toArray, List.set_cons_zero, List.set_cons_succ])
      refine wpAnyH_takeD (i := 20) (d := some 11) (v := ?_) rfl (by kernel_rfl) (by kernel_rfl) (by kernel_rfl) (by kernel_rfl) (fun _ _ _ h => h) (Or.inl ⟨by kernel_rfl, ?_⟩) (by assumption) ?_
      rotate_left
      · (intro w hSw; (try dsimp only at hSw); go_simp; try (first | with_reducible rfl | (split <;> first | (exfalso; omega) | with_reducible rfl)))
      (try simp only [Act.put, List.setIfInBounds_toArray, List.set_cons_zero, List.set_cons_succ])
      refine wpAnyH_done (by kernel_rfl) ?_ _
      (try simp only [Act.put, List.setIfInBounds_toArray, List.set_cons_zero, List.set_cons_succ])
      have HFIN : Hid (∀ W, W = set6 we gz (.int .i64 h1.k) (.int .i64 h1.op) (.int .i64 h1.v) (.int .i64 h1.ln) (.string (st h1.nm)) (.slice a1 n1 c1) → Below w3.heap.size w3 W ∧ PA (tX si sk) W gz h1 a1 n1 c1 er (fun b => w3.heap.size ≤ b) ∧ w3.heap.size ≤ gz) := Lib.hid (fun W hW => by
        subst hW
        have b1 := HB0.out.trans (HP.out.1.mono HB0.out.size)
        refine ⟨below_s6 b1 HGZ.out, PA.of HP.out (by simp [tX]; omega) (HZ.out.s6 h1 _) (fun b _ hb => other_set6 b (by have := HSA.out.2.1; omega)) (by rw [size_set6]; exact Nat.le_refl _) (fun b hb => by have := HB0.out.size; omega), HGZ.out⟩)
      clear y0 y1 y2 y3 y4 y5 g0 g1 g2 g3 g4 g5 hlR hHeld
      go_wp2_with fail
      go_meet
      exact ⟨_, h1, a1, n1, c1, ln, er, rfl, rfl, rfl, Lib.hid (HFIN.out _ rfl)⟩
  case rest =>
  rename World => w4
  obtain ⟨gX, hX, aX, nX, cX, lnX, erX, rfl, rfl, rfl, HQ⟩ := hcut
  replace HCS : Hid (gs < w4.heap.size ∧ w4.cell? ⟨gs, i, none⟩ = some (.string (st si)) ∧ w4.cell? ⟨gs, k, none⟩ = some (.string (st sk))) := Lib.hid ⟨by have := HQ.out.1.size; have := HCS.out.1; omega, (HQ.out.1.cell (p := ⟨gs, i, none⟩) HCS.out.1).trans HCS.out.2.1, (HQ.out.1.cell (p := ⟨gs, k, none⟩) HCS.out.1).trans HCS.out.2.2⟩
  replace HLV : Hid (gs + 1 < w4.heap.size ∧ w4.cell? ⟨gs + 1, i, none⟩ = some (.int .i64 li) ∧ w4.cell? ⟨gs + 1, k, none⟩ = some (.int .i64 lk)) := Lib.hid ⟨by have := HQ.out.1.size; have := HLV.out.1; omega, (HQ.out.1.cell (p := ⟨gs + 1, i, none⟩) HLV.out.1).trans HLV.out.2.1, (HQ.out.1.cell (p := ⟨gs + 1, k, none⟩) HLV.out.1).trans HLV.out.2.2⟩
  replace HB := Lib.hid (HB.out.trans (HQ.out.1.mono HB.out.size))
  have HX := Lib.hid HQ.out.2.1
  have HGX := Lib.hid HQ.out.2.2
  clear HQ
  have HBW4 : Hid (w.heap.size ≤ w4.heap.size) := Lib.hid HB.out.size
  replace HX := Lib.hid (HX.out.mono (Q := fun b => b < w4.heap.size) (fun b _ hlt => hlt))
  have HXG : Hid (gX < w4.heap.size) := Lib.hid HX.out.lc.lt
  go_upto_region 7 with fail
  go_cut [12, 13, 14] from 45 to 61 (fun v12 v13 v14 wx => ∃ (g : Nat) (h1 : Hd) (a1 : Option Addr) (n1 c1 : Nat) (ln er : Int), v12 = .pointer (some ⟨g, 0, none⟩) ∧ v13 = .int .i64 ln ∧ v14 = .int .i64 er ∧ Hid (Below w4.heap.size w4 wx ∧ PA (tL si sk) wx g h1 a1 n1 c1 er (fun b => w4.heap.size ≤ b) ∧ w4.heap.size ≤ g))
  case first =>
    obtain ⟨wd, hwd⟩ : ∃ W, w4.drew = W := ⟨_, rfl⟩
    have HCD : Hid (gs < wd.heap.size ∧ wd.cell? ⟨gs, i, none⟩ = some (.string (st si)) ∧ wd.cell? ⟨gs, k, none⟩ = some (.string (st sk))) := Lib.hid (by rw [← hwd]; exact HCS.out)
    have HBD : Hid (Below w4.heap.size w4 wd) := Lib.hid (by rw [← hwd]; exact (Below.refl _ _).drew)
    have HWD : Hid (Lad wd) := Lib.hid (HW.out.below (HB.out.trans (HBD.out.mono HB.out.size)))
    refine wp_region_held_drew (S := (fun w' => w'.cell? ⟨gs, i, none⟩ = some (.string (st si)) ∧ w'.cell? ⟨gs, k, none⟩ = some (.string (st sk)))) (by kernel_rfl) (by rw [hwd]; exact HCD.out.2) (fun hHeld => ?_)
    rw [hwd] at hHeld ⊢
    clear hwd
    refine wpAnyH_takeD (i := 0) (d := some 46) (v := ?_) rfl (by kernel_rfl) (by kernel_rfl) (by kernel_rfl) (by kernel_rfl) (fun _ _ _ h => h) (Or.inl ⟨by kernel_rfl, ?_⟩) (by assumption) ?_
    rotate_left
    · (intro w hSw; (try dsimp only at hSw); go_simp; try (first | with_reducible rfl | (split <;> first | (exfalso; omega) | with_reducible rfl)))
    (try simp only [Act.put, List.setIfInBounds_toArray, List.set_cons_zero, List.set_cons_succ])
    refine wpAnyH_takeD (i := 1) (d := some 47) (v := ?_) rfl (by kernel_rfl) (by kernel_rfl) (by kernel_rfl) (by kernel_rfl) (fun _ _ _ h => h) (Or.inl ⟨by kernel_rfl, ?_⟩) (by assumption) ?_
    rotate_left
    · (intro w hSw; (try dsimp only at hSw); go_simp; try (first | with_reducible rfl | (split <;> first | (exfalso; omega) | with_reducible rfl)))
    (try simp only [Act.put, List.setIfInBounds_toArray, List.set_cons_zero, List.set_cons_succ])
    refine wpAnyH_takeD (i := 2) (d := some 48) (v := ?_) rfl (by kernel_rfl) (by kernel_rfl) (by kernel_rfl) (by kernel_rfl) (fun _ _ _ h => h) (Or.inl ⟨by kernel_rfl, ?_⟩) (by assumption) ?_
    rotate_left
    · (intro w hSw; (try dsimp only at hSw); go_simp; try (first | with_reducible rfl | (split <;> first | (exfalso; omega) | with_reducible rfl)))
    (try simp only [Act.put, List.setIfInBounds_toArray, List.set_cons_zero, List.set_cons_succ])
    refine wpAnyH_takeD (i := 3) (d := some 49) (v := ?_) rfl (by kernel_rfl) (by kernel_rfl) (by kernel_rfl) (by kernel_rfl) (fun _ _ _ h => h) (Or.inl ⟨by kernel_rfl, ?_⟩) (by assumption) ?_
    rotate_left
    · (intro w hSw; (try dsimp only at hSw); go_simp; try (first | with_reducible rfl | (split <;> first | (exfalso; omega) | with_reducible rfl)))
    (try simp only [Act.put, List.setIfInBounds_toArray, List.set_cons_zero, List.set_cons_succ])
    refine wpAnyH_takeD (i := 4) (d := some 50) (v := ?_) rfl (by kernel_rfl) (by kernel_rfl) (by kernel_rfl) (by kernel_rfl) (fun _ _ _ h => h) (Or.inl ⟨by kernel_rfl, ?_⟩) (by assumption) ?_
    rotate_left
    · (intro w hSw; (try dsimp only at hSw); go_simp; try (first | with_reducible rfl | (split <;> first | (exfalso; omega) | with_reducible rfl)))
    (try simp only [Act.put, List.setIfInBounds_toArray, List.set_cons_zero, List.set_cons_succ])
    refine wpAnyH_takeD (i := 5) (d := some 51) (v := ?_) rfl (by kernel_rfl) (by kernel_rfl) (by kernel_rfl) (by kernel_rfl) (fun _ _ _ h => h) (Or.inl ⟨by kernel_rfl, ?_⟩) (by assumption) ?_
    rotate_left
    · (intro w hSw; (try dsimp only at hSw); go_simp; try (first | with_reducible rfl | (split <;> first | (exfalso; omega) | with_reducible rfl)))
    (try simp only [Act.put, List.setIfInBounds_toArray, List.set_cons_zero, List.set_cons_succ])
    refine wpAnyH_takeD (i := 6) (d := some 52) (v := ?_) rfl (by kernel_rfl) (by kernel_rfl) (by kernel_rfl) (by kernel_rfl) (fun _ _ _ h => h) (Or.inl ⟨by kernel_rfl, ?_⟩) (by assumption) ?_
    rotate_left
    · (intro w hSw; (try dsimp only at hSw); go_simp; try (first | with_reducible rfl | (split <;> first | (exfalso; omega) | with_reducible rfl)))
    (try simp only [Act.put, List.setIfInBounds_toArray, List.set_cons_zero, List.set_cons_succ])
    refine wpAnyH_takeD (i := 7) (d := some 53) (v := ?_) rfl (by kernel_rfl) (by kernel_rfl) (by kernel_rfl) (by kernel_rfl) (fun _ _ _ h => h) (Or.inl ⟨by kernel_rfl, ?_⟩) (by assumption) ?_
    rotate_left
    · (intro w hSw; (try dsimp only at hSw); go_simp; try (first | with_reducible rfl | (split <;> first | (exfalso; omega) | with_reducible rfl)))
    (try simp only [Act.put, List.setIfInBounds_toArray, List.set_cons_zero, List.set_cons_succ])
    refine wpAnyH_takeD (i := 8) (d := some 54) (v := ?_) rfl (by kernel_rfl) (by kernel_rfl) (by kernel_rfl) (by kernel_rfl) (fun _ _ _ h => h) (Or.inl ⟨by kernel_rfl, ?_⟩) (by assumption) ?_
    rotate_left
    · (intro w hSw; (try dsimp only at hSw); go_simp; try (first | with_reducible rfl | (split <;> first | (exfalso; omega) | with_reducible rfl)))
    (try simp only [Act.put, List.setIfInBounds_toArray, List.set_cons_zero, List.set_cons_succ])
    refine wpAnyH_takeD (i := 9) (d := some 55) (v := ?_) rfl (by kernel_rfl) (by kernel_rfl) (by kernel_rfl) (by kernel_rfl) (fun _ _ _ h => h) (Or.inl ⟨by kernel_rfl, ?_⟩) (by assumption) ?_
    rotate_left
    · (intro w hSw; (try dsimp only at hSw); go_simp; try (first | with_reducible rfl | (split <;> first | (exfalso; omega) | with_reducible rfl)))
    (try simp only [Act.put, List.setIfInBounds_toArray, List.set_cons_zero, List.set_cons_succ])
    refine wpAnyH_takeD (i := 10) (d := some 56) (v := ?_) rfl (by kernel_rfl) (by kernel_rfl) (by kernel_rfl) (by kernel_rfl) (fun _ _ _ h => h) (Or.inl ⟨by kernel_rfl, ?_⟩) (by assumption) ?_
    rotate_left
    · (intro w hSw; (try dsimp only at hSw); go_simp; try (first | with_reducible rfl | (split <;> first | (exfalso; omega) | with_reducible rfl)))
    (try simp only [Act.put, List.setIfInBounds_toArray, List.set_cons_zero, List.set_cons_succ])
    refine wpAnyH_takeD (i := 11) (d := some 57) (v := ?_) rfl (by kernel_rfl) (by kernel_rfl) (by kernel_rfl) (by kernel_rfl) (fun _ _ _ h => h) (Or.inl ⟨by kernel_rfl, ?_⟩) (by assumption) ?_
    rotate_left
    · (intro w hSw; (try dsimp only at hSw); go_simp; try (first | with_reducible rfl | (split <;> first | (exfalso; omega) | with_reducible rfl)))
    (try simp only [Act.put, List.setIfInBounds_toArray, List.set_cons_zero, List.set_cons_succ])
    refine wpAnyH_ready (rs := [12, 17]) (by kernel_rfl) (by simp) ?_
    refine AllReadyH.cons rfl (fun K0 hK => ?_) (AllReadyH.cons rfl (fun K0 hK => ?_) AllReadyH.nil)
    · go_simp
      refine (ParseExpr_any (tL si sk) (by simp [tL]; omega) wd HWD.out).mono ?_
      intro e we hp
      obtain ⟨h1, a1, n1, c1, ln, er, rfl⟩ := pe_form hp
      have HP := Lib.hid hp
      have HZ := Lib.hid (Lc.zero we)
      refine hK.out _ _ ⟨(hp.1.cell HCD.out.1).trans hHeld.1, (hp.1.cell HCD.out.1).trans hHeld.2⟩ (fun hHeld => ?_)
      clear hK K0 hp
      (try simp only [Act.put, List.setIfInBounds_toArray, List.set_cons_zero, List.set_cons_succ])
      refine wpAnyH_takeD (i := 13) (d := some 45) (v := ?_) rfl (by kernel_rfl) (by kernel_rfl) (by kernel_rfl) (by kernel_rfl) (fun _ _ _ h => h) (Or.inl ⟨by kernel_rfl, ?_⟩) (by assumption) ?_
      rotate_left
      · (intro w hSw; (try dsimp only at hSw); go_simp; try (first | with_reducible rfl | (split <;> first | (exfalso; omega) | with_reducible rfl)))
      (try simp only [Act.put, List.setIfInBounds_toArray, List.set_cons_zero, List.set_cons_succ])
      refine wpAnyH_takeD (i := 14) (d := some 59) (v := ?_) rfl (by kernel_rfl) (by kernel_rfl) (by kernel_rfl) (by kernel_rfl) (fun _ _ _ h => h) (Or.inl ⟨by kernel_rfl, ?_⟩) (by assumption) ?_
      rotate_left
      · (intro w hSw; (try dsimp only at hSw); go_simp; try (first | with_reducible rfl | (split <;> first | (exfalso; omega) | with_reducible rfl)))
      (try simp only [Act.put, List.setIfInBounds_toArray, List.set_cons_zero, List.set_cons_succ])
      refine wpAnyH_takeD (i := 15) (d := some 60) (v := ?_) rfl (by kernel_rfl) (by kernel_rfl) (by kernel_rfl) (by kernel_rfl) (fun _ _ _ h => h) (Or.inl ⟨by kernel_rfl, ?_⟩) (by assumption) ?_
      rotate_left
      · (intro w hSw; (try dsimp only at hSw); go_simp; try (first | with_reducible rfl | (split <;> first | (exfalso; omega) | with_reducible rfl)))
      (try simp only [Act.put, List.setIfInBounds_toArray, List.set_cons_zero, List.set_cons_succ])
      refine wpAnyH_takeD (i := 16) (d := some 61) (v := ?_) rfl (by kernel_rfl) (by kernel_rfl) (by kernel_rfl) (by kernel_rfl) (fun _ _ _ h => h) (Or.inl ⟨by kernel_rfl, ?_⟩) (by assumption) ?_
      rotate_left
      · (intro w hSw; (try dsimp only at hSw); go_simp; try (first | with_reducible rfl | (split <;> first | (exfalso; omega) | with_reducible rfl)))
      (try simp only [Act.put, List.setIfInBounds_toArray, List.set_cons_zero, List.set_cons_succ])
      refine wpAnyH_ready (rs := [17]) (by kernel_rfl) (by simp) ?_
      refine AllReadyH.cons rfl (fun K0 hK => ?_) AllReadyH.nil
      go_simp
      refine hK.out _ _ ⟨cell_ml _ hHeld.1, cell_ml _ hHeld.2⟩ (fun hHeld => ?_)
      clear hK K0
      (try simp only [Act.put, List.setIfInBounds_toArray, List.set_cons_zero, List.set_cons_succ])
      have HNE : Hid (we.heap.size ≠ gs) := Lib.hid (by have := HP.out.1.size; have := HCD.out.1; omega)
      have HBQ := Lib.hid (below_alloc we zex)
      have HGZ : Hid (we.heap.size ≤ we.heap.size) := Lib.hid (Nat.le_refl _)
      obtain ⟨wq, hwq⟩ : ∃ W, we.alloc zex = W := ⟨_, rfl⟩
      obtain ⟨gz, hgz⟩ : ∃ x, we.heap.size = x := ⟨_, rfl⟩
      have hwq2 : we.alloc (.cells #[.int .i64 0, .int .i64 0, .int .i64 0, .int .i64 0, .string { data := #[] }, .slice none 0 0] 31) = wq := hwq
      (try rw [hwq2])
      rw [hwq, hgz] at HZ
      rw [hgz] at HNE
      rw [hwq] at HBQ hHeld
      have HGZ2 : Hid (we.heap.size = gz) := Lib.hid hgz
      (try rw [hgz])
      clear hwq hwq2 hgz HGZ
      refine wpAnyH_ready (rs := [18]) (by kernel_rfl) (by simp) ?_
      refine AllReadyH.cons rfl (fun K0 hK => ?_) AllReadyH.nil
      obtain ⟨y0, y1, y2, y3, y4, y5⟩ := HZ.out.cells
      obtain ⟨g0, g1, g2, g3, g4, g5⟩ := HZ.out.froz
      have hlR := HZ.out.lt
      go_simp
      refine hK.out _ _ ⟨cell_set6 (by have := HNE.out; omega) hHeld.1, cell_set6 (by have := HNE.out; omega) hHeld.2⟩ (fun hHeld => ?_)
      clear hK K0
      (try simp only [Act.put, List.setIfInBounds_toArray, List.set_cons_zero, List.set_cons_succ])
      refine wpAnyH_takeD (i := 19) (d := some 13) (v := ?_) rfl (by kernel_rfl) (by kernel_rfl) (by kernel_rfl) (by kernel_rfl) (fun _ _ _ h => h) (Or.inl ⟨by kernel_rfl, ?_⟩) (by assumption) ?_
      rotate_left
      · (intro w hSw; (try dsimp only at hSw); go_simp; try (first | with_reducible rfl | (split <;> first | (exfalso; omega) | with_reducible rfl)))
      (try simp only [Act.put, List.setIfInBounds_toArray, List.set_cons_zero, List.set_cons_succ])
      refine wpAnyH_takeD (i := 20) (d := some 14) (v := ?_) rfl (by kernel_rfl) (by kernel_rfl) (by kernel_rfl) (by kernel_rfl) (fun _ _ _ h => h) (Or.inl ⟨by kernel_rfl, ?_⟩) (by assumption) ?_
      rotate_left
      · (intro w hSw; (try dsimp only at hSw); go_simp; try (first | with_reducible rfl | (split <;> first | (exfalso; omega) | with_reducible rfl)))
      (try simp only [Act.put, List.setIfInBounds_toArray, List.set_cons_zero, List.set_cons_succ])
      refine wpAnyH_done (by kernel_rfl) ?_ _
      (try simp only [Act.put, List.setIfInBounds_toArray, List.set_cons_zero, List.set_cons_succ])
      have HFIN : Hid (∀ W, W = set6 wq gz (.int .i64 h1.k) (.int .i64 h1.op) (.int .i64 h1.v) (.int .i64 h1.ln) (.string (st h1.nm)) (.slice a1 n1 c1) → Below w4.heap.size w4 W ∧ PA (tL si sk) W gz h1 a1 n1 c1 er (fun b => w4.heap.size ≤ b) ∧ w4.heap.size ≤ gz) := Lib.hid (fun W hW => by
        subst hW
        have b1 := HBD.out.trans (HP.out.1.mono HBD.out.size)
        have hgz := HGZ2.out
        refine ⟨below_s6 (b1.trans (HBQ.out.mono b1.size)) (by have := b1.size; omega), PA.of HP.out (by simp [tL]; omega) (HZ.out.s6 h1 _) (fun b hb _ => (other_set6 b (by omega)).trans (HBQ.out.block b hb)) (by rw [size_set6]; exact HBQ.out.size) (fun b hb => by have := HBD.out.size; omega), by have := b1.size; omega⟩)
      clear y0 y1 y2 y3 y4 y5 g0 g1 g2 g3 g4 g5 hlR hHeld
      go_wp2_with fail
      go_meet
      exact ⟨_, h1, a1, n1, c1, ln, er, rfl, rfl, rfl, Lib.hid (HFIN.out _ rfl)⟩
    · go_simp
      refine hK.out _ _ ⟨cell_ml _ hHeld.1, cell_ml _ hHeld.2⟩ (fun hHeld => ?_)
      clear hK K0
      (try simp only [Act.put, List.setIfInBounds_toArray, List.set_cons_zero, List.set_cons_succ])
      have HZ0 := Lib.hid (Lc.zero wd)
      have HWA := Lib.hid (HWD.out.below (below_alloc wd zex))
      have HSA : Hid (gs < (wd.alloc zex).heap.size ∧ (wd.alloc zex).heap.size = wd.heap.size + 1 ∧ gs < wd.heap.size) := Lib.hid ⟨by simp; have := HCD.out.1; omega, by simp, HCD.out.1⟩
      have HB0 := Lib.hid (HBD.out.alloc HBD.out.size zex)
      have HGZ : Hid (w4.heap.size ≤ wd.heap.size) := Lib.hid HBD.out.size
      obtain ⟨wq, hwq⟩ : ∃ W, wd.alloc zex = W := ⟨_, rfl⟩
      obtain ⟨gz, hgz⟩ : ∃ x, wd.heap.size = x := ⟨_, rfl⟩
      have hwq2 : wd.alloc (.cells #[.int .i64 0, .int .i64 0, .int .i64 0, .int .i64 0, .string { data := #[] }, .slice none 0 0] 31) = wq := hwq
      (try rw [hwq2])
      rw [hwq, hgz] at HZ0 HSA
      rw [hwq] at HWA HB0 hHeld
      rw [hgz] at HGZ
      (try rw [hgz])
      clear hwq hwq2 hgz
      refine wpAnyH_ready (rs := [12]) (by kernel_rfl) (by simp) ?_
      refine AllReadyH.cons rfl (fun K0 hK => ?_) AllReadyH.nil
      go_simp
      refine (ParseExpr_any (tL si sk) (by simp [tL]; omega) wq HWA.out).mono ?_
      intro e we hp
      obtain ⟨h1, a1, n1, c1, ln, er, rfl⟩ := pe_form hp
      have HP := Lib.hid hp
      have HZ := Lib.hid (HZ0.out.be hp.1)
      refine hK.out _ _ ⟨(hp.1.cell HSA.out.1).trans hHeld.1, (hp.1.cell HSA.out.1).trans hHeld.2⟩ (fun hHeld => ?_)
      clear hK K0 hp
      (try simp only [Act.put, List.setIfInBounds_toArray, List.set_cons_zero, List.set_cons_succ])
      refine wpAnyH_takeD (i := 13) (d := some 45) (v := ?_) rfl (by kernel_rfl) (by kernel_rfl) (by kernel_rfl) (by kernel_rfl) (fun _ _ _ h => h) (Or.inl ⟨by kernel_rfl, ?_⟩) (by assumption) ?_
      rotate_left
      · (intro w hSw; (try dsimp only at hSw); go_simp; try (first | with_reducible rfl | (split <;> first | (exfalso; omega) | with_reducible rfl)))
      (try simp only [Act.put, List.setIfInBounds_toArray, List.set_cons_zero, List.set_cons_succ])
      refine wpAnyH_takeD (i := 14) (d := some 59) (v := ?_) rfl (by kernel_rfl) (by kernel_rfl) (by kernel_rfl) (by kernel_rfl) (fun _ _ _ h => h) (Or.inl ⟨by kernel_rfl, ?_⟩) (by assumption) ?_
      rotate_left
      · (intro w hSw; (try dsimp only at hSw); go_simp; try (first | with_reducible rfl | (split <;> first | (exfalso; omega) | with_reducible rfl)))
      (try simp only [Act.put, List.setIfInBounds_toArray, List.set_cons_zero, List.set_cons_succ])
      refine wpAnyH_takeD (i := 15) (d := some 60) (v := ?_) rfl (by kernel_rfl) (by kernel_rfl) (by kernel_rfl) (by kernel_rfl) (fun _ _ _ h => h) (Or.inl ⟨by kernel_rfl, ?_⟩) (by assumption) ?_
      rotate_left
      · (intro w hSw; (try dsimp only at hSw); go_simp; try (first | with_reducible rfl | (split <;> first | (exfalso; omega) | with_reducible rfl)))
      (try simp only [Act.put, List.setIfInBounds_toArray, List.set_cons_zero, List.set_cons_succ])
      refine wpAnyH_takeD (i := 16) (d := some 61) (v := ?_) rfl (by kernel_rfl) (by kernel_rfl) (by kernel_rfl) (by kernel_rfl) (fun _ _ _ h => h) (Or.inl ⟨by kernel_rfl, ?_⟩) (by assumption) ?_
      rotate_left
      · (intro w hSw; (try dsimp only at hSw); go_simp; try (first | with_reducible rfl | (split <;> first | (exfalso; omega) | with_reducible rfl)))
      (try simp only [Act.put, List.setIfInBounds_toArray, List.set_cons_zero, List.set_cons_succ])
      have HNE : Hid (gz ≠ gs) := Lib.hid (by have := HSA.out.2.2; omega)
      refine wpAnyH_ready (rs := [18]) (by kernel_rfl) (by simp) ?_
      refine AllReadyH.cons rfl (fun K0 hK => ?_) AllReadyH.nil
      obtain ⟨y0, y1, y2, y3, y4, y5⟩ := HZ.out.cells
      obtain ⟨g0, g1, g2, g3, g4, g5⟩ := HZ.out.froz
      have hlR := HZ.out.lt
      go_simp
      refine hK.out _ _ ⟨cell_set6 (by have := HNE.out; omega) hHeld.1, cell_set6 (by have := HNE.out; omega) hHeld.2⟩ (fun hHeld => ?_)
      clear hK K0
      (try simp only [Act.put, List.setIfInBounds_toArray, List.set_cons_zero, List.set_cons_succ])
      refine wpAnyH_takeD (i := 19) (d := some 13) (v := ?_) rfl (by kernel_rfl) (by kernel_rfl) (by kernel_rfl) (by kernel_rfl) (fun _ _ _ h => h) (Or.inl ⟨by kernel_rfl, ?_⟩) (by assumption) ?_
      rotate_left
      · (intro w hSw; (try dsimp only at hSw); go_simp; try (first | with_reducible rfl | (split <;> first | (exfalso; omega) | with_reducible rfl)))
      (try simp only [Act.put, List.setIfInBounds_toArray, List.set_cons_zero, List.set_cons_succ])
      refine wpAnyH_takeD (i := 20) (d := some 14) (v := ?_) rfl (by kernel_rfl) (by kernel_rfl) (by kernel_rfl) (by kernel_rfl) (fun _ _ _ h => h) (Or.inl ⟨by kernel_rfl, ?_⟩) (by assumption) ?_
      rotate_left
      · (intro w hSw; (try dsimp only at hSw); go_simp; try (first | with_reducible rfl | (split <;> first | (exfalso; omega) | with_reducible rfl)))
      (try simp only [Act.put, List.setIfInBounds_toArray, List.set_cons_zero, List.set_cons_succ])
      refine wpAnyH_done (by kernel_rfl) ?_ _
      (try simp only [Act.put, List.setIfInBounds_toArray, List.set_cons_zero, List.set_cons_succ])
      have HFIN : Hid (∀ W, W = set6 we gz (.int .i64 h1.k) (.int .i64 h1.op) (.int .i64 h1.v) (.int .i64 h1.ln) (.string (st h1.nm)) (.slice a1 n1 c1) → Below w4.heap.size w4 W ∧ PA (tL si sk) W gz h1 a1 n1 c1 er (fun b => w4.heap.size ≤ b) ∧ w4.heap.size ≤ gz) := Lib.hid (fun W hW => by
        subst hW
        have b1 := HB0.out.trans (HP.out.1.mono HB0.out.size)
        refine ⟨below_s6 b1 HGZ.out, PA.of HP.out (by simp [tL]; omega) (HZ.out.s6 h1 _) (fun b _ hb => other_set6 b (by have := HSA.out.2.1; omega)) (by rw [size_set6]; exact Nat.le_refl _) (fun b hb => by have := HB0.out.size; omega), HGZ.out⟩)
      clear y0 y1 y2 y3 y4 y5 g0 g1 g2 g3 g4 g5 hlR hHeld
      go_wp2_with fail
      go_meet
      exact ⟨_, h1, a1, n1, c1, ln, er, rfl, rfl, rfl, Lib.hid (HFIN.out _ rfl)⟩
  case rest =>
  rename World => w5
  obtain ⟨gL, hL, aL, nL, cL, lnL, erL, rfl, rfl, rfl, HQ⟩ := hcut
  replace HCS : Hid (gs < w5.heap.size ∧ w5.cell? ⟨gs, i, none⟩ = some (.string (st si)) ∧ w5.cell? ⟨gs, k, none⟩ = some (.string (st sk))) := Lib.hid ⟨by have := HQ.out.1.size; have := HCS.out.1; omega, (HQ.out.1.cell (p := ⟨gs, i, none⟩) HCS.out.1).trans HCS.out.2.1, (HQ.out.1.cell (p := ⟨gs, k, none⟩) HCS.out.1).trans HCS.out.2.2⟩
  replace HLV : Hid (gs + 1 < w5.heap.size ∧ w5.cell? ⟨gs + 1, i, none⟩ = some (.int .i64 li) ∧ w5.cell? ⟨gs + 1, k, none⟩ = some (.int .i64 lk)) := Lib.hid ⟨by have := HQ.out.1.size; have := HLV.out.1; omega, (HQ.out.1.cell (p := ⟨gs + 1, i, none⟩) HLV.out.1).trans HLV.out.2.1, (HQ.out.1.cell (p := ⟨gs + 1, k, none⟩) HLV.out.1).trans HLV.out.2.2⟩
  replace HB := Lib.hid (HB.out.trans (HQ.out.1.mono HB.out.size))
  have HL := Lib.hid HQ.out.2.1
  have HGL := Lib.hid HQ.out.2.2
  replace HX := Lib.hid (HX.out.be HQ.out.1)
  clear HQ
  have HLG : Hid (gL < w5.heap.size) := Lib.hid HL.out.lc.lt
  go_upto_region 8 with fail
  go_cut [15, 16, 17] from 62 to 78 (fun v15 v16 v17 wx => ∃ (g : Nat) (h1 : Hd) (a1 : Option Addr) (n1 c1 : Nat) (ln er : Int), v15 = .pointer (some ⟨g, 0, none⟩) ∧ v16 = .int .i64 ln ∧ v17 = .int .i64 er ∧ Hid (Below w5.heap.size w5 wx ∧ PA (tR si sk) wx g h1 a1 n1 c1 er (fun b => w5.heap.size ≤ b) ∧ w5.heap.size ≤ g))
  case first =>
    obtain ⟨wd, hwd⟩ : ∃ W, w5.drew = W := ⟨_, rfl⟩
    have HCD : Hid (gs < wd.heap.size ∧ wd.cell? ⟨gs, i, none⟩ = some (.string (st si)) ∧ wd.cell? ⟨gs, k, none⟩ = some (.string (st sk))) := Lib.hid (by rw [← hwd]; exact HCS.out)
    have HBD : Hid (Below w5.heap.size w5 wd) := Lib.hid (by rw [← hwd]; exact (Below.refl _ _).drew)
    have HWD : Hid (Lad wd) := Lib.hid (HW.out.below (HB.out.trans (HBD.out.mono HB.out.size)))
    refine wp_region_held_drew (S := (fun w' => w'.cell? ⟨gs, i, none⟩ = some (.string (st si)) ∧ w'.cell? ⟨gs, k, none⟩ = some (.string (st sk)))) (by kernel_rfl) (by rw [hwd]; exact HCD.out.2) (fun hHeld => ?_)
    rw [hwd] at hHeld ⊢
    clear hwd
    refine wpAnyH_takeD (i := 0) (d := some 63) (v := ?_) rfl (by kernel_rfl) (by kernel_rfl) (by kernel_rfl) (by kernel_rfl) (fun _ _ _ h => h) (Or.inl ⟨by kernel_rfl, ?_⟩) (by assumption) ?_
    rotate_left
    · (intro w hSw; (try dsimp only at hSw); go_simp; try (first | with_reducible rfl | (split <;> first | (exfalso; omega) | with_reducible rfl)))
    (try simp only [Act.put, List.setIfInBounds_toArray, List.set_cons_zero, List.set_cons_succ])
    refine wpAnyH_takeD (i := 1) (d := some 64) (v := ?_) rfl (by kernel_rfl) (by kernel_rfl) (by kernel_rfl) (by kernel_rfl) (fun _ _ _ h => h) (Or.inl ⟨by kernel_rfl, ?_⟩) (by assumption) ?_
    rotate_left
    · (intro w hSw; (try dsimp only at hSw); go_simp; try (first | with_reducible rfl | (split <;> first | (exfalso; omega) | with_reducible rfl)))
    (try simp only [Act.put, List.setIfInBounds_toArray, List.set_cons_zero, List.set_cons_succ])
    refine wpAnyH_takeD (i := 2) (d := some 65) (v := ?_) rfl (by kernel_rfl) (by kernel_rfl) (by kernel_rfl) (by kernel_rfl) (fun _ _ _ h => h) (Or.inl ⟨by kernel_rfl, ?_⟩) (by assumption) ?_
    rotate_left
    · (intro w hSw; (try dsimp only at hSw); go_simp; try (first | with_reducible rfl | (split <;> first | (exfalso; omega) | with_reducible rfl)))
    (try simp only [Act.put, List.setIfInBounds_toArray, List.set_cons_zero, List.set_cons_succ])
    refine wpAnyH_takeD (i := 3) (d := some 66) (v := ?_) rfl (by kernel_rfl) (by kernel_rfl) (by kernel_rfl) (by kernel_rfl) (fun _ _ _ h => h) (Or.inl ⟨by kernel_rfl, ?_⟩) (by assumption) ?_
    rotate_left
    · (intro w hSw; (try dsimp only at hSw); go_simp; try (first | with_reducible rfl | (split <;> first | (exfalso; omega) | with_reducible rfl)))
    (try simp only [Act.put, List.setIfInBounds_toArray, List.set_cons_zero, List.set_cons_succ])
    refine wpAnyH_takeD (i := 4) (d := some 67) (v := ?_) rfl (by kernel_rfl) (by kernel_rfl) (by kernel_rfl) (by kernel_rfl) (fun _ _ _ h => h) (Or.inl ⟨by kernel_rfl, ?_⟩) (by assumption) ?_
    rotate_left
    · (intro w hSw; (try dsimp only at hSw); go_simp; try (first | with_reducible rfl | (split <;> first | (exfalso; omega) | with_reducible rfl)))
    (try simp only [Act.put, List.setIfInBounds_toArray, List.set_cons_zero, List.set_cons_succ])
    refine wpAnyH_takeD (i := 5) (d := some 68) (v := ?_) rfl (by kernel_rfl) (by kernel_rfl) (by kernel_rfl) (by kernel_rfl) (fun _ _ _ h => h) (Or.inl ⟨by kernel_rfl, ?_⟩) (by assumption) ?_
    rotate_left
    · (intro w hSw; (try dsimp only at hSw); go_simp; try (first | with_reducible rfl | (split <;> first | (exfalso; omega) | with_reducible rfl)))
    (try simp only [Act.put, List.setIfInBounds_toArray, List.set_cons_zero, List.set_cons_succ])
    refine wpAnyH_takeD (i := 6) (d := some 69) (v := ?_) rfl (by kernel_rfl) (by kernel_rfl) (by kernel_rfl) (by kernel_rfl) (fun _ _ _ h => h) (Or.inl ⟨by kernel_rfl, ?_⟩) (by assumption) ?_
    rotate_left
    · (intro w hSw; (try dsimp only at hSw); go_simp; try (first | with_reducible rfl | (split <;> first | (exfalso; omega) | with_reducible rfl)))
    (try simp only [Act.put, List.setIfInBounds_toArray, List.set_cons_zero, List.set_cons_succ])
    refine wpAnyH_takeD (i := 7) (d := some 70) (v := ?_) rfl (by kernel_rfl) (by kernel_rfl) (by kernel_rfl) (by kernel_rfl) (fun _ _ _ h => h) (Or.inl ⟨by kernel_rfl, ?_⟩) (by assumption) ?_
    rotate_left
    · (intro w hSw; (try dsimp only at hSw); go_simp; try (first | with_reducible rfl | (split <;> first | (exfalso; omega) | with_reducible rfl)))
    (try simp only [Act.put, List.setIfInBounds_toArray, List.set_cons_zero, List.set_cons_succ])
    refine wpAnyH_takeD (i := 8) (d := some 71) (v := ?_) rfl (by kernel_rfl) (by kernel_rfl) (by kernel_rfl) (by kernel_rfl) (fun _ _ _ h => h) (Or.inl ⟨by kernel_rfl, ?_⟩) (by assumption) ?_
    rotate_left
    · (intro w hSw; (try dsimp only at hSw); go_simp; try (first | with_reducible rfl | (split <;> first | (exfalso; omega) | with_reducible rfl)))
    (try simp only [Act.put, List.setIfInBounds_toArray, List.set_cons_zero, List.set_cons_succ])
    refine wpAnyH_takeD (i := 9) (d := some 72) (v := ?_) rfl (by kernel_rfl) (by kernel_rfl) (by kernel_rfl) (by kernel_rfl) (fun _ _ _ h => h) (Or.inl ⟨by kernel_rfl, ?_⟩) (by assumption) ?_
    rotate_left
    · (intro w hSw; (try dsimp only at hSw); go_simp; try (first | with_reducible rfl | (split <;> first | (exfalso; omega) | with_reducible rfl)))
    (try simp only [Act.put, List.setIfInBounds_toArray, List.set_cons_zero, List.set_cons_succ])
    refine wpAnyH_takeD (i := 10) (d := some 73) (v := ?_) rfl (by kernel_rfl) (by kernel_rfl) (by kernel_rfl) (by kernel_rfl) (fun _ _ _ h => h) (Or.inl ⟨by kernel_rfl, ?_⟩) (by assumption) ?_
    rotate_left
    · (intro w hSw; (try dsimp only at hSw); go_simp; try (first | with_reducible rfl | (split <;> first | (exfalso; omega) | with_reducible rfl)))
    (try simp only [Act.put, List.setIfInBounds_toArray, List.set_cons_zero, List.set_cons_succ])
    refine wpAnyH_takeD (i := 11) (d := some 74) (v := ?_) rfl (by kernel_rfl) (by kernel_rfl) (by kernel_rfl) (by kernel_rfl) (fun _ _ _ h => h) (Or.inl ⟨by kernel_rfl, ?_⟩) (by assumption) ?_
    rotate_left
    · (intro w hSw; (try dsimp only at hSw); go_simp; try (first | with_reducible rfl | (split <;> first | (exfalso; omega) | with_reducible rfl)))
    (try simp only [Act.put, List.setIfInBounds_toArray, List.set_cons_zero, List.set_cons_succ])
    refine wpAnyH_ready (rs := [12, 17]) (by kernel_rfl) (by simp) ?_
    refine AllReadyH.cons rfl (fun K0 hK => ?_) (AllReadyH.cons rfl (fun K0 hK => ?_) AllReadyH.nil)
    · go_simp
      refine (ParseExpr_any (tR si sk) (by simp [tR]; omega) wd HWD.out).mono ?_
      intro e we hp
      obtain ⟨h1, a1, n1, c1, ln, er, rfl⟩ := pe_form hp
      have HP := Lib.hid hp
      have HZ := Lib.hid (Lc.zero we)
      refine hK.out _ _ ⟨(hp.1.cell HCD.out.1).trans hHeld.1, (hp.1.cell HCD.out.1).trans hHeld.2⟩ (fun hHeld => ?_)
      clear hK K0 hp
      (try simp only [Act.put, List.setIfInBounds_toArray, List.set_cons_zero, List.set_cons_succ])
      refine wpAnyH_takeD (i := 13) (d := some 62) (v := ?_) rfl (by kernel_rfl) (by kernel_rfl) (by kernel_rfl) (by kernel_rfl) (fun _ _ _ h => h) (Or.inl ⟨by kernel_rfl, ?_⟩) (by assumption) ?_
      rotate_left
      · (intro w hSw; (try dsimp only at hSw); go_simp; try (first | with_reducible rfl | (split <;> first | (exfalso; omega) | with_reducible rfl)))
      (try simp only [Act.put, List.setIfInBounds_toArray, List.set_cons_zero, List.set_cons_succ])
      refine wpAnyH_takeD (i := 14) (d := some 76) (v := ?_) rfl (by kernel_rfl) (by kernel_rfl) (by kernel_rfl) (by kernel_rfl) (fun _ _ _ h => h) (Or.inl ⟨by kernel_rfl, ?_⟩) (by assumption) ?_
      rotate_left
      · (intro w hSw; (try dsimp only at hSw); go_simp; try (first | with_reducible rfl | (split <;> first | (exfalso; omega) | with_reducible rfl)))
      (try simp only [Act.put, List.setIfInBounds_toArray, List.set_cons_zero, List.set_cons_succ])
      refine wpAnyH_takeD (i := 15) (d := some 77) (v := ?_) rfl (by kernel_rfl) (by kernel_rfl) (by kernel_rfl) (by kernel_rfl) (fun _ _ _ h => h) (Or.inl ⟨by kernel_rfl, ?_⟩) (by assumption) ?_
      rotate_left
      · (intro w hSw; (try dsimp only at hSw); go_simp; try (first | with_reducible rfl | (split <;> first | (exfalso; omega) | with_reducible rfl)))
      (try simp only [Act.put, List.setIfInBounds_toArray, List.set_cons_zero, List.set_cons_succ])
      refine wpAnyH_takeD (i := 16) (d := some 78) (v := ?_) rfl (by kernel_rfl) (by kernel_rfl) (by kernel_rfl) (by kernel_rfl) (fun _ _ _ h => h) (Or.inl ⟨by kernel_rfl, ?_⟩) (by assumption) ?_
      rotate_left
      · (intro w hSw; (try dsimp only at hSw); go_simp; try (first | with_reducible rfl | (split <;> first | (exfalso; omega) | with_reducible rfl)))
      (try simp only [Act.put, List.setIfInBounds_toArray, List.set_cons_zero, List.set_cons_succ])
      refine wpAnyH_ready (rs := [17]) (by kernel_rfl) (by simp) ?_
      refine AllReadyH.cons rfl (fun K0 hK => ?_) AllReadyH.nil
      go_simp
      refine hK.out _ _ ⟨cell_ml _ hHeld.1, cell_ml _ hHeld.2⟩ (fun hHeld => ?_)
      clear hK K0
      (try simp only [Act.put, List.setIfInBounds_toArray, List.set_cons_zero, List.set_cons_succ])
      have HNE : Hid (we.heap.size ≠ gs) := Lib.hid (by have := HP.out.1.size; have := HCD.out.1; omega)
      have HBQ := Lib.hid (below_alloc we zex)
      have HGZ : Hid (we.heap.size ≤ we.heap.size) := Lib.hid (Nat.le_refl _)
      obtain ⟨wq, hwq⟩ : ∃ W, we.alloc zex = W := ⟨_, rfl⟩
      obtain ⟨gz, hgz⟩ : ∃ x, we.heap.size = x := ⟨_, rfl⟩
      have hwq2 : we.alloc (.cells #[.int .i64 0, .int .i64 0, .int .i64 0, .int .i64 0, .string { data := #[] }, .slice none 0 0] 31) = wq := hwq
      (try rw [hwq2])
      rw [hwq, hgz] at HZ
      rw [hgz] at HNE
      rw [hwq] at HBQ hHeld
      have HGZ2 : Hid (we.heap.size = gz) := Lib.hid hgz
      (try rw [hgz])
      clear hwq hwq2 hgz HGZ
      refine wpAnyH_ready (rs := [18]) (by kernel_rfl) (by simp) ?_
      refine AllReadyH.cons rfl (fun K0 hK => ?_) AllReadyH.nil
      obtain ⟨y0, y1, y2, y3, y4, y5⟩ := HZ.out.cells
      obtain ⟨g0, g1, g2, g3, g4, g5⟩ := HZ.out.froz
      have hlR := HZ.out.lt
      go_simp
      refine hK.out _ _ ⟨cell_set6 (by have := HNE.out; omega) hHeld.1, cell_set6 (by have := HNE.out; omega) hHeld.2⟩ (fun hHeld => ?_)
      clear hK K0
      (try simp only [Act.put, List.setIfInBounds_toArray, List.set_cons_zero, List.set_cons_succ])
      refine wpAnyH_takeD (i := 19) (d := some 16) (v := ?_) rfl (by kernel_rfl) (by kernel_rfl) (by kernel_rfl) (by kernel_rfl) (fun _ _ _ h => h) (Or.inl ⟨by kernel_rfl, ?_⟩) (by assumption) ?_
      rotate_left
      · (intro w hSw; (try dsimp only at hSw); go_simp; try (first | with_reducible rfl | (split <;> first | (exfalso; omega) | with_reducible rfl)))
      (try simp only [Act.put, List.setIfInBounds_toArray, List.set_cons_zero, List.set_cons_succ])
      refine wpAnyH_takeD (i := 20) (d := some 17) (v := ?_) rfl (by kernel_rfl) (by kernel_rfl) (by kernel_rfl) (by kernel_rfl) (fun _ _ _ h => h) (Or.inl ⟨by kernel_rfl, ?_⟩) (by assumption) ?_
      rotate_left
      · (intro w hSw; (try dsimp only at hSw); go_simp; try (first | with_reducible rfl | (split <;> first | (exfalso; omega) | with_reducible rfl)))
      (try simp only [Act.put, List.setIfInBounds_toArray, List.set_cons_zero, List.set_cons_succ])
      refine wpAnyH_done (by kernel_rfl) ?_ _
      (try simp only [Act.put, List.setIfInBounds_toArray, List.set_cons_zero, List.set_cons_succ])
      have HFIN : Hid (∀ W, W = set6 wq gz (.int .i64 h1.k) (.int .i64 h1.op) (.int .i64 h1.v) (.int .i64 h1.ln) (.string (st h1.nm)) (.slice a1 n1 c1) → Below w5.heap.size w5 W ∧ PA (tR si sk) W gz h1 a1 n1 c1 er (fun b => w5.heap.size ≤ b) ∧ w5.heap.size ≤ gz) := Lib.hid (fun W hW => by
        subst hW
        have b1 := HBD.out.trans (HP.out.1.mono HBD.out.size)
        have hgz := HGZ2.out
        refine ⟨below_s6 (b1.trans (HBQ.out.mono b1.size)) (by have := b1.size; omega), PA.of HP.out (by simp [tR]; omega) (HZ.out.s6 h1 _) (fun b hb _ => (other_set6 b (by omega)).trans (HBQ.out.block b hb)) (by rw [size_set6]; exact HBQ.out.size) (fun b hb => by have := HBD.out.size; omega), by have := b1.size; omega⟩)
      clear y0 y1 y2 y3 y4 y5 g0 g1 g2 g3 g4 g5 hlR hHeld
      go_wp2_with fail
      go_meet
      exact ⟨_, h1, a1, n1, c1, ln, er, rfl, rfl, rfl, Lib.hid (HFIN.out _ rfl)⟩
    · go_simp
      refine hK.out _ _ ⟨cell_ml _ hHeld.1, cell_ml _ hHeld.2⟩ (fun hHeld => ?_)
      clear hK K0
      (try simp only [Act.put, List.setIfInBounds_toArray, List.set_cons_zero, List.set_cons_succ])
      have HZ0 := Lib.hid (Lc.zero wd)
      have HWA := Lib.hid (HWD.out.below (below_alloc wd zex))
      have HSA : Hid (gs < (wd.alloc zex).heap.size ∧ (wd.alloc zex).heap.size = wd.heap.size + 1 ∧ gs < wd.heap.size) := Lib.hid ⟨by simp; have := HCD.out.1; omega, by simp, HCD.out.1⟩
      have HB0 := Lib.hid (HBD.out.alloc HBD.out.size zex)
      have HGZ : Hid (w5.heap.size ≤ wd.heap.size) := Lib.hid HBD.out.size
      obtain ⟨wq, hwq⟩ : ∃ W, wd.alloc zex = W := ⟨_, rfl⟩
      obtain ⟨gz, hgz⟩ : ∃ x, wd.heap.size = x := ⟨_, rfl⟩
      have hwq2 : wd.alloc (.cells #[.int .i64 0, .int .i64 0, .int .i64 0, .int .i64 0, .string { data := #[] }, .slice none 0 0] 31) = wq := hwq
      (try rw [hwq2])
      rw [hwq, hgz] at HZ0 HSA
      rw [hwq] at HWA HB0 hHeld
      rw [hgz] at HGZ
      (try rw [hgz])
      clear hwq hwq2 hgz
      refine wpAnyH_ready (rs := [12]) (by kernel_rfl) (by simp) ?_
      refine AllReadyH.cons rfl (fun K0 hK => ?_) AllReadyH.nil
      go_simp
      refine (ParseExpr_any (tR si sk) (by simp [tR]; omega) wq HWA.out).mono ?_
      intro e we hp
      obtain ⟨h1, a1, n1, c1, ln, er, rfl⟩ := pe_form hp
      have HP := Lib.hid hp
      have HZ := Lib.hid (HZ0.out.be hp.1)
      refine hK.out _ _ ⟨(hp.1.cell HSA.out.1).trans hHeld.1, (hp.1.cell HSA.out.1).trans hHeld.2⟩ (fun hHeld => ?_)
      clear hK K0 hp
      (try simp only [Act.put, List.setIfInBounds_toArray, List.set_cons_zero, List.set_cons_succ])
      refine wpAnyH_takeD (i := 13) (d := some 62) (v := ?_) rfl (by kernel_rfl) (by kernel_rfl) (by kernel_rfl) (by kernel_rfl) (fun _ _ _ h => h) (Or.inl ⟨by kernel_rfl, ?_⟩) (by assumption) ?_
      rotate_left
      · (intro w hSw; (try dsimp only at hSw); go_simp; try (first | with_reducible rfl | (split <;> first | (exfalso; omega) | with_reducible rfl)))
      (try simp only [Act.put, List.setIfInBounds_toArray, List.set_cons_zero, List.set_cons_succ])
      refine wpAnyH_takeD (i := 14) (d := some 76) (v := ?_) rfl (by kernel_rfl) (by kernel_rfl) (by kernel_rfl) (by kernel_rfl) (fun _ _ _ h => h) (Or.inl ⟨by kernel_rfl, ?_⟩) (by assumption) ?_
      rotate_left
      · (intro w hSw; (try dsimp only at hSw); go_simp; try (first | with_reducible rfl | (split <;> first | (exfalso; omega) | with_reducible rfl)))
      (try simp only [Act.put, List.setIfInBounds_toArray, List.set_cons_zero, List.set_cons_succ])
      refine wpAnyH_takeD (i := 15) (d := some 77) (v := ?_) rfl (by kernel_rfl) (by kernel_rfl) (by kernel_rfl) (by kernel_rfl) (fun _ _ _ h => h) (Or.inl ⟨by kernel_rfl, ?_⟩) (by assumption) ?_
      rotate_left
      · (intro w hSw; (try dsimp only at hSw); go_simp; try (first | with_reducible rfl | (split <;> first | (exfalso; omega) | with_reducible rfl)))
      (try simp only [Act.put, List.setIfInBounds_toArray, List.set_cons_zero, List.set_cons_succ])
      refine wpAnyH_takeD (i := 16) (d := some 78) (v := ?_) rfl (by kernel_rfl) (by kernel_rfl) (by kernel_rfl) (by kernel_rfl) (fun _ _ _ h => h) (Or.inl ⟨by kernel_rfl, ?_⟩) (by assumption) ?_
      rotate_left
      · (intro w hSw; (try dsimp only at hSw); go_simp; try (first | with_reducible rfl | (split <;> first | (exfalso; omega) | with_reducible rfl)))
      (try simp only [Act.put, List.setIfInBounds_toArray, List.set_cons_zero, List.set_cons_succ])
      have HNE : Hid (gz ≠ gs) := Lib.hid (by have := HSA.out.2.2; omega)
      refine wpAnyH_ready (rs := [18]) (by kernel_rfl) (by simp) ?_
      refine AllReadyH.cons rfl (fun K0 hK => ?_) AllReadyH.nil
      obtain ⟨y0, y1, y2, y3, y4, y5⟩ := HZ.out.cells
      obtain ⟨g0, g1, g2, g3, g4, g5⟩ := HZ.out.froz
      have hlR := HZ.out.lt
      go_simp
      refine hK.out _ _ ⟨cell_set6 (by have := HNE.out; omega) hHeld.1, cell_set6 (by have := HNE.out; omega) hHeld.2⟩ (fun hHeld => ?_)
      clear hK K0
      (try simp only [Act.put, List.setIfInBounds_toArray, List.set_cons_zero, List.set_cons_succ])
      refine wpAnyH_takeD (i := 19) (d := some 16) (v := ?_) rfl (by kernel_rfl) (by kernel_rfl) (by kernel_rfl) (by kernel_rfl) (fun _ _ _ h => h) (Or.inl ⟨by kernel_rfl, ?_⟩) (by assumption) ?_
      rotate_left
      · (intro w hSw; (try dsimp only at hSw); go_simp; try (first | with_reducible rfl | (split <;> first | (exfalso; omega) | with_reducible rfl)))
      (try simp only [Act.put, List.setIfInBounds_toArray, List.set_cons_zero, List.set_cons_succ])
      refine wpAnyH_takeD (i := 20) (d := some 17) (v := ?_) rfl (by kernel_rfl) (by kernel_rfl) (by kernel_rfl) (by kernel_rfl) (fun _ _ _ h => h) (Or.inl ⟨by kernel_rfl, ?_⟩) (by assumption) ?_
      rotate_left
      · (intro w hSw; (try dsimp only at hSw); go_simp; try (first | with_reducible rfl | (split <;> first | (exfalso; omega) | with_reducible rfl)))
      (try simp only [Act.put, List.setIfInBounds_toArray, List.set_cons_zero, List.set_cons_succ])
      refine wpAnyH_done (by kernel_rfl) ?_ _
      (try simp only [Act.put, List.setIfInBounds_toArray, List.set_cons_zero, List.set_cons_succ])
      have HFIN : Hid (∀ W, W = set6 we gz (.int .i64 h1.k) (.int .i64 h1.op) (.int .i64 h1.v) (.int .i64 h1.ln) (.string (st h1.nm)) (.slice a1 n1 c1) → Below w5.heap.size w5 W ∧ PA (tR si sk) W gz h1 a1 n1 c1 er (fun b => w5.heap.size ≤ b) ∧ w5.heap.size ≤ gz) := Lib.hid (fun W hW => by
        subst hW
        have b1 := HB0.out.trans (HP.out.1.mono HB0.out.size)
        refine ⟨below_s6 b1 HGZ.out, PA.of HP.out (by simp [tR]; omega) (HZ.out.s6 h1 _) (fun b _ hb => other_set6 b (by have := HSA.out.2.1; omega)) (by rw [size_set6]; exact Nat.le_refl _) (fun b hb => by have := HB0.out.size; omega), HGZ.out⟩)
      clear y0 y1 y2 y3 y4 y5 g0 g1 g2 g3 g4 g5 hlR hHeld
      go_wp2_with fail
      go_meet
      exact ⟨_, h1, a1, n1, c1, ln, er, rfl, rfl, rfl, Lib.hid (HFIN.out _ rfl)⟩
  case rest =>
  rename World => w6
  obtain ⟨gR, hR, aR, nR, cR, lnR, erR, rfl, rfl, rfl, HQ⟩ := hcut
  replace HCS : Hid (gs < w6.heap.size ∧ w6.cell? ⟨gs, i, none⟩ = some (.string (st si)) ∧ w6.cell? ⟨gs, k, none⟩ = some (.string (st sk))) := Lib.hid ⟨by have := HQ.out.1.size; have := HCS.out.1; omega, (HQ.out.1.cell (p := ⟨gs, i, none⟩) HCS.out.1).trans HCS.out.2.1, (HQ.out.1.cell (p := ⟨gs, k, none⟩) HCS.out.1).trans HCS.out.2.2⟩
  replace HLV : Hid (gs + 1 < w6.heap.size ∧ w6.cell? ⟨gs + 1, i, none⟩ = some (.int .i64 li) ∧ w6.cell? ⟨gs + 1, k, none⟩ = some (.int .i64 lk)) := Lib.hid ⟨by have := HQ.out.1.size; have := HLV.out.1; omega, (HQ.out.1.cell (p := ⟨gs + 1, i, none⟩) HLV.out.1).trans HLV.out.2.1, (HQ.out.1.cell (p := ⟨gs + 1, k, none⟩) HLV.out.1).trans HLV.out.2.2⟩
  replace HB := Lib.hid (HB.out.trans (HQ.out.1.mono HB.out.size))
  have HR := Lib.hid HQ.out.2.1
  have HGR := Lib.hid HQ.out.2.2
  replace HX := Lib.hid (HX.out.be HQ.out.1)
  replace HL := Lib.hid (HL.out.be HQ.out.1)
  clear HQ
  obtain ⟨h1, b1, h2, b2, okL, okR, hne, hcase⟩ := HCK.out
  obtain ⟨rfl, rfl, AL⟩ := HL.out.get okL
  obtain ⟨rfl, rfl, AR⟩ := HR.out.get okR
  have HAL := Lib.hid AL
  have HAR := Lib.hid AR
  have HNE := Lib.hid hne
  have HCA := Lib.hid hcase
  clear okL okR hne hcase AL AR HCK
  obtain ⟨x0, x1, x2, x3, x4, x5⟩ := HL.out.lc.cells
  obtain ⟨y0, y1, y2, y3, y4, y5⟩ := HR.out.lc.cells
  have hlL := HL.out.lc.lt
  have hlR := HR.out.lc.lt
  go_wp2_with fail
  refine (SameExpr_any hL hR b1 b2 _ _ aL aR nL cL nR cR w6 HAL.out HAR.out).mono ?_
  rintro e w7 ⟨rfl, hb7⟩
  rw [HNE.out]
  have HB7 := Lib.hid (HB.out.trans (hb7.mono HB.out.size))
  have HBS := Lib.hid hb7
  have HX7 := Lib.hid (HX.out.be hb7)
  have HL7 := Lib.hid (HL.out.be hb7)
  have HR7 := Lib.hid (HR.out.be hb7)
  have l1 : w7.cell? ⟨gs + 1, i, none⟩ = some (.int .i64 li) := (hb7.cell (p := ⟨gs + 1, i, none⟩) HLV.out.1).trans HLV.out.2.1
  have l2 : w7.cell? ⟨gs + 1, k, none⟩ = some (.int .i64 lk) := (hb7.cell (p := ⟨gs + 1, k, none⟩) HLV.out.1).trans HLV.out.2.2
  have l3 : gs + 1 < w7.heap.size := by have := hb7.size; have := HLV.out.1; omega
  clear hb7 x0 x1 x2 x3 x4 x5 y0 y1 y2 y3 y4 y5 hlL hlR
  rcases HCA.out with ⟨rfl, rfl, hbad⟩ | ⟨hn2, h3, b3, okX, hlt, hge⟩
  · obtain rfl : erX = 7 := HX.out.bad hbad
    clear hbad
    go_wp2_with fail
    go_ret
    exact ⟨rfl, HB7.out⟩
  · obtain ⟨rfl, rfl, AX⟩ := HX.out.get okX
    have HAX := Lib.hid AX
    have HLT := Lib.hid hlt
    have HGE := Lib.hid hge
    clear okX AX hlt hge HCA
    have hd2 : (li == 2) = false ∨ ((li == 2) = true ∧ (lk == 2) = false) := by
      cases e1 : (li == 2)
      · exact .inl rfl
      · cases e2 : (lk == 2)
        · exact .inr ⟨rfl, rfl⟩
        · exact absurd ⟨by simpa using e1, by simpa using e2⟩ hn2
    clear hn2
    rcases hd2 with e1 | ⟨e1, e2⟩
    · go_upto_region 13 with fail
      refine wp_region_below (by kernel_rfl) (by kernel_rfl) ?_
      have q1 : ∀ x : Since w7, x.val.cell? ⟨gs + 1, i, none⟩ = some (.int .i64 li) := fun x => x.cell l1
      have q2 : ∀ x : Since w7, x.val.cell? ⟨gs + 1, k, none⟩ = some (.int .i64 lk) := fun x => x.cell l2
      repeat (go_big_quiet_step (fail))
      refine wpQuiet_nil ?_
      intro w8 hb8
      have HB8 := Lib.hid (HB7.out.trans (hb8.mono HB7.out.size))
      have HX8 := Lib.hid (HX7.out.be hb8)
      have HL8 := Lib.hid (HL7.out.be hb8)
      have HR8 := Lib.hid (HR7.out.be hb8)
      have HKX := Lib.hid (HAX.out.keep (Q := fun b => b < w4.heap.size) (fun b hP hlt => ⟨(hb8.block b (by have := HBS.out.size; omega)).trans (HBS.out.block b hlt), hP⟩) (Nat.le_trans HBS.out.size hb8.size))
      have HKR := Lib.hid (HAR.out.keep (Q := fun b => w5.heap.size ≤ b) (fun b hP hlt => ⟨(hb8.block b (by have := HBS.out.size; omega)).trans (HBS.out.block b hlt), hP⟩) (Nat.le_trans HBS.out.size hb8.size))
      have HKL := Lib.hid (HAL.out.keep (Q := fun _ => True) (fun b _ hlt => ⟨(hb8.block b (by have := HBS.out.size; omega)).trans (HBS.out.block b hlt), trivial⟩) (Nat.le_trans HBS.out.size hb8.size))
      clear hb8 q1 q2
      by_cases hl : li < lk
      · have dl : decide (li < lk) = true := decide_eq_true hl
        rw [dl]
        have HE : Hid (eqF false (one1 hX b3) (one1 hR b2) = true) := Lib.hid (HLT.out hl)
        have HX9 := Lib.hid (HX8.out.lc.s6o (g := gL) (v0 := .int .i64 hR.k) (v1 := .int .i64 hR.op) (v2 := .int .i64 hR.v) (v3 := .int .i64 hR.ln) (v4 := .string (st hR.nm)) (v5 := .slice aR nR cR) (by have := HXG.out; have := HGL.out; omega))
        have HL9 := Lib.hid (HL8.out.lc.s6 hR (.slice aR nR cR))
        have HKX9 := Lib.hid (args_s6 (v0 := .int .i64 hR.k) (v1 := .int .i64 hR.op) (v2 := .int .i64 hR.v) (v3 := .int .i64 hR.ln) (v4 := .string (st hR.nm)) (v5 := .slice aR nR cR) HKX.out (g := gL) (fun b hb => by have := HGL.out; omega))
        have HKR9 := Lib.hid (args_s6 (v0 := .int .i64 hR.k) (v1 := .int .i64 hR.op) (v2 := .int .i64 hR.v) (v3 := .int .i64 hR.ln) (v4 := .string (st hR.nm)) (v5 := .slice aR nR cR) HKR.out (g := gL) (fun b hb => by have := HLG.out; omega))
        have HB9 := Lib.hid (below_s6 (v0 := .int .i64 hR.k) (v1 := .int .i64 hR.op) (v2 := .int .i64 hR.v) (v3 := .int .i64 hR.ln) (v4 := .string (st hR.nm)) (v5 := .slice aR nR cR) HB8.out (g := gL) (by have := HGL.out; have := HBW4.out; omega))
        obtain ⟨x0, x1, x2, x3, x4, x5⟩ := HR8.out.lc.cells
        obtain ⟨y0, y1, y2, y3, y4, y5⟩ := HL8.out.lc.cells
        obtain ⟨g0, g1, g2, g3, g4, g5⟩ := HL8.out.lc.froz
        have hlL := HL8.out.lc.lt
        have hlR := HR8.out.lc.lt
        clear hl l1 l2 l3
        go_upto_region 15 with fail
        obtain ⟨w9, hw9⟩ : ∃ W, set6 w8 gL (.int .i64 hR.k) (.int .i64 hR.op) (.int .i64 hR.v) (.int .i64 hR.ln) (.string (st hR.nm)) (.slice aR nR cR) = W := ⟨_, rfl⟩
        have hw92 := hw9
        unfold set6 at hw92
        (try rw [hw92])
        rw [hw9] at HX9 HL9 HKX9 HKR9 HB9
        clear hw9 hw92 x0 x1 x2 x3 x4 x5 y0 y1 y2 y3 y4 y5 g0 g1 g2 g3 g4 g5 hlL hlR
        obtain ⟨x0, x1, x2, x3, x4, x5⟩ := HX9.out.cells
        obtain ⟨y0, y1, y2, y3, y4, y5⟩ := HL9.out.cells
        have hlX := HX9.out.lt
        have hlL := HL9.out.lt
        go_wp2_with fail
        refine (SameExpr_any hX hR b3 b2 _ _ aX aR nX cX nR cR w9 HKX9.out HKR9.out).mono ?_
        rintro e wz ⟨rfl, hbz⟩
        rw [HE.out]
        go_wp2_with fail
        go_ret
        exact ⟨rfl, HB9.out.trans (hbz.mono HB9.out.size)⟩
      · have dl : decide (li < lk) = false := decide_eq_false hl
        rw [dl]
        have HE : Hid (eqF false (one1 hX b3) (one1 hL b1) = true) := Lib.hid (HGE.out (by omega))
        obtain ⟨x0, x1, x2, x3, x4, x5⟩ := HX8.out.lc.cells
        obtain ⟨y0, y1, y2, y3, y4, y5⟩ := HL8.out.lc.cells
        have hlX := HX8.out.lc.lt
        have hlL := HL8.out.lc.lt
        clear hl l1 l2 l3
        go_wp2_with fail
        refine (SameExpr_any hX hL b3 b1 _ _ aX aL nX cX nL cL w8 HKX.out HKL.out).mono ?_
        rintro e wz ⟨rfl, hbz⟩
        rw [HE.out]
        go_wp2_with fail
        go_ret
        exact ⟨rfl, HB8.out.trans (hbz.mono HB8.out.size)⟩
    · go_upto_region 13 with fail
      refine wp_region_below (by kernel_rfl) (by kernel_rfl) ?_
      have q1 : ∀ x : Since w7, x.val.cell? ⟨gs + 1, i, none⟩ = some (.int .i64 li) := fun x => x.cell l1
      have q2 : ∀ x : Since w7, x.val.cell? ⟨gs + 1, k, none⟩ = some (.int .i64 lk) := fun x => x.cell l2
      repeat (go_big_quiet_step (fail))
      refine wpQuiet_nil ?_
      intro w8 hb8
      have HB8 := Lib.hid (HB7.out.trans (hb8.mono HB7.out.size))
      have HX8 := Lib.hid (HX7.out.be hb8)
      have HL8 := Lib.hid (HL7.out.be hb8)
      have HR8 := Lib.hid (HR7.out.be hb8)
      have HKX := Lib.hid (HAX.out.keep (Q := fun b => b < w4.heap.size) (fun b hP hlt => ⟨(hb8.block b (by have := HBS.out.size; omega)).trans (HBS.out.block b hlt), hP⟩) (Nat.le_trans HBS.out.size hb8.size))
      have HKR := Lib.hid (HAR.out.keep (Q := fun b => w5.heap.size ≤ b) (fun b hP hlt => ⟨(hb8.block b (by have := HBS.out.size; omega)).trans (HBS.out.block b hlt), hP⟩) (Nat.le_trans HBS.out.size hb8.size))
      have HKL := Lib.hid (HAL.out.keep (Q := fun _ => True) (fun b _ hlt => ⟨(hb8.block b (by have := HBS.out.size; omega)).trans (HBS.out.block b hlt), trivial⟩) (Nat.le_trans HBS.out.size hb8.size))
      clear hb8 q1 q2
      by_cases hl : li < lk
      · have dl : decide (li < lk) = true := decide_eq_true hl
        rw [dl]
        have HE : Hid (eqF false (one1 hX b3) (one1 hR b2) = true) := Lib.hid (HLT.out hl)
        have HX9 := Lib.hid (HX8.out.lc.s6o (g := gL) (v0 := .int .i64 hR.k) (v1 := .int .i64 hR.op) (v2 := .int .i64 hR.v) (v3 := .int .i64 hR.ln) (v4 := .string (st hR.nm)) (v5 := .slice aR nR cR) (by have := HXG.out; have := HGL.out; omega))
        have HL9 := Lib.hid (HL8.out.lc.s6 hR (.slice aR nR cR))
        have HKX9 := Lib.hid (args_s6 (v0 := .int .i64 hR.k) (v1 := .int .i64 hR.op) (v2 := .int .i64 hR.v) (v3 := .int .i64 hR.ln) (v4 := .string (st hR.nm)) (v5 := .slice aR nR cR) HKX.out (g := gL) (fun b hb => by have := HGL.out; omega))
        have HKR9 := Lib.hid (args_s6 (v0 := .int .i64 hR.k) (v1 := .int .i64 hR.op) (v2 := .int .i64 hR.v) (v3 := .int .i64 hR.ln) (v4 := .string (st hR.nm)) (v5 := .slice aR nR cR) HKR.out (g := gL) (fun b hb => by have := HLG.out; omega))
        have HB9 := Lib.hid (below_s6 (v0 := .int .i64 hR.k) (v1 := .int .i64 hR.op) (v2 := .int .i64 hR.v) (v3 := .int .i64 hR.ln) (v4 := .string (st hR.nm)) (v5 := .slice aR nR cR) HB8.out (g := gL) (by have := HGL.out; have := HBW4.out; omega))
        obtain ⟨x0, x1, x2, x3, x4, x5⟩ := HR8.out.lc.cells
        obtain ⟨y0, y1, y2, y3, y4, y5⟩ := HL8.out.lc.cells
        obtain ⟨g0, g1, g2, g3, g4, g5⟩ := HL8.out.lc.froz
        have hlL := HL8.out.lc.lt
        have hlR := HR8.out.lc.lt
        clear hl l1 l2 l3
        go_upto_region 15 with fail
        obtain ⟨w9, hw9⟩ : ∃ W, set6 w8 gL (.int .i64 hR.k) (.int .i64 hR.op) (.int .i64 hR.v) (.int .i64 hR.ln) (.string (st hR.nm)) (.slice aR nR cR) = W := ⟨_, rfl⟩
        have hw92 := hw9
        unfold set6 at hw92
        (try rw [hw92])
        rw [hw9] at HX9 HL9 HKX9 HKR9 HB9
        clear hw9 hw92 x0 x1 x2 x3 x4 x5 y0 y1 y2 y3 y4 y5 g0 g1 g2 g3 g4 g5 hlL hlR
        obtain ⟨x0, x1, x2, x3, x4, x5⟩ := HX9.out.cells
        obtain ⟨y0, y1, y2, y3, y4, y5⟩ := HL9.out.cells
        have hlX := HX9.out.lt
        have hlL := HL9.out.lt
        go_wp2_with fail
        refine (SameExpr_any hX hR b3 b2 _ _ aX aR nX cX nR cR w9 HKX9.out HKR9.out).mono ?_
        rintro e wz ⟨rfl, hbz⟩
        rw [HE.out]
        go_wp2_with fail
        go_ret
        exact ⟨rfl, HB9.out.trans (hbz.mono HB9.out.size)⟩
      · have dl : decide (li < lk) = false := decide_eq_false hl
        rw [dl]
        have HE : Hid (eqF false (one1 hX b3) (one1 hL b1) = true) := Lib.hid (HGE.out (by omega))
        obtain ⟨x0, x1, x2, x3, x4, x5⟩ := HX8.out.lc.cells
        obtain ⟨y0, y1, y2, y3, y4, y5⟩ := HL8.out.lc.cells
        have hlX := HX8.out.lc.lt
        have hlL := HL8.out.lc.lt
        clear hl l1 l2 l3
        go_wp2_with fail
        refine (SameExpr_any hX hL b3 b1 _ _ aX aL nX cX nL cL w8 HKX.out HKL.out).mono ?_
        rintro e wz ⟨rfl, hbz⟩
        rw [HE.out]
        go_wp2_with fail
        go_ret
        exact ⟨rfl, HB8.out.trans (hbz.mono HB8.out.size)⟩

/-! ### THE ROW's STEP -/
set_option maxRecDepth 100000 in
theorem lifted (os : Os) (started : os.Started) (H : Type) (enc : TypeId × Value → H) :
    ReturnsInHanded {} Tryd.checked os 4 .any (fun w args => (Rows.syntaxPrecedenceSpec.pre enc Tryd.prog Tryd.f4 [] false w args ∧ laidMetH Tryd.prog [("math/bits.deBruijn32tab", Rows.laid_math_bits_deBruijn32tab), ("math/bits.deBruijn64tab", Rows.laid_math_bits_deBruijn64tab), ("internal/strconv.uint64pow10", Rows.laid_internal_strconv_uint64pow10), ("strconv.ErrRange", Rows.laid_strconv_ErrRange), ("strconv.ErrSyntax", Rows.laid_strconv_ErrSyntax)] w) ∧ sizedMet enc Tryd.prog Tryd.f4 (OpenSpec.ofChange Rows.syntaxPrecedenceSpec) false w args)
      (Rows.syntaxPrecedenceSpec.post enc Tryd.prog Tryd.f4 false true false false) := by
  refine returnsInHanded_of_change_and (C := Tryd.checked) (X := fun w _ => laidMetH Tryd.prog [("math/bits.deBruijn32tab", Rows.laid_math_bits_deBruijn32tab), ("math/bits.deBruijn64tab", Rows.laid_math_bits_deBruijn64tab), ("internal/strconv.uint64pow10", Rows.laid_internal_strconv_uint64pow10), ("strconv.ErrRange", Rows.laid_strconv_ErrRange), ("strconv.ErrSyntax", Rows.laid_strconv_ErrSyntax)] w) (fun _ _ _ hh h => h.of_heap hh) ownLd started (by kernel_rfl) Tryd.func4
    (ChangeSpec.witness_shaped (enc := enc) (C := Tryd.checked) (os := os) (X := fun w _ => laidMetH Tryd.prog [("math/bits.deBruijn32tab", Rows.laid_math_bits_deBruijn32tab), ("math/bits.deBruijn64tab", Rows.laid_math_bits_deBruijn64tab), ("internal/strconv.uint64pow10", Rows.laid_internal_strconv_uint64pow10), ("strconv.ErrRange", Rows.laid_strconv_ErrRange), ("strconv.ErrSyntax", Rows.laid_strconv_ErrSyntax)] w) false (World.doorLaid Tryd.prog 400 os) #[.int .u8 0, .int .u8 0] 8 rfl (World.shaped_of_RefB (by kernel_rfl) (by kernel_rfl)) (by kernel_rfl) (by kernel_rfl) (by kernel_rfl) (door_met os _)) ?_
  intro W base args ds gs before hval0 hW _ _ hL _
  have hval : ∀ (j : Nat) t v, Tryd.f4.params[j]? = some t → args[j]? = some v → Value.okWide Tryd.prog W .any base t v := hval0
  have hW' := hW
  obtain ⟨p, q, hA0, hV, rfl, hfz, hnd⟩ := hW
  have hA : DataW.TrodAll enc Tryd.prog W 0 (fun _ => true) true Tryd.f4.params.toList args.toList ds p := hA0
  rw [Tryd.params4] at hA hval
  obtain ⟨v0, vs0, d0, ds0, p0, q0, hargs, rfl, rfl, h0, r0⟩ := trodAll_cons hA
  obtain ⟨v1, vs1, d1, ds1, p1, q1, rfl, rfl, rfl, h1, r1⟩ := trodAll_cons r0
  obtain ⟨rfl, rfl, rfl⟩ := trodAll_nil r1
  obtain rfl : args = #[v0, v1] := by cases args; simp_all
  obtain ⟨rfl, rfl⟩ := trodVars_none hV
  obtain ⟨a0, rfl, rfl, rfl, w0⟩ := open_int Tryd.underlying5 (hval 0 5 v0 rfl rfl) h0
  obtain ⟨a1, rfl, rfl, rfl, w1⟩ := open_int Tryd.underlying5 (hval 1 5 v1 rfl rfl) h1
  clear hA0 hval0
  refine (walk a0 a1 W w0 w1 (of_laid hL)).mono fun e W' ⟨he, bel⟩ => ?_
  subst he
  exact ⟨_, rfl, _, _, _, [], _, [], hW', trodAll_mk1 (shut_bool Tryd.underlying4 _), (trodAll_cons_mk (shut_int Tryd.underlying5 w0) (trodAll_cons_mk (shut_int Tryd.underlying5 w1) trodAll_mk0)), rfl, bel.frame _, fun h => by cases h⟩

theorem over : Rows.SyntaxPrecedenceSaid :=
  OpenClaim.holds_of_wide 4 Tryd.f4 rfl rfl rfl rfl rfl rfl rfl ⟨rfl, rfl, rfl, rfl, rfl⟩ rfl rfl rfl rfl rfl (by kernel_rfl) Tryd.func4 (by kernel_rfl)
    (of_decide_eq_true (by kernel_rfl)) (by unfold Func.isWrapper; first | (rw [if_pos (by decide +kernel)]; kernel_rfl) | (rw [if_neg (by decide +kernel)]; exact ⟨rfl, rfl⟩))
    (fun os started H enc _ => lifted os started H enc)

/-- the tied card -/
theorem proved : Rows.SyntaxPrecedenceCardSaid :=
  Claim7.holds_tied_plain_at .later [] [.data, .data, .data, .sentinel, .sentinel] true (true, "21ef6a7ed233932e74bebf88a8fc0b313750c145eb44139f2e9ff4a4e9c85b15") true
    over (fun _ h => by cases h) (by kernel_rfl) (fun _ h => by cases h) syntaxPrecedence_row_tie rfl ⟨rfl, rfl⟩ (by kernel_rfl) rfl
    (fun f fn hf hfn => by
      obtain rfl : f = 4 := Option.some.inj ((show Tryd.prog.funcNamed "warmpath/warmpathlaw04.SyntaxPrecedence" = some 4 by kernel_rfl).symm.trans hf) |>.symm
      obtain rfl : fn = Tryd.f4 := (Option.some.inj (Tryd.func4.symm.trans hfn)).symm
      exact ⟨by kernel_rfl, fun j t ht => by
        rw [Tryd.params4] at ht
        have hm : t ∈ [5, 5] := by simpa using Array.mem_of_getElem? ht
        have hall : ([5, 5].all fun u => !Tryd.prog.wantsStandIn u) = true := by kernel_rfl
        exact (show Tryd.prog.wantsStandIn t = false by simpa using List.all_eq_true.1 hall t hm)⟩)
    (by kernel_rfl)
#print axioms proved
end Go.Proofs.YtlbjdglgnkajnaaDoor.syntaxPrecedence
