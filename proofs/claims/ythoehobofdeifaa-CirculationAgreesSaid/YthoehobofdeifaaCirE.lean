/-
  WALK of circulation.search's lessen. (Filled in from a template of this repo.)
-/
import Derived.Test.YthoehobofdeifaaCirQ
namespace Go.Proofs.Ythoehobofdeifaa
open Go.ChangeShapes Go.WideShapes Go.ChangeAt Go.RowKit
set_option linter.unusedVariables false

/-- what lessen leaves -/
def LePost (N : Nw) (K : Lay) (z : Nat → Bool) (i : Nat) (f : Nat → Int) (w : World) (e : Ending) (w' : World) : Prop :=
  e = .returned (.tuple #[]) ∧ Kp [K.gf, K.gc] w w' ∧ ∃ f' : Nat → Int, IRow w' K.gf N.m f' ∧ BRow w' K.gc N.m (mark z i) ∧ Les N z i f f'
/-- a network's arc, copied out -/
def ArcAt (w : World) (b : Nat) (N : Nw) (i : Nat) : Prop :=
  w.cell? ⟨b, 0, none⟩ = some (.int .i64 (N.fr i : Int)) ∧ w.cell? ⟨b, 1, none⟩ = some (.int .i64 (N.to i : Int)) ∧ w.cell? ⟨b, 2, none⟩ = some (.int .i64 (N.lo i)) ∧ w.cell? ⟨b, 3, none⟩ = some (.int .i64 (N.up i)) ∧ w.cell? ⟨b, 4, none⟩ = some (.int .i64 (N.c i))
theorem ArcAt.kp {w w' : World} {b : Nat} {N : Nw} {i : Nat} (h : ArcAt w b N i) {X : List Nat} (hk : Kp X w w') (hn : b ∉ X) : ArcAt w' b N i :=
  ⟨hk.cell h.1 hn, hk.cell h.2.1 hn, hk.cell h.2.2.1 hn, hk.cell h.2.2.2.1 hn, hk.cell h.2.2.2.2 hn⟩
/-- the rows of lessen -/
structure LR (N : Nw) (K : Lay) (ga : Nat) (w0 : World) (i : Nat) (f : Nat → Int) (z : Nat → Bool) (w : World) : Prop where
  kp : Kp [K.gf, K.gc] w0 w
  f : IRow w K.gf N.m f
  z : BRow w K.gc N.m z
  a : ArcAt w ga N i
  n : w0.heap.size ≤ ga
theorem LR.below {N : Nw} {K : Lay} {ga : Nat} {w0 w w' : World} {i : Nat} {f : Nat → Int} {z : Nat → Bool} (h : LR N K ga w0 i f z w) (hb : Below w.heap.size w w') : LR N K ga w0 i f z w' :=
  ⟨h.kp.trans ((Kp.of_below (X := []) hb).mono (by simp)), VRow.below h.f hb h.f.lt, VRow.below h.z hb h.z.lt, h.a.kp (Kp.of_below (X := []) hb) (by simp), h.n⟩
set_option maxRecDepth 100000 in
set_option maxHeartbeats 4000000 in
theorem lessen_any (N : Nw) (hv : N.valid) (K : Lay) (g : Nat) (i : Nat) (hi : i < N.m) (f : Nat → Int) (z : Nat → Bool) (hc : N.circ f) (w : World) (h : Srch w g N K) (hf : IRow w K.gf N.m f) (hz : BRow w K.gc N.m z) :
    Calls Try.prog 39 #[.pointer (some ⟨g, 0, none⟩), .int .i64 (i : Int)] w (LePost N K z i f w) := by
  obtain ⟨b, off, ha, hb, k0, k1, k2, k3, k4⟩ := h.arcs i hi
  obtain ⟨_, c1, _, _, _, c5⟩ := h.cells
  rw [ha] at c1
  have hg := h.lt
  have q1 := hz.cell i hi
  have q2 := hz.frozen i
  have q3 := hz.lt
  have HS := Lib.hid h
  have HF := Lib.hid hf
  have HZ := Lib.hid hz
  have HV := Lib.hid hv
  have HC := Lib.hid hc
  have HDIST := Lib.hid h.dist
  have HGN := Lib.hid h.g_ne
  have HM := hv.m2
  clear h hf hz hv hc ha
  go_enter Try.func39, Try.ntmps39
  go_wp2
  have hL : LR N K w.heap.size w i f (mark z i) ((w.setCell ⟨K.gc, i, none⟩ (.bool true)).alloc (.cells #[.int .i64 (N.fr i : Int), .int .i64 (N.to i : Int), .int .i64 (N.lo i), .int .i64 (N.up i), .int .i64 (N.c i)] 46)) := by
    obtain ⟨d1, d2, d3⟩ := HDIST.out
    have hsz : (w.setCell ⟨K.gc, i, none⟩ (.bool true)).heap.size = w.heap.size := by simp [World.setCell]
    have hrow := heap_alloc_new (w.setCell ⟨K.gc, i, none⟩ (.bool true)) (.cells #[.int .i64 (N.fr i : Int), .int .i64 (N.to i : Int), .int .i64 (N.lo i), .int .i64 (N.up i), .int .i64 (N.c i)] 46)
    rw [hsz] at hrow
    exact ⟨((Kp.refl _ _).setCell _ _ (.inl (by simp))).alloc _, (VRow.off HF.out _ d2).alloc _, (VRow.set HZ.out i _ _ (by unfold mark; simp) (fun j _ hj => by unfold mark; rw [if_neg hj])).alloc _,
      ⟨cell_of_row _ _ 0 _ _ _ hrow, cell_of_row _ _ 1 _ _ _ hrow, cell_of_row _ _ 2 _ _ _ hrow, cell_of_row _ _ 3 _ _ _ hrow, cell_of_row _ _ 4 _ _ _ hrow⟩, Nat.le_refl _⟩
  have HL0 := Lib.hid hL
  generalize ((w.setCell ⟨K.gc, i, none⟩ (.bool true)).alloc (.cells #[.int .i64 (N.fr i : Int), .int .i64 (N.to i : Int), .int .i64 (N.lo i), .int .i64 (N.up i), .int .i64 (N.c i)] 46)) = wA at *
  clear hL q1 q2 q3 k0 k1 k2 k3 k4 c1 c5 hb
  obtain ⟨ga, hga⟩ : ∃ ga, w.heap.size = ga := ⟨_, rfl⟩
  rw [hga] at HL0 ⊢
  have HGA := Lib.hid hga
  clear hga
  have HFL : Hid (K.gf < w.heap.size ∧ K.gc < w.heap.size) := Lib.hid ⟨HF.out.lt, HZ.out.lt⟩
  go_loopg [5] (f i - N.lo i).toNat (fun n v5 wr => ∃ f' : Nat → Int, n = (f' i - N.lo i).toNat ∧ Hid (N.circ f' ∧ ∀ j, j < N.m → j ≠ i → z j = true → f' j = f j) ∧ Hid (LR N K ga w i f' (mark z i) wr))
  case atStart => exact ⟨f, rfl, Lib.hid ⟨HC.out, fun _ _ _ _ => rfl⟩, HL0⟩
  case round =>
    obtain ⟨f1, hgk, HF1, HL⟩ := hrel
    have hgk' := Lib.hid hgk
    clear hgk HL0
    obtain ⟨w1, rfl⟩ : ∃ w1 : World, w1 = wr := ⟨_, rfl⟩
    have hS := HS.out.kp (HL.out.kp.mono (by simp))
    have c2 := hS.cells.2.2.1
    have hg1 := hS.lt
    have q1 := HL.out.f.cell i hi
    have q2 := HL.out.f.lt
    have hbd := HF1.out.1.1 i hi
    have hlo := HV.out.lo i hi
    obtain ⟨a0, a1, a2, a3, a4⟩ := HL.out.a
    have hgl := block_lt_of_cell a0
    obtain ⟨lo, hlo0⟩ : ∃ x, N.lo i = x := ⟨_, rfl⟩
    obtain ⟨fi, hfi⟩ : ∃ x, f1 i = x := ⟨_, rfl⟩
    rw [hlo0, hfi] at hbd
    rw [hlo0] at hlo a2
    rw [hfi] at q1
    have HLO := Lib.hid hlo0
    have HFI := Lib.hid hfi
    obtain ⟨b1, b2⟩ := hbd
    obtain ⟨b3, b4, b5⟩ := hlo
    have hfu : fi ≤ 1099511627776 := by omega
    clear hlo0 hfi hS a3 a4 b2 b4 b5
    by_cases hgt : lo < fi
    · go_wp2_with fail
      go_quiet (fail)
      have HL2 := Lib.hid (HL.out.below (below_drewN (Below.refl _ _) nq))
      generalize (w1.drewN nq) = w2 at *
      clear a0 a1 a2 q1 q2 c2 hg1 HL hgl
      clear w1
      obtain ⟨a0, a1, a2, _, _⟩ := HL2.out.a
      have hgl := block_lt_of_cell a0
      have hok := HV.out.ok i hi
      go_wp2_with fail
      refine (around_any N HV.out K g f1 (mark z i) HF1.out.1.1 (N.fr i) (N.to i) hok.1 hok.2 _ (HS.out.kp (HL2.out.kp.mono (by simp))) HL2.out.f HL2.out.z).mono ?_
      rintro e w3 ⟨hb3, he⟩
      have HL3 := Lib.hid (HL2.out.below hb3)
      clear hb3 a0 a1 a2
      rcases he with ⟨l, a, c, rfl, hst, hnew, hlen, hWk, hpw, hl⟩ | ⟨rfl, R, r1, r2, r3⟩
      · go_wp2_with fail
        obtain ⟨m0, hm0⟩ : ∃ m0 : Int, m0 = fi - lo := ⟨_, rfl⟩
        have hzs : ∀ s ∈ l, s.i ≠ i ∧ N.rz f1 (mark z i) s = N.rm f1 s := fun s hs => by
          obtain ⟨h1, h2⟩ := rz_rm (hl s hs).2
          refine ⟨fun e => ?_, h2⟩
          rw [e] at h1
          unfold mark at h1
          rw [if_pos rfl] at h1; cases h1
        have hAM : 0 < lst N f1 (mark z i) l m0 := lst_pos N f1 (mark z i) l m0 (by omega) (fun s hs => (hl s hs).2)
        have hAL := lst_le N f1 (mark z i) l m0
        have HAM : Hid (0 < lst N f1 (mark z i) l m0 ∧ lst N f1 (mark z i) l m0 ≤ fi - lo ∧ ∀ s ∈ l, lst N f1 (mark z i) l m0 ≤ N.rm f1 s) := Lib.hid ⟨hAM, by omega, fun s hs => by have := hAL.2 s hs; rw [(hzs s hs).2] at this; exact this⟩
        have HLI : Hid (∀ s ∈ l, s.i < N.m) := Lib.hid (fun s hs => (hl s hs).1)
        have HLN : Hid (∀ s ∈ l, s.i ≠ i) := Lib.hid (fun s hs => (hzs s hs).1)
        have HRZ : Hid (∀ s ∈ l, 0 < N.rz f1 (mark z i) s) := Lib.hid (fun s hs => (hl s hs).2)
        have HWK := Lib.hid hWk
        have HPAIR := Lib.hid hpw
        have HM0 := Lib.hid hm0
        have HM1 : Hid (0 ≤ m0 ∧ m0 ≤ 9223372036854775807) := Lib.hid (by omega)
        have HST := Lib.hid hst
        have HNEW := Lib.hid hnew
        have hS3 := HS.out.kp (HL3.out.kp.mono (by simp))
        have c2 := hS3.cells.2.2.1
        have e1 := HL3.out.f.cell i hi
        rw [HFI.out] at e1
        obtain ⟨_, _, e2, _, _⟩ := HL3.out.a
        rw [HLO.out] at e2
        clear hm0 hAM hAL hzs hWk hpw hl hst hnew hS3
        refine wp_region_below (by kernel_rfl) (by kernel_rfl) ?_
        have g0 := fun y : Since w3 => y.cell c2
        have g1 := fun y : Since w3 => y.cell e1
        have g2 := fun y : Since w3 => y.cell e2
        have hw : IntKind.i64.wrap (fi - lo) = fi - lo := by rw [IntKind.wrap_i64]; omega
        repeat (go_big_quiet_step ((go_at_call 52; rw [← HM0.out]; exact calls_since _ (least_any N HV.out K g f1 (mark z i) HF1.out.1.1 l HLI.out m0 HM1.out (by omega) a c _ (HS.out.kp ((HL3.out.below (Since.property _)).kp.mono (by simp))) (HL3.out.below (Since.property _)).f (HL3.out.below (Since.property _)).z (HST.out.below (Since.property _))))))
        refine wpQuiet_nil ?_
        intro w6 hb6
        rw [← HM0.out]
        clear hw g0 g1 g2 e1 e2 c2
        obtain ⟨am, ham⟩ : ∃ am, lst N f1 (mark z i) l m0 = am := ⟨_, rfl⟩
        rw [ham] at HAM ⊢
        have HL6 := Lib.hid (HL3.out.below hb6)
        have HST6 := Lib.hid (HST.out.below hb6)
        clear hb6 ham
        go_wp2_with fail
        refine (push_any N HV.out K g f1 HF1.out.1.1 l am (by have := HAM.out.1; omega) HAM.out.2.2 HLI.out HPAIR.out (by omega) a c _ (HS.out.kp (HL6.out.kp.mono (by simp))) HL6.out.f HST6.out (fun y hy => by have := HNEW.out y hy; have := HL2.out.kp.size; have := HFL.out.1; omega)).mono ?_
        rintro e w7 ⟨rfl, hk7, hf7⟩
        have hpi : pushes f1 l am i = fi := by rw [pushes_other f1 am HLN.out, HFI.out]
        have c2 := (HS.out.kp ((HL6.out.kp.trans (hk7.mono (by simp))).mono (by simp))).cells.2.2.1
        have hg7 := (HS.out.kp ((HL6.out.kp.trans (hk7.mono (by simp))).mono (by simp))).lt
        have e1 := hf7.cell i hi
        rw [hpi] at e1
        have e2 := hf7.frozen i
        have e3 := hf7.lt
        have hamb := HAM.out
        obtain ⟨am1, am2, _⟩ := hamb
        have HF8 : Hid (IRow (w7.setCell ⟨K.gf, i, none⟩ (.int .i64 (fi - am))) K.gf N.m (upd (pushes f1 l am) i (fi - am))) := Lib.hid (IRow.set hf7 i (fi - am) (upd_same _ _ _) (fun j hj => upd_other _ _ hj))
        have HL7 : Hid (Kp [K.gf, K.gc] w w7 ∧ BRow w7 K.gc N.m (mark z i) ∧ ArcAt w7 ga N i) := Lib.hid ⟨HL6.out.kp.trans (hk7.mono (by simp)), VRow.kp HL6.out.z hk7 (by have := HDIST.out.2.1; simp; omega), HL6.out.a.kp hk7 (by have := HL6.out.n; have := HFL.out.1; simp; omega)⟩
        have HCI : Hid (N.circ (upd (pushes f1 l am) i (fi - am))) := Lib.hid (by
          have := lessen_step HF1.out.1 hi HWK.out HLN.out HPAIR.out (m := am) (by omega) (by rw [HFI.out, HLO.out]; omega) HAM.out.2.2
          rwa [HFI.out] at this)
        have HSM : Hid (∀ j, j < N.m → j ≠ i → z j = true → upd (pushes f1 l am) i (fi - am) j = f j) := Lib.hid (fun j hj hji hzj => by
          rw [upd_other _ _ hji, pushes_other f1 am (fun s hs e => ?_)]
          · exact HF1.out.2 j hj hji hzj
          · have h1 := (rz_rm (HRZ.out s hs)).1
            unfold mark at h1
            rw [e, if_neg hji, hzj] at h1; cases h1)
        clear hk7 hf7 hpi
        go_wp2
        go_roundg (upd (pushes f1 l am) i (fi - am) i - N.lo i).toNat
        case rel => exact ⟨_, rfl, Lib.hid ⟨HCI.out, HSM.out⟩, Lib.hid ⟨HL7.out.1.setCell _ _ (.inl (by simp)), HF8.out, VRow.off HL7.out.2.1 _ HDIST.out.2.1.symm, HL7.out.2.2.kp (X := [K.gf]) ((Kp.refl _ _).setCell _ _ (.inl (by simp))) (by have := HL6.out.n; have := HFL.out.1; simp; omega), HL6.out.n⟩⟩
        case measure =>
          rw [hgk'.out, upd_same, HFI.out, HLO.out]
          omega
      · have HLES : Hid (Les N z i f f1) := Lib.hid ⟨HF1.out.1, HF1.out.2, .inr ⟨R, r1, r2, fun s hsi hne hzs hr hb => r3 s hsi (by
          unfold Nw.rz mark
          rw [if_neg (by rw [if_neg hne, hzs]; simp)]
          exact hr) hb⟩⟩
        clear r1 r2 r3
        go_wp2_with fail
        refine bodyPost_ret (v := .tuple #[]) (by simp [results, Try.results39, go_sem]) rfl ?_
        exact ⟨rfl, HL3.out.kp, f1, HL3.out.f, HL3.out.z, HLES.out⟩
    · have hgt2 : fi = lo := by omega
      have HLES : Hid (Les N z i f f1) := Lib.hid ⟨HF1.out.1, HF1.out.2, .inl (by rw [HFI.out, HLO.out]; exact hgt2)⟩
      have d1 : decide (lo < fi) = false := by simpa using hgt
      clear hgt hgt2
      go_wp2_with fail
      go_quiet (fail)
      go_wp2_with fail
      go_end0
      exact ⟨rfl, HL.out.kp.drewN _, f1, HL.out.f, HL.out.z, HLES.out⟩
end Go.Proofs.Ythoehobofdeifaa
