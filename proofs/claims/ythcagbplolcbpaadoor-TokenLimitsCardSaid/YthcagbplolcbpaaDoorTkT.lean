/-
  WALKS of times and of awake. (Filled in from a template of this repo.)
-/
import Derived.Test.YthcagbplolcbpaaDoorTkW
import Derived.Lib.AppendStr
import Derived.Lib.BufferRead
import Derived.Laws.MakeOwn
namespace Go.Proofs.YthcagbplolcbpaaDoor
open Go.ChangeShapes Go.WideShapes Go.ChangeAt Go.RowKit
set_option linter.unusedVariables false
set_option linter.unusedSimpArgs false

theorem Tryd.infoByte : (Tryd.prog.info? 5).map (fun i => (i.zero, i.size, i.bytes)) = some (some (.int .u8 0), 1, 1) := by kernel_rfl
/-- a text several times -/
def rep (l : Bt) : Nat → Bt
  | 0 => []
  | n + 1 => rep l n ++ l
theorem rep_len (l : Bt) (n : Nat) : (rep l n).length = n * l.length := by
  induction n with
  | zero => simp [rep]
  | succ n ih => simp [rep, ih, Nat.add_mul]
/-- bytes as cells -/
abbrev bcs (l : Bt) : List Value := Lib.strCells (st l)
theorem bcs_len (l : Bt) : (bcs l).length = l.length := Lib.strCells_length _
theorem bcs_app (a b : Bt) : bcs a ++ bcs b = bcs (a ++ b) := by simp [Lib.strCells]
theorem bcs_get {l : Bt} {j : Nat} (h : j < l.length) : (bcs l)[j]? = some (.int .u8 (l[j].toNat : Int)) := by simp [Lib.strCells, h]
set_option maxRecDepth 100000 in
set_option maxHeartbeats 4000000 in
theorem times_any (l : Bt) (n : Nat) (hl : l.length ≤ 8) (hn : n ≤ 70000) (w : World) :
    Calls Tryd.prog 13 #[.string (st l), .int .i64 (n : Int)] w fun e w' => e = .returned (.string (st (rep l n))) ∧ Below w.heap.size w w' := by
  obtain ⟨i0, hi0, hz0, hz1, hz2⟩ := info_parts Tryd.infoByte
  have hmul : n * l.length ≤ 560000 := by
    have := Nat.mul_le_mul hn hl
    omega
  have HI := Lib.hid hi0
  have HZ0 := Lib.hid hz0
  have HZ1 := Lib.hid hz1
  have HZ2 := Lib.hid hz2
  obtain ⟨w2, hmk, hown, hgr⟩ := run_make_own (P := Tryd.prog) w w.heap.size 22 5 i0 (.int .u8 0) 1 Tryd.underlying22 hi0 hz0 hz1 .i64 .i64 (n * l.length) (by rw [hz2]; omega) (by unfold maxLen; omega) (Nat.le_refl _)
  have hmw : IntKind.i64.wrap ((n : Int) * (l.length : Int)) = ((n * l.length : Nat) : Int) := by
    rw [IntKind.wrap_i64]; push_cast; have : ((n * l.length : Nat) : Int) = (n : Int) * (l.length : Int) := by push_cast; rfl
    omega
  rw [show ((n * l.length : Nat) : Int) = (n : Int) * (l.length : Int) from by push_cast; rfl] at hmk hmw
  have HO := Lib.hid hown
  have HB2 : Hid (Below w.heap.size w w2) := Lib.hid ⟨hgr.os, hgr.tape, hgr.output, hgr.size, fun k hk => hgr.block k hk (by simp)⟩
  have HML := Lib.hid hmul
  have HLL := Lib.hid hl
  clear hi0 hz0 hz1 hz2 hown hgr hmul
  go_enter Tryd.func13, Tryd.ntmps13
  go_wp2_with fail
  clear hmk hmw
  go_loopw [5, 6] (fun v5 v6 wr => ∃ k : Nat, k ≤ n ∧ v6 = .int .i64 k ∧ Hid (Below w.heap.size w wr ∧ wr.ownsRow w.heap.size 5 1 v5 (k * l.length) (bcs (rep l k)))) (fun _ v6 _ => n - (intOf v6).toNat)
  case atStart => exact ⟨0, by omega, rfl, Lib.hid ⟨HB2.out, by have := HO.out; simpa [rep, Lib.strCells] using this⟩⟩
  case round =>
    obtain ⟨k, hk, rfl, HR⟩ := hrel
    by_cases hlt : k < n
    · have hkm : k * l.length ≤ 560000 := by
        have h1 := Nat.mul_le_mul_right l.length (Nat.le_of_lt hlt)
        have h2 := HML.out
        omega
      have hsz := HR.out.1.size
      have HKM := Lib.hid hkm
      clear hkm
      go_wp2_with (at_builtin; refine Lib.wpList_append_own_string _ rfl _ _ 22 9 rfl w.heap.size 5 i0 Tryd.underlying22 Tryd.underlying9 HI.out HZ0.out HZ1.out HZ2.out _ _ _ rfl HR.out.2 (st l) rfl (by have h1 := HKM.out; have h2 := HLL.out; unfold maxLen; show _ + l.length ≤ _; omega) (by have h1 := HKM.out; have h2 := HLL.out; show _ + l.length ≤ _; omega) (by omega) ?_; intro v' w9 hown9 hgrow9 _; have HO9 := Lib.hid hown9; have HG9 := Lib.hid hgrow9; clear hown9 hgrow9)
      go_roundw
      case rel =>
        refine ⟨k + 1, by omega, by go_num, Lib.hid ⟨HR.out.1.grown HG9.out HR.out.1.size (fun q hq => (HR.out.2.lt q hq).1), ?_⟩⟩
        have h := HO9.out
        rw [bcs_app] at h
        rw [Nat.add_mul, Nat.one_mul]
        exact h
      case measure => simp [intOf]; omega
    · obtain rfl : k = n := by omega
      obtain ⟨a, cap, ha, hlen, hlc, hcm, hcells, hblk⟩ := Cells.of_own HR.out.2
      subst ha
      have hrl := rep_len l k
      have kc : (convert 22 9 (.slice a (k * l.length) cap)).run Tryd.prog wr = .ok (.string (st (rep l k))) wr := by
        rcases Nat.eq_zero_or_pos (k * l.length) with h0 | h0
        · have hr0 : rep l k = [] := List.eq_nil_of_length_eq_zero (by omega)
          rw [hr0, h0]
          cases a with
          | none => exact Lib.run_convert_nil_bytes wr 22 9 5 cap Tryd.underlying22 Tryd.underlying5 Tryd.underlying9
          | some x => exact run_convert_bytes_back wr 22 9 5 x cap [] Tryd.underlying22 Tryd.underlying5 Tryd.underlying9 (fun j hj => absurd hj (by simp))
        · obtain ⟨b, off, e, hb, hc⟩ := hcells (fun e => by
            have h1 := bcs_len (rep l k)
            rw [e] at h1; simp at h1; omega)
          subst e
          have h := run_convert_bytes_back wr 22 9 5 ⟨b, off, none⟩ cap (rep l k) Tryd.underlying22 Tryd.underlying5 Tryd.underlying9 (fun j hj => by
            have := hc j _ (bcs_get hj)
            have e : (⟨b, off, none⟩ : Addr).add j = ⟨b, off + j, none⟩ := by unfold Addr.add; split <;> simp_all
            rw [e]; exact this)
          rw [hrl] at h
          exact h
      have HB := Lib.hid HR.out.1
      clear hlen hlc hcm hcells hblk hrl
      clear HR
      go_wp2_with fail
      go_ret
      exact ⟨rfl, HB.out⟩
theorem step_digits {ln : Int} {b : UInt8} {r : Bt} {v : Int} (h10 : b.toNat ≠ 10) (h1 : lt8 b = false) (h2 : dg8 b = true) (ha : Lib.atoiAll (run dg8 (b :: r)) = .ok v) (hi : Lib.itoa v = run dg8 (b :: r)) (hl : (run in8 (b :: r)).length = (run dg8 (b :: r)).length) :
    stepI ln b r = .tok ⟨2, ln, v, run dg8 (b :: r)⟩ := by
  have hb : 48 ≤ b.toNat ∧ b.toNat ≤ 57 := by unfold dg8 at h2; simpa using h2
  have hn : nxI (b :: r) = (2, v, run dg8 (b :: r), true) := by
    show (if lt8 b then _ else _) = _
    rw [h1]
    simp only [Bool.false_eq_true, if_false]
    rw [h2]
    simp only [if_true]
    rw [ha]
    show (2, v, run dg8 (b :: r), (Lib.itoa v == run dg8 (b :: r)) && decide ((run in8 (b :: r)).length = (run dg8 (b :: r)).length)) = _
    rw [hi, hl]
    simp
  unfold stepI
  rw [if_neg h10, if_neg (by omega), if_neg (by omega), hn]
  simp
theorem scI_skip {f : Nat} {acc : List Tk} {b : UInt8} {r : Bt} {ln d : Int} {k : Nat} (h : stepI ln b r = .skip k d) : scI (f + 1) acc (b :: r) ln = scI f acc ((b :: r).drop k) (ln + d) := by
  show (match stepI ln b r with | .skip k d => _ | .tok x => _ | .bad => _) = _
  rw [h]
theorem scI_tok {f : Nat} {acc : List Tk} {b : UInt8} {r : Bt} {ln : Int} {x : Tk} (h : stepI ln b r = .tok x) : scI (f + 1) acc (b :: r) ln = scI f (acc ++ [x]) ((b :: r).drop x.t.length) ln := by
  show (match stepI ln b r with | .skip k d => _ | .tok x => _ | .bad => _) = _
  rw [h]
theorem scI_bad {f : Nat} {acc : List Tk} {b : UInt8} {r : Bt} {ln : Int} (h : stepI ln b r = .bad) : scI (f + 1) acc (b :: r) ln = (none, ln) := by
  show (match stepI ln b r with | .skip k d => _ | .tok x => _ | .bad => _) = _
  rw [h]
theorem awake_scan : scan [120, 60, 61, 49, 48] = (some [⟨1, 1, 0, [120]⟩, ⟨4, 1, 0, [60, 61]⟩, ⟨2, 1, 10, [49, 48]⟩, ⟨0, 1, 0, []⟩], 0) := by
  have s1 : stepI 1 120 [60, 61, 49, 48] = .tok ⟨1, 1, 0, [120]⟩ := by rfl
  have s2 : stepI 1 60 [61, 49, 48] = .tok ⟨4, 1, 0, [60, 61]⟩ := by rfl
  have s3 : stepI 1 49 [48] = .tok ⟨2, 1, 10, [49, 48]⟩ := step_digits (by decide) (by decide) (by decide) (by decide) (by simp [Lib.itoa, Lib.decDigits]; decide) (by decide)
  show scI 5 [] [120, 60, 61, 49, 48] 1 = _
  rw [scI_tok s1]
  show scI 4 _ [60, 61, 49, 48] 1 = _
  rw [scI_tok s2]
  show scI 3 _ [49, 48] 1 = _
  rw [scI_tok s3]
  rfl
end Go.Proofs.YthcagbplolcbpaaDoor
