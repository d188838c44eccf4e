/-
  WHAT make GIVES, for this translation's types of slices. (Filled in from a template of this repo.)
-/
import Derived.Test.YthoehobofdeifaaRows
import Derived.Test.YthoehobofdeifaaCirK
import Derived.Laws.MakeOwn
namespace Go.Proofs.Ythoehobofdeifaa
open Go.ChangeShapes Go.WideShapes Go.ChangeAt Go.RowKit

theorem made_vrow (z : Array Value) (n k : Nat) (F : Nat → Value) (hz : z.size = k) (hk : 0 < k) (h : ∀ j, j < n * k → z[j % k]! = F j) : madeCells z (n * k) = vrow (n * k) F := by
  subst hz
  apply Array.ext_getElem?
  intro j
  unfold madeCells vrow
  by_cases hj : j < n * z.size
  · simp [hj, h j hj]
  · simp [hj]
theorem make_any {P : Program} (t e : TypeId) (z : Value) (k bytes : Nat) (F : Nat → Value) (ht : P.underlying t = some (.slice e)) (hinfo : (P.info? e).map (fun i => (i.zero, i.size, i.bytes)) = some (some z, k, bytes)) (hk : 0 < k) (hb : bytes ≤ 64) (hzs : z.cells.size = k)
    (hF : ∀ j, z.cells[j % k]! = F j) (n : Nat) (hn : n ≤ 1000000) (w : World) :
    (Instr.makeSlice t (.int .i64 (n : Int)) (.int .i64 (n : Int))).run P w = .ok (.slice (some ⟨w.heap.size, 0, none⟩) n n) (w.alloc (.cells (vrow (n * k) F) e)) := by
  obtain ⟨i, hi, hz, hs, hby⟩ := info_parts hinfo
  have hbb : (i.bytes : Int) * (n : Int) ≤ 281474976710656 := by
    rw [hby]
    have h : bytes * n ≤ 64 * 1000000 := Nat.mul_le_mul hb hn
    have h2 : ((bytes * n : Nat) : Int) ≤ 281474976710656 := by omega
    rwa [Int.natCast_mul] at h2
  have hr := run_make (P := P) w t e i z ht hi hz .i64 .i64 (n : Int) (n : Int) (by omega) (by omega) hbb (by omega)
  simp only [Int.toNat_natCast, hs] at hr
  rw [made_vrow z.cells n k F hzs hk (fun j _ => hF j)] at hr
  exact hr
theorem Try.infoInt : (Try.prog.info? 3).map (fun i => (i.zero, i.size, i.bytes)) = some (some (.int .i64 0), 1, 8) := by kernel_rfl
theorem Try.infoBool : (Try.prog.info? 4).map (fun i => (i.zero, i.size, i.bytes)) = some (some (.bool false), 1, 1) := by kernel_rfl
theorem make_ints (n : Nat) (hn : n ≤ 1000000) (w : World) : (Instr.makeSlice 26 (.int .i64 (n : Int)) (.int .i64 (n : Int))).run Try.prog w = .ok (.slice (some ⟨w.heap.size, 0, none⟩) n n) (w.alloc (.cells (vrow n fun _ => .int .i64 0) 3)) := by
  have := make_any (P := Try.prog) 26 3 (.int .i64 0) 1 8 (fun _ => .int .i64 0) Try.underlying26 Try.infoInt (by omega) (by omega) rfl (fun j => by rw [Nat.mod_one]; rfl) n hn w
  rwa [Nat.mul_one] at this
theorem make_bools (n : Nat) (hn : n ≤ 1000000) (w : World) : (Instr.makeSlice 69 (.int .i64 (n : Int)) (.int .i64 (n : Int))).run Try.prog w = .ok (.slice (some ⟨w.heap.size, 0, none⟩) n n) (w.alloc (.cells (vrow n fun _ => .bool false) 4)) := by
  have := make_any (P := Try.prog) 69 4 (.bool false) 1 1 (fun _ => .bool false) Try.underlying69 Try.infoBool (by omega) (by omega) rfl (fun j => by rw [Nat.mod_one]; rfl) n hn w
  rwa [Nat.mul_one] at this
theorem make_steps (n : Nat) (hn : n ≤ 1000000) (w : World) : (Instr.makeSlice 85 (.int .i64 (n : Int)) (.int .i64 (n : Int))).run Try.prog w = .ok (.slice (some ⟨w.heap.size, 0, none⟩) n n) (w.alloc (.cells (vrow (n * 2) (stf fun _ => ⟨0, true⟩)) 75)) :=
  make_any (P := Try.prog) 85 75 (.agg #[.int .i64 0, .bool false]) 2 16 (stf fun _ => ⟨0, true⟩) Try.underlying85 Try.infoStep (by omega) (by omega) rfl (fun j => by
    rcases Nat.mod_two_eq_zero_or_one j with e | e
    · rw [e]; unfold stf; rw [if_pos e]; rfl
    · rw [e]; unfold stf; rw [if_neg (by omega)]; rfl) n hn w
end Go.Proofs.Ythoehobofdeifaa
