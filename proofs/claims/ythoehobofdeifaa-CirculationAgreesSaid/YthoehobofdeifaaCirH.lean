/-
  PLAIN LAW of networks whose bounds are multiplied, and whose costs are shifted by potentials. No program in sight. (Filled in from a template of this repo.)
-/
import Derived.Test.YthoehobofdeifaaCirL
import Derived.Test.YthoehobofdeifaaCirB
namespace Go.Proofs.Ythoehobofdeifaa
set_option linter.unusedVariables false

/-- all bounds times k -/
def Nw.scale (N : Nw) (k : Int) : Nw := ⟨N.V, N.m, N.fr, N.to, fun i => N.lo i * k, fun i => N.up i * k, N.c⟩
theorem sm_mulr (n : Nat) (k : Int) (f : Nat → Int) : sm n (fun i => k * f i) = k * sm n f := sm_mul n k f
theorem exc_scale (N : Nw) (k : Int) (f : Nat → Int) (v : Nat) : (N.scale k).exc (fun i => k * f i) v = k * N.exc f v := by
  show sm N.m (fun i => (if N.to i = v then k * f i else 0) - (if N.fr i = v then k * f i else 0)) = k * sm N.m (fun i => (if N.to i = v then f i else 0) - (if N.fr i = v then f i else 0))
  rw [← sm_mul]
  refine sm_congr fun i _ => ?_
  rw [Int.mul_sub]
  split <;> split <;> simp
theorem lt_of_mul {k a b : Int} (hk : 0 < k) (h : k * a < k * b) : a < b := by
  rcases Int.lt_or_le a b with e | e
  · exact e
  · have := Int.mul_le_mul_of_nonneg_left e (show 0 ≤ k by omega)
    omega
theorem le_mul {k a b : Int} (hk : 0 < k) (h : a ≤ b) : k * a ≤ k * b := Int.mul_le_mul_of_nonneg_left h (by omega)
theorem circ_scale {N : Nw} {k : Int} (hk : 0 < k) {f : Nat → Int} (h : N.circ f) : (N.scale k).circ (fun i => k * f i) := by
  refine ⟨fun i hi => ?_, fun v hv => ?_⟩
  · obtain ⟨a, b⟩ := h.1 i hi
    show N.lo i * k ≤ k * f i ∧ k * f i ≤ N.up i * k
    rw [Int.mul_comm (N.lo i), Int.mul_comm (N.up i)]
    exact ⟨le_mul hk a, le_mul hk b⟩
  · rw [exc_scale, h.2 v hv, Int.mul_zero]
theorem fits_scale {N : Nw} {k : Int} (hk : 0 < k) {p f : Nat → Int} (h : N.fits p f) : (N.scale k).fits p (fun i => k * f i) := by
  intro i hi
  obtain ⟨a, b⟩ := h i hi
  refine ⟨fun hu => a ?_, fun hl => b ?_⟩
  · have hu' : k * f i < N.up i * k := hu
    rw [Int.mul_comm (N.up i)] at hu'
    exact lt_of_mul hk hu'
  · have hl' : N.lo i * k < k * f i := hl
    rw [Int.mul_comm (N.lo i)] at hl'
    exact lt_of_mul hk hl'
theorem cert_scale {N : Nw} {k : Int} (hk : 0 < k) {f : Nat → Int} (h : N.cert f) : (N.scale k).cert (fun i => k * f i) := by
  obtain ⟨p, f0, z0, h1, h2, h3, h4⟩ := h
  refine ⟨p, fun i => k * f0 i, z0, fits_scale hk h1, circ_scale hk h2, h3, circ_scale hk h4.circ, fun j hj hz => by show k * f j = k * f0 j; rw [h4.same j hj hz], fun j hj hz => ?_⟩
  rcases h4.least j hj hz with e | ⟨e, R, e1, e2, e3, e4, e5, e6⟩
  · left
    show k * f j = N.lo j * k
    rw [e, Int.mul_comm]
  · right
    refine ⟨fun i => k * e i, R, circ_scale hk e1, fun i hi hd => by show k * e i = k * f i; rw [e2 i hi hd], e3, e4, fun i hi hz' hlt ha hb => ?_, fun i hi hz' hlt ha hb => ?_⟩
    · show N.up i * k ≤ k * e i
      rw [Int.mul_comm]; exact le_mul hk (e5 i hi hz' hlt ha hb)
    · show k * e i ≤ N.lo i * k
      rw [Int.mul_comm (N.lo i)]; exact le_mul hk (e6 i hi hz' hlt ha hb)
theorem noc_scale {N : Nw} {k : Int} (hk : 0 < k) (h : N.noc) : (N.scale k).noc := by
  obtain ⟨f, R, h1, h2, h3⟩ := h
  refine ⟨fun i => k * f i, R, fun i hi a b => ?_, fun i hi a b => ?_, ?_⟩
  · show N.up i * k ≤ k * f i
    rw [Int.mul_comm]; exact le_mul hk (h1 i hi a b)
  · show k * f i ≤ N.lo i * k
    rw [Int.mul_comm (N.lo i)]; exact le_mul hk (h2 i hi a b)
  · have e : sm N.V (fun v => ind R v * (N.scale k).exc (fun i => k * f i) v) = k * sm N.V (fun v => ind R v * N.exc f v) := by
      rw [← sm_mul]
      refine sm_congr fun v _ => ?_
      rw [exc_scale, Int.mul_left_comm]
    show 0 < sm N.V (fun v => ind R v * (N.scale k).exc (fun i => k * f i) v)
    rw [e]
    exact Int.mul_pos hk h3
/-- costs shifted by potentials -/
def Nw.shift (N : Nw) (q : Nat → Int) : Nw := ⟨N.V, N.m, N.fr, N.to, N.lo, N.up, fun i => N.c i + q (N.fr i) - q (N.to i)⟩
theorem circ_shift {N : Nw} (q : Nat → Int) {f : Nat → Int} : (N.shift q).circ f ↔ N.circ f := Iff.rfl
theorem cost_shift {N : Nw} (hok : N.ok) (q : Nat → Int) {f : Nat → Int} (h : N.circ f) : (N.shift q).cost f = N.cost f := by
  have h1 := weigh_circ hok q h
  show sm N.m (fun i => (N.c i + q (N.fr i) - q (N.to i)) * f i) = sm N.m (fun i => N.c i * f i)
  have e : sm N.m (fun i => (N.c i + q (N.fr i) - q (N.to i)) * f i) = sm N.m (fun i => N.c i * f i) - sm N.m (fun i => (q (N.to i) - q (N.fr i)) * f i) := by
    rw [← sm_sub]
    refine sm_congr fun i _ => ?_
    rw [show N.c i + q (N.fr i) - q (N.to i) = N.c i - (q (N.to i) - q (N.fr i)) by omega, Int.sub_mul]
  rw [e, h1, Int.sub_zero]
theorem best_shift {N : Nw} (hok : N.ok) (q : Nat → Int) {f : Nat → Int} (h : N.best f) : (N.shift q).best f :=
  ⟨h.1, fun g hg => by
    rw [cost_shift hok q h.1, cost_shift hok q hg]
    exact h.2 g hg⟩
end Go.Proofs.Ythoehobofdeifaa
