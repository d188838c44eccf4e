/-
  PLAIN LAW of a cut profile.
-/
import Derived.Test.YtkgdogccnkjcgaaDoorDmg
namespace Go.Proofs.YtkgdogccnkjcgaaDoor
open Go.ChangeShapes Go.WideShapes Go.ChangeAt Go.RowKit
theorem nextR_cut {ps : List Nat} (hL : ps.length ≤ 120) {i : Nat} (hi : i < (frame ps).length) (hb : Byt ps) (c : Nat) : nextR ((frame ps).take i) c = none := by
  refine nextR_none ((frame_byt hb).take i) ?_
  intro x _ h0 _
  obtain ⟨L, hl⟩ : ∃ L, ps.length = L := ⟨_, rfl⟩
  have hf : frame ps = L :: (ps ++ le4 (crc ps)) := by unfold frame; rw [hl, uenc_small (by omega)]; simp
  have hlen : (frame ps).length = L + 5 := by rw [hf]; simp [le4, hl]
  cases i with
  | zero =>
    have : (fd ((frame ps).take 0)).2.2 = 2 := by rw [List.take_zero]; decide
    omega
  | succ i =>
    have e : (frame ps).take (i + 1) = L :: (ps ++ le4 (crc ps)).take i := by rw [hf]; rfl
    obtain ⟨_, h2⟩ := fd_fst h0
    rw [e, ud_small (by omega)] at h2
    simp only [List.length_cons, List.length_take] at h2
    omega
theorem nextR_empty (c : Nat) : nextR (frame []) c = none := by
  refine nextR_none (frame_byt Byt.nil) ?_
  intro x hx _ h1
  have hfd := fd_on (ps := []) (by simp) []
  rw [List.append_nil] at hfd
  rw [hfd] at h1
  have h2 := kind_len hx
  have h3 : 1 ≤ (pay x).length := by
    unfold pay
    split
    · simp only [List.length_append]; omega
    · split
      · simp only [List.length_append]; omega
      · omega
  rw [← h1] at h3
  simp at h3
theorem recs_take_mono (rs : List Rc) {i k : Nat} (h : i ≤ k) : (recs (rs.take i)).length ≤ (recs (rs.take k)).length := by
  have e : rs.take k = rs.take i ++ (rs.take k).drop i := by
    have : rs.take i = (rs.take k).take i := by rw [List.take_take, Nat.min_eq_left h]
    rw [this, List.take_append_drop]
  rw [e, recs_app, List.length_append]; omega
/-- THE PLAIN LAW: of a cut profile the whole records are recovered -/
theorem scan_cut {rs : List Rc} (hg : ∀ r ∈ rs, Good r ∧ r.kind ≠ 3) (hn : rs.length ≤ 4096) {q : Nat} (hq : q ≤ (recs rs).length) :
    ∃ k, k ≤ rs.length ∧ (recs (rs.take k)).length ≤ q ∧ (k < rs.length → q < (recs (rs.take (k + 1))).length) ∧
      scan (((recs rs).take q).length + 1) ((recs rs).take q) 0 = (rs.take k, false, (recs (rs.take k)).length) ∧
      scan ((recs (rs.take k) ++ frame []).length + 1) (recs (rs.take k) ++ frame []) 0 = (rs.take k, false, (recs (rs.take k)).length) := by
  have key : ∀ k, k ≤ rs.length → scan ((recs (rs.take k) ++ frame []).length + 1) (recs (rs.take k) ++ frame []) 0 = (rs.take k, false, (recs (rs.take k)).length) := fun k hk =>
    scan_then (fun x hx => hg x (List.mem_of_mem_take hx)) (by rw [List.length_take]; omega) _ (nextR_empty _)
  by_cases hlt : q < (recs rs).length
  · obtain ⟨pre, r, post, e1, e2, e3⟩ := locate rs q hlt
    have hk : pre.length < rs.length := by rw [e1]; simp
    have hpre : rs.take pre.length = pre := by rw [e1, List.take_left]
    have hpre1 : rs.take (pre.length + 1) = pre ++ [r] := by
      rw [e1, List.take_append, List.take_of_length_le (by omega)]; simp
    have hgr := (hg r (by rw [e1]; simp)).1
    refine ⟨pre.length, by omega, by rw [hpre]; exact e2, fun _ => ?_, ?_, key _ (by omega)⟩
    · rw [hpre1, recs_app, List.length_append, show recs [r] = frame (pay r) by simp [recs]]; exact e3
    · have ht : (recs rs).take q = recs pre ++ (frame (pay r)).take (q - (recs pre).length) := by
        conv => lhs; rw [e1, recs_app, recs_cons]
        rw [List.take_append, List.take_of_length_le e2, List.take_append_of_le_length (by omega)]
      rw [ht, hpre]
      refine scan_then (fun x hx => hg x ?_) ?_ _ (nextR_cut (pay_len2 hgr) (by omega) (pay_byt r) _)
      · rw [e1]; simp [hx]
      · omega
  · have hq' : q = (recs rs).length := by omega
    refine ⟨rs.length, Nat.le_refl _, by rw [List.take_length]; omega, fun h => absurd h (by omega), ?_, key _ (Nat.le_refl _)⟩
    rw [hq', List.take_length, List.take_length]
    have := scan_then hg hn [] (nextR_nil _)
    simpa using this
theorem Bs.take {w : World} {b off n cap k : Nat} {zs : List Nat} (h : Bs w (some ⟨b, off, none⟩) n cap zs) (hk : k ≤ n) : Bs w (some ⟨b, off, none⟩) k cap (zs.take k) := by
  have := h.cut (lo := 0) (m := k) (by omega)
  simpa using this
theorem Bs.capped {w : World} {b off n cap : Nat} {zs : List Nat} (h : Bs w (some ⟨b, off, none⟩) n cap zs) : Bs w (some ⟨b, off, none⟩) n n zs :=
  ⟨h.1, Nat.le_refl _, by have := h.2.1; have := h.2.2.1; omega, (fun e => by cases e), h.2.2.2.2⟩
theorem Rs.take {w : World} {a : Option Addr} {n cap k : Nat} {rs : List Rc} (h : Rs w a n cap rs) (hk : k ≤ n) : Rs w a k cap (rs.take k) :=
  ⟨by rw [List.length_take, h.1]; omega, by have := h.2.1; omega, h.2.2.1, h.2.2.2.1, fun i hi => by
    obtain ⟨b, off, e, hb, hr⟩ := h.2.2.2.2 i (by omega)
    exact ⟨b, off, e, hb, by rw [show (rs.take k).getD i default = rs.getD i default by simp [List.getD, hi]]; exact hr⟩⟩
/-- where the frames end -/
def ends (np : Nat) (rs : List Rc) (i : Nat) : Int := ((np + (recs (rs.take i)).length : Nat) : Int)
def endsL (np : Nat) (rs : List Rc) (i : Nat) : List Int := (List.range (i + 1)).map (ends np rs)
theorem endsL_len (np : Nat) (rs : List Rc) (i : Nat) : (endsL np rs i).length = i + 1 := by simp [endsL]
theorem endsL_succ (np : Nat) (rs : List Rc) (i : Nat) : endsL np rs (i + 1) = endsL np rs i ++ [ends np rs (i + 1)] := by simp [endsL, List.range_succ]
theorem endsL_get (np : Nat) (rs : List Rc) {i j : Nat} (h : j ≤ i) : (ints (endsL np rs i))[j]? = some (.int .i64 (ends np rs j)) := by simp [endsL, show j < i + 1 by omega]
theorem own_other {w w' : World} {B B' e e' size size' n n' : Nat} {v v' : Value} {xs xs' : List Value} (h : w.ownsRow B e size v n xs) (h' : w.ownsRow B' e' size' v' n' xs') (he : e ≠ e') (hg : w.grownBy w' v'.ownBlock) : w'.ownsRow B e size v n xs :=
  h.kept hg (by
    by_cases h0 : v.ownBlock = none
    · exact .inl h0
    · obtain ⟨g, hgg⟩ : ∃ g, v.ownBlock = some g := by cases hq : v.ownBlock with
        | none => exact absurd hq h0
        | some g => exact ⟨g, rfl⟩
      exact .inr (by rw [hgg]; exact (own_type h h' he hgg).symm))
theorem own_fresh {w : World} {g : Nat} {e : TypeId} {x : Value} (base : Nat) (h : w.heap[g]? = some (.cells #[x] e (0, 0))) (hb : base ≤ g) : w.ownsRow base e 1 (.slice (some ⟨g, 0, none⟩) 1 1) 1 [x] :=
  ⟨rfl, .inr ⟨g, 1, #[x], rfl, hb, h, Nat.le_refl _, by simp [maxLen], rfl, rfl⟩⟩
end Go.Proofs.YtkgdogccnkjcgaaDoor
