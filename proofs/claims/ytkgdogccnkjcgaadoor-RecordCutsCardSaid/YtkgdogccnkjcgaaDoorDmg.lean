/-
  PLAIN LAW of a changed byte.
-/
import Derived.Test.YtkgdogccnkjcgaaDoorDec
namespace Go.Proofs.YtkgdogccnkjcgaaDoor
open Go.ChangeShapes Go.WideShapes Go.ChangeAt Go.RowKit
theorem le4_inj {c d : Nat} (h : le4 c = le4 d) : c = d := by
  unfold le4 at h
  injection h with h0 h
  injection h with h1 h
  injection h with h2 h
  injection h with h3 h
  omega
theorem damage {ps : List Nat} {L j y : Nat} (hl : ps.length = L) (hL : L ≤ 1000) (hps : Byt ps) (hj : j < L + 4) (hy : y < 256) (hne : y ≠ (ps ++ le4 (crc ps)).getD j 0) (rest : List Nat) :
    fd (uenc L ++ ((ps ++ le4 (crc ps)).set j y ++ rest)) = ([], 0, 4) := by
  obtain ⟨c, hc⟩ : ∃ c, crc ps = c := ⟨_, rfl⟩
  rw [hc] at hne ⊢
  have hu := ud_enc (n := L) (by omega) ((ps ++ le4 c).set j y ++ rest)
  unfold fd
  rw [hu]
  simp only
  rw [if_neg (by simp), if_neg (by omega), if_neg (by simp [le4]; omega), if_neg]
  have hd : ∀ m, (uenc L ++ ((ps ++ le4 c).set j y ++ rest)).drop ((uenc L).length + m) = ((ps ++ le4 c).set j y ++ rest).drop m := by
    intro m; rw [List.drop_append, List.drop_eq_nil_of_le (by omega), Nat.add_sub_cancel_left, List.nil_append]
  have hd0 := hd 0
  rw [Nat.add_zero, List.drop_zero] at hd0
  rw [hd L, hd0]
  by_cases hjL : j < L
  · rw [List.set_append_left _ _ (by omega), List.append_assoc]
    rw [List.take_left' (by simp [hl]), List.drop_left' (by simp [hl])]
    intro e
    have e1 : (le4 c ++ rest).take 4 = le4 c := List.take_left' (by simp [le4])
    rw [e1] at e
    have e2 := le4_inj e
    rw [← hc] at e2
    have hj' : j < ps.length := by omega
    have hx : ps = ps.take j ++ ps[j] :: ps.drop (j + 1) := by rw [← List.drop_eq_getElem_cons hj', List.take_append_drop]
    have hs : ps.set j y = ps.take j ++ y :: ps.drop (j + 1) := by rw [List.set_eq_take_append_cons_drop]; simp [hj']
    have hg : (ps ++ le4 c).getD j 0 = ps[j] := by simp [List.getD, List.getElem?_append_left hj', hj']
    rw [hg] at hne
    rw [hs] at e2
    conv at e2 => lhs; rw [hx]
    exact crc_change (hps.take j) (hps.drop (j + 1)) (hps _ (List.getElem_mem hj')) hy (fun e => hne e.symm) e2
  · rw [List.set_append_right _ _ (by omega), List.append_assoc]
    rw [List.take_left' hl, List.drop_left' hl, hc]
    intro e
    have e1 : ((le4 c).set (j - ps.length) y ++ rest).take 4 = (le4 c).set (j - ps.length) y := List.take_left' (by simp [le4])
    rw [e1] at e
    apply hne
    have hg : (ps ++ le4 c).getD j 0 = (le4 c).getD (j - ps.length) 0 := by simp [List.getD, List.getElem?_append_right (show ps.length ≤ j by omega)]
    rw [hg, ← e]
    simp [List.getD, le4, show j - ps.length < 4 by omega]
theorem flatL_len3 : ∀ (l : List Nat), (∀ x ∈ l, x < 2097152) → (flatL l).length ≤ 3 * l.length
  | [], _ => by simp [flatL]
  | x :: l, h => by
    have h1 := uenc_len 2 x (by have : (128 : Nat) ^ (2 + 1) = 2097152 := by decide
                                have := h x (List.mem_cons_self ..); omega)
    have h2 := flatL_len3 l (fun y hy => h y (List.mem_cons_of_mem _ hy))
    rw [flatL_cons, List.length_append, List.length_cons]; omega
theorem pay_len2 {r : Rc} (h : Good r) : (pay r).length ≤ 120 := by
  obtain ⟨hc, ha, hl, hch, hi, hv⟩ := h.ranges
  obtain ⟨t1, t2, t3⟩ := h.eta
  have hcl := h.chain
  obtain ⟨kind, clock, addr, lost, index, value, chain⟩ := r
  simp only at hc ha hl hch hi hv t1 t2 t3 hcl
  have p8 : (128 : Nat) ^ (7 + 1) = 72057594037927936 := by decide
  have p3 : (128 : Nat) ^ (2 + 1) = 2097152 := by decide
  have p5 : (128 : Nat) ^ (4 + 1) = 34359738368 := by decide
  have p6 : (128 : Nat) ^ (5 + 1) = 4398046511104 := by decide
  rcases h.kind with e | e | e
  · simp only at e
    subst e
    obtain ⟨rfl, rfl⟩ := t1 rfl
    have h1 : (uenc 1).length = 1 := by rw [uenc_small (by decide)]; rfl
    have h2 := uenc_len 7 (zig clock) (by rw [p8]; unfold zig; split <;> omega)
    have h3 := uenc_len 2 addr.toNat (by rw [p3]; omega)
    have h4 := uenc_len 4 lost.toNat (by rw [p5]; omega)
    have h5 : (uenc chain.length).length = 1 := by rw [uenc_small (by omega)]; rfl
    have h6 := flatL_len3 (nats chain) (fun x hx => by
      obtain ⟨y, hy, rfl⟩ := List.mem_map.1 hx
      have := inR_t (List.all_eq_true.1 hch y hy)
      omega)
    have h7 : (nats chain).length = chain.length := by simp [nats]
    rw [pay_sam]
    simp only [List.length_append]
    omega
  · simp only at e
    subst e
    obtain ⟨rfl, rfl, rfl, rfl⟩ := t2 (by decide)
    have h1 : (uenc 2).length = 1 := by rw [uenc_small (by decide)]; rfl
    have h2 := uenc_len 2 index.toNat (by rw [p3]; omega)
    have h3 := uenc_len 5 value.toNat (by rw [p6]; omega)
    rw [pay_cnt]
    simp only [List.length_append]
    omega
  · simp only at e
    subst e
    obtain ⟨rfl, rfl, rfl, rfl⟩ := t2 (by decide)
    obtain ⟨rfl, rfl⟩ := t3 (by decide)
    rw [pay_3]; decide
/-- what is no record -/
theorem nextR_none {zs : List Nat} {c : Nat} (hb : Byt zs) (h : ∀ x, Good x → (fd zs).2.2 = 0 → (fd zs).1 = pay x → False) : nextR zs c = none := by
  unfold nextR
  by_cases h0 : (fd zs).2.2 = 0
  · rw [if_neg (by simpa using h0)]
    by_cases h1 : (rdR (fd zs).1).2 = false
    · rw [if_pos h1]
    · have h1 : (rdR (fd zs).1).2 = true := by simpa using h1
      obtain ⟨e1, e2⟩ := rdR_back (fd_byt hb h0) h1
      exact (h _ e2 h0 e1).elim
  · rw [if_pos h0]
theorem ud_small {y : Nat} (hy : y < 128) (T : List Nat) : ud (y :: T) = (y, 1, 0) := by
  have := ud_enc (n := y) (by omega) T
  rw [uenc_small hy] at this
  exact this
theorem fd_fst {l : List Nat} (h : (fd l).2.2 = 0) : (ud l).2.2 = 0 ∧ (ud l).2.1 + (ud l).1 + 4 ≤ l.length := by
  unfold fd at h
  split at h
  · rename_i h1; exact absurd h h1
  · rename_i h1
    split at h
    · simp at h
    · split at h
      · simp at h
      · rename_i h2
        exact ⟨by simpa using h1, by omega⟩
/-- A RECORD THAT HAS ONE BYTE CHANGED IS NO RECORD -/
theorem nextR_damage {r : Rc} (hr : Good r) {j y : Nat} (hj : j < (frame (pay r)).length) (hy : y < 256) (hne : y ≠ (frame (pay r)).getD j 0) {rest : List Nat} (hb : Byt rest) (c : Nat) :
    nextR ((frame (pay r)).set j y ++ rest) c = none := by
  have hL := pay_len2 hr
  have hps := pay_byt r
  obtain ⟨ps, hps'⟩ : ∃ ps, pay r = ps := ⟨_, rfl⟩
  rw [hps'] at hj hne hL hps ⊢
  obtain ⟨L, hl⟩ : ∃ L, ps.length = L := ⟨_, rfl⟩
  have hf : frame ps = L :: (ps ++ le4 (crc ps)) := by unfold frame; rw [hl, uenc_small (by omega)]; simp
  have hbF : Byt ((frame ps).set j y ++ rest) := Byt.append (fun z hz => by
    rcases List.mem_or_eq_of_mem_set hz with hz | rfl
    · exact frame_byt hps z hz
    · exact hy) hb
  refine nextR_none hbF ?_
  intro x hx h0 hpx
  rw [hf] at h0 hpx hj hne
  cases j with
  | succ j =>
    have e : (L :: (ps ++ le4 (crc ps))).set (j + 1) y ++ rest = uenc L ++ ((ps ++ le4 (crc ps)).set j y ++ rest) := by rw [uenc_small (by omega)]; simp
    have hd := damage hl (by omega) hps (j := j) (y := y) (by simp [le4] at hj; omega) hy (by simpa [List.getD] using hne) rest
    rw [e, hd] at h0
    simp at h0
  | zero =>
    have hyL : y ≠ L := by simpa [List.getD] using hne
    obtain ⟨T, hT⟩ : ∃ T, ps ++ le4 (crc ps) ++ rest = T := ⟨_, rfl⟩
    have e : (L :: (ps ++ le4 (crc ps))).set 0 y ++ rest = y :: T := by rw [← hT]; simp
    rw [e] at h0 hpx
    obtain ⟨u0, u1⟩ := fd_fst h0
    have hf3 := (fd_ok h0).2.2
    have hlx := pay_len2 hx
    by_cases hy8 : y < 128
    · rw [ud_small hy8] at u1 hf3
      simp only [List.drop_succ_cons, List.drop_zero, List.length_cons] at hf3 u1
      rw [hf3] at hpx
      by_cases hlt : y < L
      · have e1 : T.take y = ps.take y := by rw [← hT, List.append_assoc, List.take_append_of_le_length (by omega)]
        rw [e1] at hpx
        have h1 := rdR_on hx (ps.drop y)
        rw [← hpx, List.take_append_drop, ← hps'] at h1
        have h2 := rdR_on hr []
        rw [List.append_nil] at h2
        rw [h2] at h1
        simp only [Prod.mk.injEq] at h1
        have := h1.2
        simp only [List.length_nil, List.length_drop, hps', hl] at this
        have h3 : decide (L - y = 0) = true := by rw [← this]; rfl
        simp at h3; omega
      · have e1 : T.take y = ps ++ (le4 (crc ps) ++ rest).take (y - L) := by rw [← hT, List.append_assoc, List.take_append, List.take_of_length_le (by omega), hl]
        rw [e1] at hpx
        have h1 := rdR_on hr ((le4 (crc ps) ++ rest).take (y - L))
        rw [hps', hpx] at h1
        have h2 := rdR_on hx []
        rw [List.append_nil] at h2
        rw [h2] at h1
        simp only [Prod.mk.injEq] at h1
        have h3 := h1.2
        have h4 : ((le4 (crc ps) ++ rest).take (y - L)).length = y - L := by
          rw [List.length_take]
          have : T.length = L + (le4 (crc ps) ++ rest).length := by rw [← hT, List.append_assoc, List.length_append, hl]
          omega
        rw [h4] at h3
        have h5 : decide (y - L = 0) = true := by rw [← h3]; rfl
        simp at h5; omega
    · have hbT : Byt (y :: T) := by rw [← e]; rw [hf] at hbF; exact hbF
      obtain ⟨rest', k1, k2, k3⟩ := ud_canon hbT u0
      have hbig : ¬ (ud (y :: T)).1 < 128 := by
        intro hs
        rw [uenc_small hs] at k1
        injection k1 with k1
        omega
      have h9 : ((y :: T).drop (ud (y :: T)).2.1).take (ud (y :: T)).1 = pay x := by rw [← hf3]; exact hpx
      have h10 := congrArg List.length h9
      rw [List.length_take, List.length_drop] at h10
      omega
theorem recs_cons (r : Rc) (rs : List Rc) : recs (r :: rs) = frame (pay r) ++ recs rs := by simp [recs]
theorem locate : ∀ (fs : List Rc) (j : Nat), j < (recs fs).length → ∃ pre r post, fs = pre ++ r :: post ∧ (recs pre).length ≤ j ∧ j < (recs pre).length + (frame (pay r)).length
  | [], j, h => by simp [recs] at h
  | r :: fs, j, h => by
    rw [recs_cons, List.length_append] at h
    by_cases hj : j < (frame (pay r)).length
    · exact ⟨[], r, fs, rfl, by simp [recs], by simpa [recs] using hj⟩
    · obtain ⟨pre, r', post, e1, e2, e3⟩ := locate fs (j - (frame (pay r)).length) (by omega)
      refine ⟨r :: pre, r', post, by rw [e1]; rfl, ?_, ?_⟩
      · rw [recs_cons, List.length_append]; omega
      · rw [recs_cons, List.length_append]; omega
theorem recs_app (xs ys : List Rc) : recs (xs ++ ys) = recs xs ++ recs ys := by simp [recs]
/-- THE PLAIN LAW: what is recovered ends ahead of the changed byte, and is a beginning of the records -/
theorem scan_damage {rs : List Rc} (hg : ∀ r ∈ rs, Good r ∧ r.kind ≠ 3) (hn : rs.length ≤ 4096) (whole : Bool) {R : List Nat} (hR : recs rs ++ (if whole then frame [3] else []) = R) {j y : Nat} (hj : j < R.length) (hy : y < 256) (hne : y ≠ R.getD j 0) :
    ∃ m k, m ≤ rs.length ∧ k ≤ j ∧ scan ((R.set j y).length + 1) (R.set j y) 0 = (rs.take m, false, k) := by
  obtain ⟨fs, hfs⟩ : ∃ fs, rs ++ (if whole then [(⟨3, 0, 0, 0, 0, 0, []⟩ : Rc)] else []) = fs := ⟨_, rfl⟩
  have hRf : R = recs fs := by
    rw [← hR, ← hfs, recs_app]
    cases whole
    · rfl
    · simp [recs, pay_3]
  have hgf : ∀ r ∈ fs, Good r := by
    intro r hr
    rw [← hfs] at hr
    rcases List.mem_append.1 hr with hr | hr
    · exact (hg r hr).1
    · cases whole
      · cases hr
      · rw [if_pos rfl, List.mem_singleton] at hr; subst hr; exact good_end
  rw [hRf] at hj
  obtain ⟨pre, r, post, e1, e2, e3⟩ := locate fs j hj
  have hfl : fs.length ≤ rs.length + 1 := by rw [← hfs, List.length_append]; cases whole <;> simp
  have hpl : pre.length ≤ rs.length := by rw [e1, List.length_append, List.length_cons] at hfl; omega
  have hpre : pre = rs.take pre.length := by
    have h1 : fs.take pre.length = pre := by rw [e1, List.take_left]
    rw [← hfs, List.take_append_of_le_length hpl] at h1
    exact h1.symm
  obtain ⟨j', rfl⟩ : ∃ j', j = (recs pre).length + j' := ⟨j - (recs pre).length, by omega⟩
  have hRR : R = recs pre ++ (frame (pay r) ++ recs post) := by rw [hRf, e1, recs_app, recs_cons]
  have hset : R.set ((recs pre).length + j') y = recs pre ++ ((frame (pay r)).set j' y ++ recs post) := by
    rw [hRR, List.set_append_right _ _ (by omega), Nat.add_sub_cancel_left, List.set_append_left _ _ (by omega)]
  have hgr := hgf r (by rw [e1]; simp)
  have hny : y ≠ (frame (pay r)).getD j' 0 := by
    rw [hRR, getD_append_right] at hne
    have h5 : (frame (pay r) ++ recs post).getD j' 0 = (frame (pay r)).getD j' 0 := by simp [List.getD, List.getElem?_append_left (show j' < (frame (pay r)).length by omega)]
    rwa [h5] at hne
  have hnone := nextR_damage hgr (by omega) hy hny (recs_byt post) pre.length
  have hgp : ∀ x ∈ pre, Good x ∧ x.kind ≠ 3 := fun x hx => hg x (by rw [hpre] at hx; exact List.mem_of_mem_take hx)
  have hsc := scan_then hgp (by omega) _ hnone
  rw [← hset] at hsc
  exact ⟨pre.length, (recs pre).length, hpl, by omega, by rw [hsc, ← hpre]⟩
end Go.Proofs.YtkgdogccnkjcgaaDoor
