/-
  PLAIN LAW of records: what is read as a record is its payload, and its payload is read as it; nothing more, nothing less.
-/
import Derived.Test.YtkgdogccnkjcgaaDoorRecA
namespace Go.Proofs.YtkgdogccnkjcgaaDoor
open Go.RowKit
theorem udF_canon : ∀ (f : Nat) (l : List Nat) (i acc : Nat), f + i = 10 → Byt l → i ≤ l.length → (udF f l i acc).2.2 = 0 →
    ∃ (n : Nat) (rest : List Nat), (udF f l i acc).1 = acc + n * 128 ^ i ∧ (udF f l i acc).2.1 = i + (uenc n).length ∧ l.drop i = uenc n ++ rest ∧ (0 < i → 0 < n)
  | 0, l, i, acc, _, _, _ => by intro h; simp [udF] at h
  | f + 1, l, i, acc, hf, hb, hi => by
    intro h
    rw [udF] at h ⊢
    by_cases h1 : i = l.length
    · rw [if_pos h1] at h; simp at h
    rw [if_neg h1] at h ⊢
    by_cases h2 : (i = 9 ∧ 1 < l.getD i 0) ∨ (l.getD i 0 = 0 ∧ 0 < i)
    · rw [if_pos h2] at h; simp at h
    rw [if_neg h2] at h ⊢
    have hil : i < l.length := by omega
    have hx : l.getD i 0 = l[i] := by simp [List.getD, hil]
    have hd : l.drop i = l[i] :: l.drop (i + 1) := List.drop_eq_getElem_cons hil
    have hxb := hb.get i
    rw [hx] at h h2 hxb ⊢
    by_cases h3 : l[i] < 128
    · rw [if_pos h3]
      refine ⟨l[i], l.drop (i + 1), ?_, ?_, ?_, ?_⟩
      · simp only [Nat.mod_eq_of_lt h3]
      · simp only [uenc_small h3]; rfl
      · rw [hd, uenc_small h3]; rfl
      · intro h0; omega
    · rw [if_neg h3] at h ⊢
      obtain ⟨n, rest, e1, e2, e3, e4⟩ := udF_canon f l (i + 1) _ (by omega) hb (by omega) h
      have hn := e4 (by omega)
      have hbig : ¬ (l[i] - 128 + 128 * n) < 128 := by omega
      have hm : (l[i] - 128 + 128 * n) % 128 = l[i] - 128 := by omega
      have hq : (l[i] - 128 + 128 * n) / 128 = n := by omega
      have hu : uenc (l[i] - 128 + 128 * n) = l[i] :: uenc n := by
        rw [uenc_big hbig, hm, hq, show l[i] - 128 + 128 = l[i] by omega]
      refine ⟨l[i] - 128 + 128 * n, rest, ?_, ?_, ?_, by omega⟩
      · rw [e1, show l[i] % 128 = l[i] - 128 by omega, Nat.add_mul, Nat.pow_succ, Nat.mul_comm 128 n, Nat.mul_assoc n 128, Nat.mul_comm 128 (128 ^ i), Nat.add_assoc]
      · rw [e2, hu, List.length_cons]; omega
      · rw [hd, e3, hu]; rfl
theorem ud_canon {l : List Nat} (hb : Byt l) (h : (ud l).2.2 = 0) : ∃ rest, l = uenc (ud l).1 ++ rest ∧ (ud l).2.1 = (uenc (ud l).1).length ∧ l.drop (ud l).2.1 = rest := by
  obtain ⟨n, rest, e1, e2, e3, _⟩ := udF_canon 10 l 0 0 rfl hb (by omega) h
  have e1' : (ud l).1 = n := by unfold ud; rw [e1]; simp
  have e2' : (ud l).2.1 = (uenc n).length := by unfold ud; rw [e2]; simp
  rw [e1', e2']
  have e3' : l = uenc n ++ rest := by simpa using e3
  exact ⟨rest, e3', rfl, by conv => lhs; rw [e3']
                            rw [List.drop_left]⟩

/-! ### the reader, backwards -/
theorem rdU_err {s : St} (h : (rdU s).2.2 = 0) : s.2 = 0 := by
  unfold rdU at h
  split at h
  · assumption
  · exact h
theorem rdI_err {s : St} (h : (rdI s).2.2 = 0) : s.2 = 0 := by
  unfold rdI at h
  split at h
  · assumption
  · exact h
theorem rdS_err {s : St} (h : (rdS s).2.2 = 0) : s.2 = 0 := rdU_err h
theorem rdU_back {s : St} (hb : Byt s.1) (h : (rdU s).2.2 = 0) : s.1 = uenc (rdU s).1 ++ (rdU s).2.1 := by
  have h0 := rdU_err h
  unfold rdU at h ⊢
  rw [if_pos h0] at h ⊢
  obtain ⟨rest, e1, e2, e3⟩ := ud_canon hb h
  simp only
  rw [e3]; exact e1
theorem zig_zag (n : Nat) : zig (zag n) = n := by unfold zig zag; split <;> split <;> omega
theorem rdI_back {s : St} (hb : Byt s.1) (h : (rdI s).2.2 = 0) : s.1 = uenc (zig (rdI s).1) ++ (rdI s).2.1 := by
  have h0 := rdI_err h
  unfold rdI at h ⊢
  rw [if_pos h0] at h ⊢
  obtain ⟨rest, e1, e2, e3⟩ := ud_canon hb h
  simp only
  rw [e3, zig_zag]; exact e1
theorem rdS_back {s : St} (hb : Byt s.1) (h : (rdS s).2.2 = 0) (hn : 0 ≤ (rdS s).1) : s.1 = uenc (rdS s).1.toNat ++ (rdS s).2.1 := by
  have e := rdU_back hb h
  have e2 : (rdS s).1.toNat = (rdU s).1 := by
    unfold rdS at hn ⊢
    simp only at hn ⊢
    split at hn
    · rename_i h3; rw [if_pos h3]; simp
    · omega
  rw [e2]; exact e
theorem byt_right {xs ys : List Nat} (h : Byt (xs ++ ys)) : Byt ys := fun x hx => h x (by simp [hx])
theorem rdN_err : ∀ (n : Nat) {s : St}, (rdN n s).2.2 = 0 → s.2 = 0
  | 0, _, h => h
  | n + 1, s, h => by
    unfold rdN at h
    split at h
    · assumption
    · exact h
theorem rdN_back : ∀ (n : Nat) {s : St}, Byt s.1 → (rdN n s).2.2 = 0 → (∀ x ∈ (rdN n s).1, (0 : Int) ≤ x) → (rdN n s).1.length = n ∧ s.1 = flatL (nats (rdN n s).1) ++ (rdN n s).2.1
  | 0, s, _, _, _ => by simp [rdN, nats, flatL]
  | n + 1, s, hb, h, hx => by
    have h0 := rdN_err _ h
    unfold rdN at h hx ⊢
    rw [if_pos h0] at h hx ⊢
    simp only at h hx ⊢
    have h1 := rdN_err n h
    have hx0 := hx _ (List.mem_cons_self ..)
    obtain ⟨e1, e2⟩ := rdN_back n (rdS_byt hb) h (fun x hm => hx x (List.mem_cons_of_mem _ hm))
    refine ⟨by simp [e1], ?_⟩
    have e3 := rdS_back hb h1 hx0
    unfold nats at e2 ⊢
    rw [List.map_cons, flatL_cons, List.append_assoc, ← e2]
    exact e3
theorem stDone_true {s : St} (h : stDone s = true) : s.2 = 0 ∧ s.1 = [] := by
  unfold stDone at h
  simp only [Bool.and_eq_true, decide_eq_true_eq] at h
  exact ⟨h.1, List.eq_nil_of_length_eq_zero h.2⟩
theorem all_nonneg {l : List Int} (h : l.all okA = true) : ∀ x ∈ l, (0 : Int) ≤ x := fun x hx => (inR_t (List.all_eq_true.1 h x hx)).1
theorem pay_sam (c a l : Int) (ch : List Int) : pay ⟨1, c, a, l, 0, 0, ch⟩ = uenc 1 ++ (uenc (zig c) ++ (uenc a.toNat ++ (uenc l.toNat ++ (uenc ch.length ++ flatL (nats ch))))) := by
  unfold pay
  rw [if_pos rfl]
  simp only [flatL_cons, List.append_assoc]
  rfl
theorem pay_cnt (i v : Int) : pay ⟨2, 0, 0, 0, i, v, []⟩ = uenc 2 ++ (uenc i.toNat ++ uenc v.toNat) := by
  unfold pay
  rw [if_neg (by simp), if_pos rfl]
  simp only [flatL_cons]
  simp [flatL]
theorem pay_end {k : Int} (h1 : k ≠ 1) (h2 : k ≠ 2) : pay ⟨k, 0, 0, 0, 0, 0, []⟩ = uenc k.toNat := by
  unfold pay
  rw [if_neg h1, if_neg h2]
theorem sam_back {s : St} (hb : Byt s.1) (h : (rdSam s).2 = true) : s.2 = 0 ∧ uenc 1 ++ s.1 = pay (rdSam s).1 ∧ Good (rdSam s).1 := by
  rcases hI : rdI s with ⟨c, s2⟩
  rcases hA : rdS s2 with ⟨x, s3⟩
  rcases hL : rdS s3 with ⟨l, s4⟩
  rcases hN : rdS s4 with ⟨m, s5⟩
  rcases hC : rdN m.toNat s5 with ⟨ch, s6⟩
  have eN : samN s = (m, s5) := by unfold samN; rw [hI]; simp only; rw [hA]; simp only; rw [hL]; simp only; rw [hN]
  have eO : samOf s = ⟨1, c, x, l, 0, 0, ch⟩ := by unfold samOf; rw [eN, hI]; simp only; rw [hA]; simp only; rw [hL]; simp only; rw [hC]
  have eR : rdSam s = if m < 0 then (⟨1, 0, 0, 0, 0, 0, []⟩, false) else (⟨1, c, x, l, 0, 0, ch⟩, stDone s6 && (ckR ⟨1, c, x, l, 0, 0, ch⟩ == 0)) := by
    unfold rdSam; rw [eN, eO]; simp only; rw [hC]
  rw [eR] at h ⊢
  by_cases hn : m < 0
  · rw [if_pos hn] at h; cases h
  rw [if_neg hn] at h ⊢
  simp only [Bool.and_eq_true, beq_iff_eq] at h ⊢
  obtain ⟨hd, hc⟩ := h
  have hg := good_of hc
  obtain ⟨hd0, hd1⟩ := stDone_true hd
  obtain ⟨r1, r2, r3, r4, _, _⟩ := hg.ranges
  simp only at r1 r2 r3 r4
  have g5 : s5.2 = 0 := by have := rdN_err m.toNat (s := s5); rw [hC] at this; exact this hd0
  have g4 : s4.2 = 0 := by have := rdS_err (s := s4); rw [hN] at this; exact this g5
  have g3 : s3.2 = 0 := by have := rdS_err (s := s3); rw [hL] at this; exact this g4
  have g2 : s2.2 = 0 := by have := rdS_err (s := s2); rw [hA] at this; exact this g3
  have g1 : s.2 = 0 := by have := rdI_err (s := s); rw [hI] at this; exact this g2
  have b2 : Byt s2.1 := by have := rdI_byt (s := s) hb; rw [hI] at this; exact this
  have b3 : Byt s3.1 := by have := rdS_byt (s := s2) b2; rw [hA] at this; exact this
  have b4 : Byt s4.1 := by have := rdS_byt (s := s3) b3; rw [hL] at this; exact this
  have b5 : Byt s5.1 := by have := rdS_byt (s := s4) b4; rw [hN] at this; exact this
  have e1 : s.1 = uenc (zig c) ++ s2.1 := by have := rdI_back (s := s) hb; rw [hI] at this; exact this g2
  have e2 : s2.1 = uenc x.toNat ++ s3.1 := by have := rdS_back (s := s2) b2; rw [hA] at this; exact this g3 r2.1
  have e3 : s3.1 = uenc l.toNat ++ s4.1 := by have := rdS_back (s := s3) b3; rw [hL] at this; exact this g4 r3.1
  have e4 : s4.1 = uenc m.toNat ++ s5.1 := by have := rdS_back (s := s4) b4; rw [hN] at this; exact this g5 (by simp only; omega)
  have e5 : ch.length = m.toNat ∧ s5.1 = flatL (nats ch) ++ s6.1 := by have := rdN_back m.toNat (s := s5) b5; rw [hC] at this; exact this hd0 (all_nonneg r4)
  refine ⟨g1, ?_, hg⟩
  rw [pay_sam, e5.1, e1, e2, e3, e4, e5.2, hd1, List.append_nil]
theorem cnt_back {s : St} (hb : Byt s.1) (h : (rdCnt s).2 = true) : s.2 = 0 ∧ uenc 2 ++ s.1 = pay (rdCnt s).1 ∧ Good (rdCnt s).1 := by
  rcases hA : rdS s with ⟨x, s3⟩
  rcases hL : rdS s3 with ⟨l, s4⟩
  have eO : cntOf s = ⟨2, 0, 0, 0, x, l, []⟩ := by unfold cntOf; rw [hA]; simp only; rw [hL]
  have eR : rdCnt s = (⟨2, 0, 0, 0, x, l, []⟩, stDone s4 && (ckR ⟨2, 0, 0, 0, x, l, []⟩ == 0)) := by
    unfold rdCnt; rw [eO, hA]; simp only; rw [hL]
  rw [eR] at h ⊢
  simp only [Bool.and_eq_true, beq_iff_eq] at h ⊢
  obtain ⟨hd, hc⟩ := h
  have hg := good_of hc
  obtain ⟨hd0, hd1⟩ := stDone_true hd
  obtain ⟨_, _, _, _, r5, r6⟩ := hg.ranges
  simp only at r5 r6
  have g3 : s3.2 = 0 := by have := rdS_err (s := s3); rw [hL] at this; exact this hd0
  have g1 : s.2 = 0 := by have := rdS_err (s := s); rw [hA] at this; exact this g3
  have b3 : Byt s3.1 := by have := rdS_byt (s := s) hb; rw [hA] at this; exact this
  have e2 : s.1 = uenc x.toNat ++ s3.1 := by have := rdS_back (s := s) hb; rw [hA] at this; exact this g3 r5.1
  have e3 : s3.1 = uenc l.toNat ++ s4.1 := by have := rdS_back (s := s3) b3; rw [hL] at this; exact this hd0 r6.1
  refine ⟨g1, ?_, hg⟩
  rw [pay_cnt, e2, e3, hd1, List.append_nil]
/-- WHAT IS READ AS A RECORD IS THE RECORD's PAYLOAD -/
theorem rdR_back {zs : List Nat} (hb : Byt zs) (h : (rdR zs).2 = true) : zs = pay (rdR zs).1 ∧ Good (rdR zs).1 := by
  rcases h0 : rdS (zs, 0) with ⟨k, s1⟩
  have eR : rdR zs = if k = 1 then rdSam s1 else if k = 2 then rdCnt s1 else rdEnd k s1 := by unfold rdR; rw [h0]
  have b1 : Byt s1.1 := by have := rdS_byt (s := (zs, 0)) hb; rw [h0] at this; exact this
  have e0 : s1.2 = 0 → 0 ≤ k → zs = uenc k.toNat ++ s1.1 := by have := rdS_back (s := (zs, 0)) hb; rw [h0] at this; exact this
  rw [eR] at h ⊢
  by_cases k1 : k = 1
  · subst k1
    rw [if_pos rfl] at h ⊢
    obtain ⟨g1, g2, g3⟩ := sam_back b1 h
    exact ⟨(e0 g1 (by decide)).trans g2, g3⟩
  rw [if_neg k1] at h ⊢
  by_cases k2 : k = 2
  · subst k2
    rw [if_pos rfl] at h ⊢
    obtain ⟨g1, g2, g3⟩ := cnt_back b1 h
    exact ⟨(e0 g1 (by decide)).trans g2, g3⟩
  rw [if_neg k2] at h ⊢
  unfold rdEnd at h ⊢
  simp only [Bool.and_eq_true, beq_iff_eq] at h ⊢
  obtain ⟨hd, hc⟩ := h
  have hg := good_of hc
  obtain ⟨hd0, hd1⟩ := stDone_true hd
  have hk := hg.kind
  simp only at hk
  refine ⟨?_, hg⟩
  rw [pay_end k1 k2]
  have := e0 hd0 (by omega)
  rw [hd1, List.append_nil] at this
  exact this
/-! ### the reader, forwards -/
theorem rdU_on {v : Nat} (hv : v < 18446744073709551616) (rest : List Nat) : rdU (uenc v ++ rest, 0) = (v, rest, 0) := by
  unfold rdU
  rw [if_pos rfl]
  simp only [ud_enc hv]
  rw [List.drop_left]
theorem rdS_on {v : Nat} (hv : v ≤ 4611686018427387904) (rest : List Nat) : rdS (uenc v ++ rest, 0) = ((v : Int), rest, 0) := by
  unfold rdS
  rw [rdU_on (by omega)]
  simp only
  rw [if_pos hv]
theorem rdI_on {i : Int} (h1 : -9223372036854775808 ≤ i) (h2 : i ≤ 9223372036854775807) (rest : List Nat) : rdI (uenc (zig i) ++ rest, 0) = (i, rest, 0) := by
  unfold rdI
  rw [if_pos rfl]
  simp only [ud_enc (zig_lt h1 h2), zag_zig]
  rw [List.drop_left]
theorem rdN_on : ∀ (l : List Int), l.all okA = true → ∀ rest : List Nat, rdN l.length (flatL (nats l) ++ rest, 0) = (l, rest, 0)
  | [], _, rest => rfl
  | x :: l, h, rest => by
    rw [List.all_cons, Bool.and_eq_true] at h
    have hx := inR_t h.1
    unfold nats
    rw [List.length_cons, List.map_cons, flatL_cons, List.append_assoc]
    unfold rdN
    rw [if_pos rfl, rdS_on (by omega)]
    have := rdN_on l h.2 rest
    unfold nats at this
    rw [this]
    simp only
    rw [show ((x.toNat : Nat) : Int) = x by omega]
theorem Good.eta {r : Rc} (h : Good r) : (r.kind = 1 → r.index = 0 ∧ r.value = 0) ∧ (r.kind ≠ 1 → r.clock = 0 ∧ r.addr = 0 ∧ r.lost = 0 ∧ r.chain = []) ∧ (r.kind ≠ 2 → r.index = 0 ∧ r.value = 0) := by
  have hf := h.form
  have hk := h.kind
  unfold formR at hf
  rcases hk with e | e | e
  · rw [if_pos e] at hf; simp at hf
    exact ⟨fun _ => hf, fun x => absurd e x, fun _ => hf⟩
  · rw [if_neg (by omega), if_pos e] at hf
    unfold blankR at hf; simp at hf
    exact ⟨fun x => by omega, fun _ => ⟨hf.1.1.1, hf.1.1.2, hf.2, hf.1.2⟩, fun x => absurd e x⟩
  · rw [if_neg (by omega), if_neg (by omega), if_pos e] at hf
    unfold blankR at hf; simp at hf
    exact ⟨fun x => by omega, fun _ => ⟨hf.2.1.1.1, hf.2.1.1.2, hf.2.2, hf.2.1.2⟩, fun _ => hf.1⟩
/-- A RECORD's PAYLOAD IS READ AS THE RECORD; with more behind it, it is no record -/
theorem rdR_on {r : Rc} (h : Good r) (more : List Nat) : rdR (pay r ++ more) = (r, decide (more.length = 0)) := by
  obtain ⟨hc, ha, hl, hch, hi, hv⟩ := h.ranges
  obtain ⟨t1, t2, t3⟩ := h.eta
  have hz := h.zero
  obtain ⟨kind, clock, addr, lost, index, value, chain⟩ := r
  simp only at hc ha hl hch hi hv t1 t2 t3
  have hcl := h.chain
  simp only at hcl
  rcases h.kind with e | e | e
  · simp only at e
    subst e
    obtain ⟨rfl, rfl⟩ := t1 rfl
    rw [pay_sam]
    simp only [List.append_assoc]
    unfold rdR
    have q1 := rdS_on (v := 1) (by omega) (uenc (zig clock) ++ (uenc addr.toNat ++ (uenc lost.toNat ++ (uenc chain.length ++ (flatL (nats chain) ++ more)))))
    rw [show ((1 : Nat) : Int) = 1 from rfl] at q1
    rw [q1, if_pos rfl]
    simp only
    unfold rdSam samOf samN
    rw [rdI_on (by omega) (by omega)]
    simp only
    rw [rdS_on (by omega)]
    simp only
    rw [rdS_on (by omega)]
    simp only
    rw [rdS_on (by omega)]
    simp only
    rw [if_neg (by omega), Int.toNat_natCast]
    rw [rdN_on chain hch more]
    simp only
    rw [show ((addr.toNat : Nat) : Int) = addr by omega, show ((lost.toNat : Nat) : Int) = lost by omega, hz]
    simp [stDone]
  · simp only at e
    subst e
    obtain ⟨rfl, rfl, rfl, rfl⟩ := t2 (by decide)
    rw [pay_cnt]
    simp only [List.append_assoc]
    unfold rdR
    have q1 := rdS_on (v := 2) (by omega) (uenc index.toNat ++ (uenc value.toNat ++ more))
    rw [show ((2 : Nat) : Int) = 2 from rfl] at q1
    rw [q1, if_neg (by simp), if_pos rfl]
    simp only
    unfold rdCnt cntOf
    rw [rdS_on (by omega)]
    simp only
    rw [rdS_on (by omega)]
    simp only
    rw [show ((index.toNat : Nat) : Int) = index by omega, show ((value.toNat : Nat) : Int) = value by omega, hz]
    simp [stDone]
  · simp only at e
    subst e
    obtain ⟨rfl, rfl, rfl, rfl⟩ := t2 (by decide)
    obtain ⟨rfl, rfl⟩ := t3 (by decide)
    rw [pay_end (by decide) (by decide)]
    unfold rdR
    have q1 := rdS_on (v := 3) (by omega) more
    rw [show ((3 : Nat) : Int) = 3 from rfl] at q1
    rw [show (3 : Int).toNat = 3 from rfl]
    rw [q1, if_neg (by simp), if_neg (by simp)]
    unfold rdEnd
    rw [hz]
    simp [stDone]
end Go.Proofs.YtkgdogccnkjcgaaDoor
