/-
  What Recover makes of an encoding; WALKS of Decode at encodings and of awake.
-/
import Derived.Test.YtkgdogccnkjcgaaDoorShd
namespace Go.Proofs.YtkgdogccnkjcgaaDoor
open Go.ChangeShapes Go.WideShapes Go.ChangeAt Go.RowKit
theorem nextR_rec {r : Rc} (h : Good r) {c : Nat} (hc : c ≠ 4096) (more : List Nat) : nextR (frame (pay r) ++ more) c = some (r, (frame (pay r)).length) := by
  have h1 := rdR_on h []
  rw [List.append_nil] at h1
  unfold nextR
  rw [fd_on (by have := pay_len h; omega)]
  simp only
  rw [if_neg (by simp), h1]
  simp [hc]
theorem good_end : Good ⟨3, 0, 0, 0, 0, 0, []⟩ := ⟨by decide, by decide, by decide⟩
theorem pay_3 : pay ⟨3, 0, 0, 0, 0, 0, []⟩ = [3] := by rw [pay_end (by decide) (by decide)]; exact uenc_small (by decide)
theorem nextR_end (c : Nat) (more : List Nat) : nextR (frame [3] ++ more) c = some (⟨3, 0, 0, 0, 0, 0, []⟩, (frame [3]).length) := by
  have h1 := rdR_on good_end []
  rw [List.append_nil, pay_3] at h1
  unfold nextR
  rw [fd_on (by simp)]
  simp only
  rw [if_neg (by simp), h1]
  simp
theorem nextR_nil (c : Nat) : nextR [] c = none := by
  have h : (fd []).2.2 = 2 := by decide
  unfold nextR
  rw [if_pos (by rw [h]; decide)]
theorem scan_none {f c : Nat} {zs : List Nat} (h : nextR zs c = none) : scan f zs c = ([], false, 0) := by
  cases f with
  | zero => rfl
  | succ f => simp only [scan, h]
theorem scan_recs : ∀ (rs : List Rc) (c f : Nat) (t : List Nat), (∀ r ∈ rs, Good r ∧ r.kind ≠ 3) → c + rs.length ≤ 4096 → rs.length ≤ f →
    scan f (recs rs ++ t) c = (rs ++ (scan (f - rs.length) t (c + rs.length)).1, (scan (f - rs.length) t (c + rs.length)).2.1, (recs rs).length + (scan (f - rs.length) t (c + rs.length)).2.2)
  | [], c, f, t, _, _, _ => by simp [recs]
  | r :: rs, c, f, t, hg, hc, hf => by
    obtain ⟨g1, g2⟩ := hg r (List.mem_cons_self ..)
    simp only [List.length_cons] at hc hf ⊢
    cases f with
    | zero => omega
    | succ f =>
      have e : recs (r :: rs) = frame (pay r) ++ recs rs := by simp [recs]
      have hn := nextR_rec g1 (c := c) (by omega) (recs rs ++ t)
      rw [e, List.append_assoc]
      simp only [scan, hn]
      rw [if_neg g2, List.drop_left, scan_recs rs (c + 1) f t (fun x hx => hg x (List.mem_cons_of_mem _ hx)) (by omega) (by omega)]
      rw [show f + 1 - (rs.length + 1) = f - rs.length by omega, show c + (rs.length + 1) = c + 1 + rs.length by omega, List.length_append]
      simp only [List.cons_append, Nat.add_assoc]
theorem recs_len (rs : List Rc) : 5 * rs.length ≤ (recs rs).length := by
  induction rs with
  | nil => simp [recs]
  | cons r rs ih =>
    have e : recs (r :: rs) = frame (pay r) ++ recs rs := by simp [recs]
    have := frame_len_ge (pay r)
    rw [e, List.length_append, List.length_cons]; omega
theorem recs_byt (rs : List Rc) : Byt (recs rs) := fun x hx => by
  obtain ⟨r, _, hr⟩ := List.mem_flatMap.1 hx
  exact frame_byt (pay_byt r) x hr
/-- what Recover makes of whole records, and of what follows -/
theorem scan_then {rs : List Rc} (hg : ∀ r ∈ rs, Good r ∧ r.kind ≠ 3) (hn : rs.length ≤ 4096) (t : List Nat) (ht : nextR t rs.length = none) : scan ((recs rs ++ t).length + 1) (recs rs ++ t) 0 = (rs, false, (recs rs).length) := by
  have hl := recs_len rs
  rw [scan_recs rs 0 _ t hg (by omega) (by rw [List.length_append]; omega), Nat.zero_add, scan_none ht]
  simp
theorem scan_enc {rs : List Rc} (hg : ∀ r ∈ rs, Good r ∧ r.kind ≠ 3) (hn : rs.length ≤ 4096) (whole : Bool) :
    scan ((recs rs ++ (if whole then frame [3] else [])).length + 1) (recs rs ++ (if whole then frame [3] else [])) 0 = (rs, whole, (recs rs ++ (if whole then frame [3] else [])).length) := by
  cases whole with
  | false =>
    have := scan_then hg hn [] (nextR_nil _)
    simpa using this
  | true =>
    have hl := recs_len rs
    have h3 := nextR_end rs.length []
    rw [List.append_nil] at h3
    rw [scan_recs rs 0 _ _ hg (by omega) (by rw [List.length_append]; omega), Nat.zero_add]
    simp only [if_true]
    obtain ⟨f, hf⟩ : ∃ f, (recs rs ++ frame [3]).length + 1 - rs.length = f + 1 := ⟨(recs rs ++ frame [3]).length - rs.length, by rw [List.length_append]; omega⟩
    rw [hf]
    simp only [scan, h3]
    simp [List.length_append]
theorem flat_get : ∀ (ls : List (Rc × Value)) (i j : Nat) (p : Rc × Value) (u : Value), ls[i]? = some p → (rv p)[j]? = some u → (ls.flatMap rv)[i * 7 + j]? = some u
  | [], i, j, p, u, h, _ => by simp at h
  | q :: ls, 0, j, p, u, h, hu => by
    simp at h; subst h
    have hj : j < (rv q).length := by
      rcases Nat.lt_or_ge j (rv q).length with h | h
      · exact h
      · rw [List.getElem?_eq_none h] at hu; cases hu
    rw [List.flatMap_cons, Nat.zero_mul, Nat.zero_add, List.getElem?_append_left hj]; exact hu
  | q :: ls, i + 1, j, p, u, h, hu => by
    simp at h
    have := flat_get ls i j p u h hu
    have hl : (rv q).length = 7 := rfl
    rw [List.flatMap_cons, List.getElem?_append_right (by rw [hl]; omega), hl, show (i + 1) * 7 + j - 7 = i * 7 + j by omega]; exact this
theorem Rs.of_own {w : World} {B B' : Nat} {v : Value} {ls : List (Rc × Value)} (h : w.ownsRow B 45 7 v ls.length (ls.flatMap rv)) (hc : Chains w B' ls) : ∃ a cap, v = .slice a ls.length cap ∧ Rs w a ls.length cap (ls.map (·.1)) := by
  obtain ⟨a, cap, rfl, h1, h2, h3, h4, _⟩ := Cells.of_own h
  refine ⟨a, cap, rfl, by simp, h2, h3, own_nil h, fun i hi => ?_⟩
  have hne : ls.flatMap rv ≠ [] := by intro e; have := congrArg List.length e; rw [rv_len] at this; simp at this; omega
  obtain ⟨b, off, e, hb, hcell⟩ := h4 hne
  refine ⟨b, off, e, hb, ?_⟩
  have hp : ls[i]? = some ls[i] := List.getElem?_eq_getElem hi
  obtain ⟨⟨ca, cn, cc, hv⟩, hown⟩ := hc ls[i] (List.getElem_mem hi)
  have hg : (ls.map (·.1)).getD i default = ls[i].1 := by simp [List.getD, hi]
  rw [hg]
  rw [hv] at hown
  have k : ∀ j u, (rv ls[i])[j]? = some u → w.cell? ⟨b, off + i * 7 + j, none⟩ = some u := fun j u hj => by
    rw [Nat.add_assoc]; exact hcell _ _ (flat_get ls i j _ u hp hj)
  obtain ⟨ca', cc', e', his⟩ := Is.of_own hown
  have hl := own_len hown
  injection e' with e1 e2 e3
  subst e1 e3
  refine ⟨ca, cn, cc, ⟨k 0 _ rfl, k 1 _ rfl, k 2 _ rfl, ?_, k 4 _ rfl, k 5 _ rfl, k 6 _ rfl⟩, by rw [← hl]; exact his⟩
  have := k 3 _ rfl
  rw [hv] at this
  exact this
/-- what Decode says of an encoding -/
def DecPost (h : Hd) (rs : List Rc) (whole : Bool) (w : World) (e : Ending) (w' : World) : Prop := ∃ (ls : List (Rc × Value)) (v : Value), e = .returned (.tuple #[shv h v whole, .int .i64 0]) ∧
  w'.ownsRow w.heap.size 45 7 v ls.length (ls.flatMap rv) ∧ Chains w' w.heap.size ls ∧ ls.map (·.1) = rs ∧ Below w.heap.size w w'
set_option maxRecDepth 100000 in
set_option maxHeartbeats 8000000 in
theorem Decode_good (h : Hd) (hh : ckH h = 0) (hp : h.print < 18446744073709551616) (rs : List Rc) (hg : ∀ r ∈ rs, Good r ∧ r.kind ≠ 3) (hn : rs.length ≤ 4096) (whole : Bool) (a : Option Addr) (n cap : Nat) (w : World) (hlen : n ≤ 90000) (hbs : Bs w a n cap (encB h rs whole)) (hl : Laid w) :
    Calls Tryd.prog 29 #[.slice a n cap] w (DecPost h rs whole w) := by
  have hb1 : Below w.heap.size w (w.alloc (.cells #[.int .i64 0, .int .i64 0, .int .i64 0, .int .i64 0, .int .u64 0, .slice none 0 0, .bool false] 32)) := (Below.refl _ _).alloc (Nat.le_refl _) _
  have hzB : (w.alloc (.cells #[.int .i64 0, .int .i64 0, .int .i64 0, .int .i64 0, .int .u64 0, .slice none 0 0, .bool false] 32)).heap[w.heap.size]? = some (.cells #[.int .i64 0, .int .i64 0, .int .i64 0, .int .i64 0, .int .u64 0, .slice none 0 0, .bool false] 32) := heap_alloc_new w _
  have hs1 : (w.alloc (.cells #[.int .i64 0, .int .i64 0, .int .i64 0, .int .i64 0, .int .u64 0, .slice none 0 0, .bool false] 32)).heap.size = w.heap.size + 1 := by simp
  obtain ⟨R, hR⟩ : ∃ R, recs rs ++ (if whole then frame [3] else []) = R := ⟨_, rfl⟩
  have hE : encB h rs whole = lettersV ++ frame (hpay h) ++ R := by rw [← hR]; unfold encB; simp only [List.append_assoc]
  have hsc := scan_enc hg hn whole
  rw [hR] at hsc
  have hbR : Byt R := by
    rw [← hR]
    refine Byt.append (recs_byt rs) ?_
    cases whole
    · exact Byt.nil
    · exact frame_byt (Byt.one (by decide))
  have hnn : n = 4 + (frame (hpay h)).length + R.length := by
    have := hbs.1
    rw [hE] at this
    simp only [List.length_append, List.length_cons, List.length_nil] at this
    omega
  have HBS := Lib.hid ((hE ▸ hbs).below hb1)
  have HBR := Lib.hid hbR
  have HL := Lib.hid (hl.below hb1)
  have HSC := Lib.hid hsc
  have HNN := Lib.hid hnn
  clear hbs hl hbR hsc hE hR hg hn hnn
  go_enter Tryd.func29, Tryd.ntmps29
  go_wp2_with fail
  refine (Recover_any h hh hp R HBR.out a n cap _ hlen HBS.out HL.out).mono ?_
  rintro e w2 ⟨ls, v, rfl, hown2, hch2, hls, hb2⟩
  rw [HSC.out] at hls ⊢
  simp only at hls ⊢
  rw [← HNN.out]
  have hzB2 := (hb2.block w.heap.size (by omega)).trans hzB
  have hb12 := hb1.trans (hb2.mono hb1.size)
  obtain ⟨va, vn, vc, rfl⟩ := own_sl hown2
  have hal := (Below.refl w2.heap.size w2).alloc (Nat.le_refl _) (.cells #[.int .i64 h.rel, .int .i64 h.mach, .int .i64 h.num, .int .i64 h.per, .int .u64 ((h.print : Nat) : Int), .slice va vn vc, .bool whole] 32)
  have hown3 := own_below hown2 hal
  have hch3 := hch2.below hal
  have hs2 : w.heap.size < w2.heap.size := by have := hb2.size; omega
  have hb3 := hb12.trans (hal.mono (by omega))
  have hB := (hal.block w.heap.size hs2).trans hzB2
  have e1 : ((n : Int) != (n : Int)) = false := by simp
  have hT : (w2.alloc (.cells #[.int .i64 h.rel, .int .i64 h.mach, .int .i64 h.num, .int .i64 h.per, .int .u64 ((h.print : Nat) : Int), .slice va vn vc, .bool whole] 32)).heap[w2.heap.size]? = some (.cells #[.int .i64 h.rel, .int .i64 h.mach, .int .i64 h.num, .int .i64 h.per, .int .u64 ((h.print : Nat) : Int), .slice va vn vc, .bool whole] 32 (0, 0)) := heap_alloc_new _ _
  have hown3 := ownsRow_mono2 (b' := w.heap.size + 1) hown3 (by omega)
  have hch3 := hch3.mono (B' := w.heap.size + 1) (by omega)
  clear hzB2 hb12 hown2 hch2 hal hb1 hb2 hzB hs1
  go_upto_region 8 with fail
  generalize (w2.alloc (.cells #[.int .i64 h.rel, .int .i64 h.mach, .int .i64 h.num, .int .i64 h.per, .int .u64 ((h.print : Nat) : Int), .slice va vn vc, .bool whole] 32)) = w3 at *
  generalize w2.heap.size = T at *
  go_wp2_with (first | (refine wpList_load_row (o := ⟨some 26, .load 32 (.tmp 4), _, _, _, _⟩) rfl 32 _ rfl T rfl 32 _ (0, 0) _ hT Tryd.underlying32 rfl (by kernel_rfl) ?_) | (refine wpList_store_row (o := ⟨none, .store 32 (.tmp 2) (.tmp 26), _, _, _, _⟩) rfl 32 _ _ rfl w.heap.size #[.int .i64 h.rel, .int .i64 h.mach, .int .i64 h.num, .int .i64 h.per, .int .u64 ((h.print : Nat) : Int), .slice va vn vc, .bool whole] rfl rfl 32 _ hB (by kernel_rfl) rfl (by kernel_rfl) ?_))
  refine bodyPost_ret (results_cell_row_tmp Tryd.results29 _ _ w.heap.size 32 _ _ _ rfl (setRow_heap _ _ _ _ _ _ hB) Tryd.underlying32 rfl (by kernel_rfl)) rfl ?_
  have hgs := grownBy_setRow w3 w.heap.size #[.int .i64 h.rel, .int .i64 h.mach, .int .i64 h.num, .int .i64 h.per, .int .u64 ((h.print : Nat) : Int), .slice va vn vc, .bool whole]
  have hs3 := (Array.getElem?_eq_some_iff.1 hB).1
  exact ⟨ls, _, rfl, ownsRow_mono2 (hown3.kept hgs (.inr (fun e => by have := hown3.lt _ e; omega))) (by omega), (hch3.block hgs (by omega)).mono (by omega), hls, below_grown1 hb3 hgs (by omega) (Nat.le_refl _)⟩
theorem enc0_len : (encB ⟨0, 0, 0, 0, 0⟩ [] true).length = 20 := by
  have h0 : uenc 0 = [0] := uenc_small (by decide)
  have hp : hpay ⟨0, 0, 0, 0, 0⟩ = [0, 0, 0, 0, 0] := by simp [hpay, flatL, h0]
  unfold encB frame
  rw [hp]
  simp [recs, le4, uenc_small]
set_option maxRecDepth 100000 in
set_option maxHeartbeats 8000000 in
theorem awake_any (w : World) (hl : Laid w) : Calls Tryd.prog 8 #[] w fun e w' => e = .returned (.bool true) ∧ Below w.heap.size w w' := by
  have HL := Lib.hid hl
  clear hl
  have hrs : Rs w none 0 0 [] := ⟨rfl, Nat.le_refl _, by simp [maxLen], fun _ => rfl, fun i hi => absurd hi (by omega)⟩
  go_enter Tryd.func8, Tryd.ntmps8
  go_wp2_with fail
  refine (Encode_good ⟨0, 0, 0, 0, 0⟩ none 0 0 [] true (by decide) (by decide) (fun i hi => absurd hi (by omega)) (by simp [recs]) (by omega) _ hrs HL.out).mono ?_
  rintro e w1 (⟨h9, _⟩ | ⟨_, v, rfl, hown1, hb1⟩)
  · omega
  obtain ⟨a1, cap1, rfl, hbs1⟩ := Bs.of_own hown1
  have hl20 := enc0_len
  rw [hl20] at hbs1 ⊢
  have HBS := Lib.hid hbs1
  have HL1 := Lib.hid (HL.out.below hb1)
  clear hbs1 hown1 hl20 hrs
  go_wp2_with fail
  refine (Decode_good ⟨0, 0, 0, 0, 0⟩ (by decide) (by decide) [] (fun r hr => by cases hr) (by simp) true a1 20 cap1 _ (by omega) HBS.out HL1.out).mono ?_
  rintro e w2 ⟨ls, v2, rfl, hown2, hch2, hls, hb2⟩
  have hb3 := hb1.trans (hb2.mono hb1.size)
  have hend := hb3.alloc (by have := hb3.size; omega) (.cells #[.int .i64 0, .int .i64 0, .int .i64 0, .int .i64 0, .int .u64 0, v2, .bool true] 32)
  obtain ⟨va, vn, vc, rfl⟩ := own_sl hown2
  clear hown2 hch2 hls hb2 hb1 hb3
  go_wp2_with fail
  go_ret
  exact ⟨rfl, hend⟩
theorem recs_le {rs : List Rc} (h : ∀ r ∈ rs, Good r) : (recs rs).length ≤ 500 * rs.length := by
  induction rs with
  | nil => simp [recs]
  | cons r rs ih =>
    have e : recs (r :: rs) = frame (pay r) ++ recs rs := by simp [recs]
    have h1 := pay_len (h r (List.mem_cons_self ..))
    have h2 := uenc_len10 (n := (pay r).length) (by omega)
    have h3 : (frame (pay r)).length ≤ 500 := by unfold frame; simp [le4]; omega
    have := ih (fun x hx => h x (List.mem_cons_of_mem _ hx))
    rw [e, List.length_append, List.length_cons]; omega
theorem enc_le {h : Hd} {rs : List Rc} {wh : Bool} (hh : ckH h = 0) (hp : h.print < 18446744073709551616) (hg : ∀ r ∈ rs, Good r) (hn : rs.length ≤ 100) : (encB h rs wh).length ≤ 60000 := by
  have h1 := pre_len hh hp
  have h2 := recs_le hg
  have h3 : (frame [3]).length = 6 := by unfold frame; simp [le4, uenc_small]
  unfold encB
  rw [List.length_append, List.length_append]
  cases wh
  · rw [show (if false = true then frame [3] else []) = ([] : List Nat) from rfl, List.length_nil]; omega
  · rw [show (if true = true then frame [3] else []) = frame [3] from rfl]; omega
end Go.Proofs.YtkgdogccnkjcgaaDoor
