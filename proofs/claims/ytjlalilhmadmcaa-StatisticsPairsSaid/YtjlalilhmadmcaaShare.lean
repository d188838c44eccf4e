/-
  WALKS of chapter 43: Share, and the reference's Valid and Share.
-/
import Derived.Test.YtjlalilhmadmcaaThr
import Derived.Laws.ResultCell
namespace Go.Proofs.Ytjlalilhmadmcaa
open Go.ChangeShapes Go.WideShapes Go.ChangeAt Go.RowKit

theorem results_cell_row_tmp {P : Program} {fn : Func} {p u : Tmp} {ty : TypeId} (h : fn.results = #[.cell p ty, .tmp u]) (tmps : Array Value) (w : World) (g : Nat) (t : TypeId) (cs : Array Value) (fr : Nat × Nat) (d : TypeDesc)
    (hp : tmps.getD p undef = .pointer (some ⟨g, 0, none⟩)) (hg : w.heap[g]? = some (.cells cs t fr))
    (hu : P.underlying ty = some d) (hd : (match d with | .struct _ | .array _ _ => true | _ => false) = true) (hi : (P.info? ty).map (·.size) = some cs.size) :
    (results fn tmps).run P w = .ok (.tuple #[.agg cs, tmps.getD u undef]) w := by
  rw [results_cell_tmp h, hp]
  simp [asAddr, run_loadVar_row w g t ty cs fr d hg hu hd hi]

set_option maxRecDepth 100000 in
set_option maxHeartbeats 400000 in
theorem refvalid_any (num den : Int) (w : World) :
    Calls Try.prog 26 #[.agg #[.int .i64 num, .int .i64 den]] w fun e w' => e = .returned (.bool (decide (1 ≤ den ∧ den ≤ 1000000 ∧ 0 ≤ num ∧ num ≤ den))) ∧ Below w.heap.size w w' := by
  by_cases h1 : 1 ≤ den
  · by_cases h2 : den ≤ 1000000
    · by_cases h3 : 0 ≤ num
      · by_cases h4 : num ≤ den
        · go_enter Try.func26, Try.ntmps26
          go_wp2
          go_ret
          exact ⟨by simp; omega, (Below.refl _ _).alloc (Nat.le_refl _) _⟩
        · go_enter Try.func26, Try.ntmps26
          go_wp2
          go_ret
          exact ⟨by simp; omega, (Below.refl _ _).alloc (Nat.le_refl _) _⟩
      · go_enter Try.func26, Try.ntmps26
        go_wp2
        go_ret
        exact ⟨by simp; omega, (Below.refl _ _).alloc (Nat.le_refl _) _⟩
    · go_enter Try.func26, Try.ntmps26
      go_wp2
      go_ret
      exact ⟨by simp; omega, (Below.refl _ _).alloc (Nat.le_refl _) _⟩
  · go_enter Try.func26, Try.ntmps26
    go_wp2
    go_ret
    exact ⟨by simp; omega, (Below.refl _ _).alloc (Nat.le_refl _) _⟩



theorem refvalid_yes (num den : Int) (h1 : 1 ≤ den) (h2 : den ≤ 1000000) (h3 : 0 ≤ num) (h4 : num ≤ den) (w : World) :
    Calls Try.prog 26 #[.agg #[.int .i64 num, .int .i64 den]] w fun e w' => e = .returned (.bool true) ∧ Below w.heap.size w w' :=
  (refvalid_any num den w).mono fun e w' ⟨he, hb⟩ => ⟨by rw [he]; simp; omega, hb⟩
theorem refvalid_no (num den : Int) (h : ¬ (1 ≤ den ∧ den ≤ 1000000 ∧ 0 ≤ num ∧ num ≤ den)) (w : World) :
    Calls Try.prog 26 #[.agg #[.int .i64 num, .int .i64 den]] w fun e w' => e = .returned (.bool false) ∧ Below w.heap.size w w' :=
  (refvalid_any num den w).mono fun e w' ⟨he, hb⟩ => ⟨by rw [he]; simp only [decide_eq_false h], hb⟩


set_option maxRecDepth 100000 in
set_option maxHeartbeats 1000000 in
theorem Share_yes (num den looks : Int) (h1 : 1 ≤ den) (h2 : den ≤ 1000000) (h3 : 0 ≤ num) (h4 : num ≤ den) (l1 : 1 ≤ looks) (l2 : looks ≤ 8) (p : Int) (hp : den * looks = p) (p2 : p ≤ 1000000) (w : World) :
    Calls Try.prog 21 #[.agg #[.int .i64 num, .int .i64 den], .int .i64 looks] w fun e w' => e = .returned (.tuple #[.agg #[.int .i64 num, .int .i64 p], .int .i64 0]) ∧ Below w.heap.size w w' := by
  have p1 : 0 ≤ p := by rw [← hp]; exact Int.mul_nonneg (by omega) (by omega)
  go_enter Try.func21, Try.ntmps21
  go_wp2_with (first | (go_at_call 25; refine (valid_yes num den h1 h2 h3 h4 _).mono ?_; rintro e w1 ⟨rfl, hb⟩; have hc := (bcell hb).1; have hblk : w1.heap[w.heap.size + 1]? = some (.cells #[.int .i64 0, .int .i64 0] 25 (0, 0)) := (hb.block (w.heap.size + 1) (by simp)).trans (heap_alloc2_new w _ _)) | (refine wpList_store_row rfl 25 _ _ rfl _ _ rfl rfl _ _ hblk (by kernel_rfl) (by rfl) (by simp [Value.oneCell']) ?_))
  exact bodyPost_ret (results_cell_row_tmp Try.results21 _ _ (w.heap.size + 1) 25 _ _ _ rfl (setRow_heap w1 _ _ #[.int .i64 num, .int .i64 p] _ _ hblk) Try.underlying25 rfl (by kernel_rfl)) rfl ⟨rfl, below_setRow ((((Below.refl _ _).alloc (Nat.le_refl _) _).alloc (by simp) _).trans (hb.mono (by simp; omega))) (by omega) _⟩

set_option maxRecDepth 100000 in
set_option maxHeartbeats 1000000 in
theorem Share_no (num den looks : Int) (l0 : -9223372036854775808 ≤ looks) (l9 : looks ≤ 9223372036854775807) (h : ¬ (1 ≤ den ∧ den ≤ 1000000 ∧ 0 ≤ num ∧ num ≤ den ∧ 1 ≤ looks ∧ looks ≤ 8 ∧ den * looks ≤ 1000000)) (w : World) :
    Calls Try.prog 21 #[.agg #[.int .i64 num, .int .i64 den], .int .i64 looks] w fun e w' => e = .returned (.tuple #[.agg #[.int .i64 0, .int .i64 0], .int .i64 1]) ∧ Below w.heap.size w w' := by
  have fin : ∀ w1 : World, Below ((w.alloc (.cells #[.int .i64 num, .int .i64 den] 25)).alloc (.cells #[.int .i64 0, .int .i64 0] 25)).heap.size ((w.alloc (.cells #[.int .i64 num, .int .i64 den] 25)).alloc (.cells #[.int .i64 0, .int .i64 0] 25)) w1 → w1.heap[w.heap.size + 1]? = some (.cells #[.int .i64 0, .int .i64 0] 25 (0, 0)) ∧ Below w.heap.size w (w1.setRow (w.heap.size + 1) #[.int .i64 0, .int .i64 0]) :=
    fun w1 hb => ⟨(hb.block (w.heap.size + 1) (by simp)).trans (heap_alloc2_new w _ _), below_setRow ((((Below.refl _ _).alloc (Nat.le_refl _) _).alloc (by simp) _).trans (hb.mono (by simp; omega))) (by omega) _⟩
  have HF := Lib.hid fin
  clear fin
  by_cases hv : 1 ≤ den ∧ den ≤ 1000000 ∧ 0 ≤ num ∧ num ≤ den
  · by_cases k1 : looks < 1
    · obtain ⟨h1, h2, h3, h4⟩ := hv
      clear h
      go_enter Try.func21, Try.ntmps21
      go_wp2_with (first | (go_at_call 25; refine (valid_yes num den h1 h2 h3 h4 _).mono ?_; rintro e w1 ⟨rfl, hb⟩; have hc := (bcell hb).1; have hblk := (HF.out w1 hb).1) | (refine wpList_store_row rfl 25 _ _ rfl _ _ rfl rfl _ _ hblk (by kernel_rfl) (by rfl) (by simp [Value.oneCell']) ?_))
      exact bodyPost_ret (results_cell_row_tmp Try.results21 _ _ (w.heap.size + 1) 25 _ _ _ rfl (setRow_heap w1 _ _ #[.int .i64 0, .int .i64 0] _ _ hblk) Try.underlying25 rfl (by kernel_rfl)) rfl ⟨rfl, (HF.out w1 hb).2⟩
    · by_cases k2 : 8 < looks
      · obtain ⟨h1, h2, h3, h4⟩ := hv
        clear h
        go_enter Try.func21, Try.ntmps21
        go_wp2_with (first | (go_at_call 25; refine (valid_yes num den h1 h2 h3 h4 _).mono ?_; rintro e w1 ⟨rfl, hb⟩; have hc := (bcell hb).1; have hblk := (HF.out w1 hb).1) | (refine wpList_store_row rfl 25 _ _ rfl _ _ rfl rfl _ _ hblk (by kernel_rfl) (by rfl) (by simp [Value.oneCell']) ?_))
        exact bodyPost_ret (results_cell_row_tmp Try.results21 _ _ (w.heap.size + 1) 25 _ _ _ rfl (setRow_heap w1 _ _ #[.int .i64 0, .int .i64 0] _ _ hblk) Try.underlying25 rfl (by kernel_rfl)) rfl ⟨rfl, (HF.out w1 hb).2⟩
      · obtain ⟨h1, h2, h3, h4⟩ := hv
        obtain ⟨p, hp⟩ : ∃ p, den * looks = p := ⟨_, rfl⟩
        have p2 : 1000000 < p := by rw [← hp]; exact Int.not_le.1 (fun hh => h ⟨h1, h2, h3, h4, by omega, by omega, hh⟩)
        have p3 : p ≤ 8000000 := by rw [← hp]; calc den * looks ≤ 1000000 * looks := Int.mul_le_mul_of_nonneg_right h2 (by omega)
            _ ≤ 8000000 := by omega
        clear h
        go_enter Try.func21, Try.ntmps21
        go_wp2_with (first | (go_at_call 25; refine (valid_yes num den h1 h2 h3 h4 _).mono ?_; rintro e w1 ⟨rfl, hb⟩; have hc := (bcell hb).1; have hblk := (HF.out w1 hb).1) | (refine wpList_store_row rfl 25 _ _ rfl _ _ rfl rfl _ _ hblk (by kernel_rfl) (by rfl) (by simp [Value.oneCell']) ?_))
        exact bodyPost_ret (results_cell_row_tmp Try.results21 _ _ (w.heap.size + 1) 25 _ _ _ rfl (setRow_heap w1 _ _ #[.int .i64 0, .int .i64 0] _ _ hblk) Try.underlying25 rfl (by kernel_rfl)) rfl ⟨rfl, (HF.out w1 hb).2⟩
  · have HV := Lib.hid hv
    clear h hv
    go_enter Try.func21, Try.ntmps21
    go_wp2_with (first | (go_at_call 25; refine (valid_no num den HV.out _).mono ?_; rintro e w1 ⟨rfl, hb⟩; have hc := (bcell hb).1; have hblk := (HF.out w1 hb).1) | (refine wpList_store_row rfl 25 _ _ rfl _ _ rfl rfl _ _ hblk (by kernel_rfl) (by rfl) (by simp [Value.oneCell']) ?_))
    exact bodyPost_ret (results_cell_row_tmp Try.results21 _ _ (w.heap.size + 1) 25 _ _ _ rfl (setRow_heap w1 _ _ #[.int .i64 0, .int .i64 0] _ _ hblk) Try.underlying25 rfl (by kernel_rfl)) rfl ⟨rfl, (HF.out w1 hb).2⟩

set_option maxRecDepth 100000 in
set_option maxHeartbeats 1000000 in
theorem refShare_yes (num den looks : Int) (h1 : 1 ≤ den) (h2 : den ≤ 1000000) (h3 : 0 ≤ num) (h4 : num ≤ den) (l1 : 1 ≤ looks) (l2 : looks ≤ 8) (p : Int) (hp : den * looks = p) (p2 : p ≤ 1000000) (w : World) :
    Calls Try.prog 22 #[.agg #[.int .i64 num, .int .i64 den], .int .i64 looks] w fun e w' => e = .returned (.tuple #[.agg #[.int .i64 num, .int .i64 p], .int .i64 0]) ∧ Below w.heap.size w w' := by
  have p1 : 0 ≤ p := by rw [← hp]; exact Int.mul_nonneg (by omega) (by omega)
  go_enter Try.func22, Try.ntmps22
  go_wp2_with (first | (go_at_call 26; refine (refvalid_yes num den h1 h2 h3 h4 _).mono ?_; rintro e w1 ⟨rfl, hb⟩; have hc := (bcell hb).1; have hblk : w1.heap[w.heap.size + 1]? = some (.cells #[.int .i64 0, .int .i64 0] 25 (0, 0)) := (hb.block (w.heap.size + 1) (by simp)).trans (heap_alloc2_new w _ _)) | (refine wpList_store_row rfl 25 _ _ rfl _ _ rfl rfl _ _ hblk (by kernel_rfl) (by rfl) (by simp [Value.oneCell']) ?_))
  exact bodyPost_ret (results_cell_row_tmp Try.results22 _ _ (w.heap.size + 1) 25 _ _ _ rfl (setRow_heap w1 _ _ #[.int .i64 num, .int .i64 p] _ _ hblk) Try.underlying25 rfl (by kernel_rfl)) rfl ⟨rfl, below_setRow ((((Below.refl _ _).alloc (Nat.le_refl _) _).alloc (by simp) _).trans (hb.mono (by simp; omega))) (by omega) _⟩

set_option maxRecDepth 100000 in
set_option maxHeartbeats 1000000 in
theorem refShare_no (num den looks : Int) (l0 : -9223372036854775808 ≤ looks) (l9 : looks ≤ 9223372036854775807) (h : ¬ (1 ≤ den ∧ den ≤ 1000000 ∧ 0 ≤ num ∧ num ≤ den ∧ 1 ≤ looks ∧ looks ≤ 8 ∧ den * looks ≤ 1000000)) (w : World) :
    Calls Try.prog 22 #[.agg #[.int .i64 num, .int .i64 den], .int .i64 looks] w fun e w' => e = .returned (.tuple #[.agg #[.int .i64 0, .int .i64 0], .int .i64 1]) ∧ Below w.heap.size w w' := by
  have fin : ∀ w1 : World, Below ((w.alloc (.cells #[.int .i64 num, .int .i64 den] 25)).alloc (.cells #[.int .i64 0, .int .i64 0] 25)).heap.size ((w.alloc (.cells #[.int .i64 num, .int .i64 den] 25)).alloc (.cells #[.int .i64 0, .int .i64 0] 25)) w1 → w1.heap[w.heap.size + 1]? = some (.cells #[.int .i64 0, .int .i64 0] 25 (0, 0)) ∧ Below w.heap.size w (w1.setRow (w.heap.size + 1) #[.int .i64 0, .int .i64 0]) :=
    fun w1 hb => ⟨(hb.block (w.heap.size + 1) (by simp)).trans (heap_alloc2_new w _ _), below_setRow ((((Below.refl _ _).alloc (Nat.le_refl _) _).alloc (by simp) _).trans (hb.mono (by simp; omega))) (by omega) _⟩
  have HF := Lib.hid fin
  clear fin
  by_cases hv : 1 ≤ den ∧ den ≤ 1000000 ∧ 0 ≤ num ∧ num ≤ den
  · by_cases k1 : looks < 1
    · obtain ⟨h1, h2, h3, h4⟩ := hv
      clear h
      go_enter Try.func22, Try.ntmps22
      go_wp2_with (first | (go_at_call 26; refine (refvalid_yes num den h1 h2 h3 h4 _).mono ?_; rintro e w1 ⟨rfl, hb⟩; have hc := (bcell hb).1; have hblk := (HF.out w1 hb).1) | (refine wpList_store_row rfl 25 _ _ rfl _ _ rfl rfl _ _ hblk (by kernel_rfl) (by rfl) (by simp [Value.oneCell']) ?_))
      exact bodyPost_ret (results_cell_row_tmp Try.results22 _ _ (w.heap.size + 1) 25 _ _ _ rfl (setRow_heap w1 _ _ #[.int .i64 0, .int .i64 0] _ _ hblk) Try.underlying25 rfl (by kernel_rfl)) rfl ⟨rfl, (HF.out w1 hb).2⟩
    · by_cases k2 : 8 < looks
      · obtain ⟨h1, h2, h3, h4⟩ := hv
        clear h
        go_enter Try.func22, Try.ntmps22
        go_wp2_with (first | (go_at_call 26; refine (refvalid_yes num den h1 h2 h3 h4 _).mono ?_; rintro e w1 ⟨rfl, hb⟩; have hc := (bcell hb).1; have hblk := (HF.out w1 hb).1) | (refine wpList_store_row rfl 25 _ _ rfl _ _ rfl rfl _ _ hblk (by kernel_rfl) (by rfl) (by simp [Value.oneCell']) ?_))
        exact bodyPost_ret (results_cell_row_tmp Try.results22 _ _ (w.heap.size + 1) 25 _ _ _ rfl (setRow_heap w1 _ _ #[.int .i64 0, .int .i64 0] _ _ hblk) Try.underlying25 rfl (by kernel_rfl)) rfl ⟨rfl, (HF.out w1 hb).2⟩
      · obtain ⟨h1, h2, h3, h4⟩ := hv
        obtain ⟨p, hp⟩ : ∃ p, den * looks = p := ⟨_, rfl⟩
        have p2 : 1000000 < p := by rw [← hp]; exact Int.not_le.1 (fun hh => h ⟨h1, h2, h3, h4, by omega, by omega, hh⟩)
        have p3 : p ≤ 8000000 := by rw [← hp]; calc den * looks ≤ 1000000 * looks := Int.mul_le_mul_of_nonneg_right h2 (by omega)
            _ ≤ 8000000 := by omega
        clear h
        go_enter Try.func22, Try.ntmps22
        go_wp2_with (first | (go_at_call 26; refine (refvalid_yes num den h1 h2 h3 h4 _).mono ?_; rintro e w1 ⟨rfl, hb⟩; have hc := (bcell hb).1; have hblk := (HF.out w1 hb).1) | (refine wpList_store_row rfl 25 _ _ rfl _ _ rfl rfl _ _ hblk (by kernel_rfl) (by rfl) (by simp [Value.oneCell']) ?_))
        exact bodyPost_ret (results_cell_row_tmp Try.results22 _ _ (w.heap.size + 1) 25 _ _ _ rfl (setRow_heap w1 _ _ #[.int .i64 0, .int .i64 0] _ _ hblk) Try.underlying25 rfl (by kernel_rfl)) rfl ⟨rfl, (HF.out w1 hb).2⟩
  · have HV := Lib.hid hv
    clear h hv
    go_enter Try.func22, Try.ntmps22
    go_wp2_with (first | (go_at_call 26; refine (refvalid_no num den HV.out _).mono ?_; rintro e w1 ⟨rfl, hb⟩; have hc := (bcell hb).1; have hblk := (HF.out w1 hb).1) | (refine wpList_store_row rfl 25 _ _ rfl _ _ rfl rfl _ _ hblk (by kernel_rfl) (by rfl) (by simp [Value.oneCell']) ?_))
    exact bodyPost_ret (results_cell_row_tmp Try.results22 _ _ (w.heap.size + 1) 25 _ _ _ rfl (setRow_heap w1 _ _ #[.int .i64 0, .int .i64 0] _ _ hblk) Try.underlying25 rfl (by kernel_rfl)) rfl ⟨rfl, (HF.out w1 hb).2⟩
end Go.Proofs.Ytjlalilhmadmcaa
