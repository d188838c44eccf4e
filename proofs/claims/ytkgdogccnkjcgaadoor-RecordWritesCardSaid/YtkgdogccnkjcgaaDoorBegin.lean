/-
  WALK of Begin.
-/
import Derived.Test.YtkgdogccnkjcgaaDoorNums
import Derived.Test.YtkgdogccnkjcgaaDoorStab
import Derived.Lib.SlBytesConst
namespace Go.Proofs.YtkgdogccnkjcgaaDoor
open Go.ChangeShapes Go.WideShapes Go.ChangeAt Go.RowKit
/-- all cells are as they were; below B all blocks too -/
structure Keeps (B : Nat) (w w' : World) : Prop where
  os : w'.os = w.os
  tape : w'.tape = w.tape
  output : w'.output = w.output
  size : w.heap.size ≤ w'.heap.size
  block : ∀ k, k < B → w'.heap[k]? = w.heap[k]?
  cell : ∀ b o, b < w.heap.size → w'.cell? ⟨b, o, none⟩ = w.cell? ⟨b, o, none⟩
  shape : ∀ b, b < w.heap.size → w'.shape? b = w.shape? b
  heap : ∀ k, k < w.heap.size → w.shape? k ≠ some (5, 4) → w'.heap[k]? = w.heap[k]?
theorem Keeps.refl (B : Nat) (w : World) : Keeps B w w := ⟨rfl, rfl, rfl, Nat.le_refl _, fun _ _ => rfl, fun _ _ _ => rfl, fun _ _ => rfl, fun _ _ _ => rfl⟩
theorem Keeps.trans {B : Nat} {x y z : World} (h : Keeps B x y) (k : Keeps B y z) : Keeps B x z :=
  ⟨k.os.trans h.os, k.tape.trans h.tape, k.output.trans h.output, Nat.le_trans h.size k.size, fun i hi => (k.block i hi).trans (h.block i hi), fun b o hb => (k.cell b o (Nat.lt_of_lt_of_le hb h.size)).trans (h.cell b o hb), fun b hb => (k.shape b (Nat.lt_of_lt_of_le hb h.size)).trans (h.shape b hb), fun b hb hs => (k.heap b (Nat.lt_of_lt_of_le hb h.size) (by rw [h.shape b hb]; exact hs)).trans (h.heap b hb hs)⟩
theorem shape_of_block {w w' : World} {b : Nat} (h : w'.heap[b]? = w.heap[b]?) : w'.shape? b = w.shape? b := by unfold World.shape?; rw [h]
theorem Keeps.of_below {B : Nat} {w w' : World} (h : Below w.heap.size w w') (hB : B ≤ w.heap.size) : Keeps B w w' :=
  ⟨h.os, h.tape, h.output, h.size, fun k hk => h.block k (by omega), fun b o hb => h.cell (p := ⟨b, o, none⟩) hb, fun b hb => shape_of_block (h.block b hb), fun b hb _ => h.block b hb⟩
theorem Keeps.below {B : Nat} {w w' : World} (h : Keeps B w w') : Below B w w' := ⟨h.os, h.tape, h.output, h.size, h.block⟩
theorem Cells.keeps {B : Nat} {w w' : World} {a : Option Addr} {xs : List Value} (h : Cells w a xs) (hk : Keeps B w w') : Cells w' a xs := by
  intro hx
  obtain ⟨b, off, e, hlt, hc⟩ := h hx
  exact ⟨b, off, e, Nat.lt_of_lt_of_le hlt hk.size, fun j u hj => (hk.cell b (off + j) hlt).trans (hc j u hj)⟩
theorem Bs.keeps {B : Nat} {w w' : World} {a : Option Addr} {n cap : Nat} {zs : List Nat} (h : Bs w a n cap zs) (hk : Keeps B w w') : Bs w' a n cap zs := ⟨h.1, h.2.1, h.2.2.1, h.2.2.2.1, h.2.2.2.2.keeps hk⟩
theorem Is.keeps {B : Nat} {w w' : World} {a : Option Addr} {n cap : Nat} {zs : List Int} (h : Is w a n cap zs) (hk : Keeps B w w') : Is w' a n cap zs := ⟨h.1, h.2.1, h.2.2.1, h.2.2.2.1, h.2.2.2.2.keeps hk⟩
theorem own_keeps {B C n : Nat} {w w' : World} {v : Value} {xs : List Value} (h : w.ownsRow B 5 1 v n xs) (h5 : 5 ≤ n) (hk : Keeps C w w') : w'.ownsRow B 5 1 v n xs := by
  obtain ⟨h1, h2 | ⟨g, cap, cur, e, hb, hg, hc, hm, hz, ht⟩⟩ := h
  · omega
  · refine ⟨h1, .inr ⟨g, cap, cur, e, hb, ?_, hc, hm, hz, ht⟩⟩
    rw [hk.heap g (Array.getElem?_eq_some_iff.1 hg).1 ?_, hg]
    unfold World.shape?
    rw [hg]
    intro e
    injection e with e
    injection e with _ e
    omega
/-- values of which something is known -/
inductive Know where
  | fix (c : Value)
  | bs (zs : List Nat)
  | is (zs : List Int)
  | raw (m : Nat) (zs : List Nat)
  | tup (m : Nat) (zs : List Nat)
  | own (m : Nat) (zs : List Nat)
def Know.at : Know → Value → World → Prop
  | .fix c, v, _ => v = c
  | .bs zs, v, w => ∃ (a : Option Addr) (n cap : Nat), v = .slice a n cap ∧ Bs w a n cap zs
  | .is zs, v, w => ∃ (a : Option Addr) (n cap : Nat), v = .slice a n cap ∧ Is w a n cap zs
  | .tup m zs, v, w => ∃ u, v = .tuple #[u, .int .i64 0] ∧ w.ownsRow m 5 1 u zs.length (byts zs) ∧ 5 ≤ zs.length
  | .own m zs, v, w => w.ownsRow m 5 1 v zs.length (byts zs) ∧ 5 ≤ zs.length
  | .raw m zs, v, w => ∃ b, m ≤ b ∧ v = .slice (some ⟨b, 0, none⟩) zs.length zs.length ∧ b < w.heap.size ∧ w.shape? b = some (5, zs.length) ∧ Bs w (some ⟨b, 0, none⟩) zs.length zs.length zs
theorem Know.keeps {B : Nat} {k : Know} {v : Value} {w w' : World} (hk : Keeps B w w') (h : k.at v w) : k.at v w' := by
  cases k with
  | fix c => exact h
  | bs zs => obtain ⟨a, n, cap, e, hb⟩ := h; exact ⟨a, n, cap, e, hb.keeps hk⟩
  | is zs => obtain ⟨a, n, cap, e, hb⟩ := h; exact ⟨a, n, cap, e, hb.keeps hk⟩
  | tup m zs => obtain ⟨u, e, hb, h5⟩ := h; exact ⟨u, e, own_keeps hb h5 hk, h5⟩
  | own m zs => exact ⟨own_keeps h.1 h.2 hk, h.2⟩
  | raw m zs => obtain ⟨b, hm, e, hl, hs, hb⟩ := h; exact ⟨b, hm, e, Nat.lt_of_lt_of_le hl hk.size, (hk.shape b hl).trans hs, hb.keeps hk⟩
abbrev lettersV : List Nat := [87, 80, 70, 49]
def hpay (h : Hd) : List Nat := flatL [h.rel.toNat, h.mach.toNat, h.num.toNat, h.per.toNat] ++ uenc h.print
theorem hpay_len (h : Hd) (hsm : Small [h.rel.toNat, h.mach.toNat, h.num.toNat, h.per.toNat]) (hp : h.print < 18446744073709551616) : (hpay h).length ≤ 50 := by
  have h1 := flatL_len _ hsm
  have h2 := uenc_len10 hp
  unfold hpay
  rw [List.length_append]
  simp only [List.length_cons, List.length_nil] at h1
  omega
theorem hpay_byt (h : Hd) : Byt (hpay h) := Byt.append (flatL_byt _) (uenc_byt _)
/-- what is known behind each operation -/
def beginK (A B : Nat) (h : Hd) : Nat → Know
  | 0 => .raw B lettersV
  | 1 => .bs lettersV
  | 2 => .fix (.pointer (some ⟨A, 0, none⟩))
  | 3 => .fix (.int .i64 h.rel)
  | 4 => .fix (.pointer (some ⟨A, 1, none⟩))
  | 5 => .fix (.int .i64 h.mach)
  | 6 => .fix (.pointer (some ⟨A, 2, none⟩))
  | 7 => .fix (.int .i64 h.num)
  | 8 => .fix (.pointer (some ⟨A, 3, none⟩))
  | 9 => .fix (.int .i64 h.per)
  | 10 => .is (up [h.rel.toNat, h.mach.toNat, h.num.toNat, h.per.toNat])
  | 11 => .bs (flatL [h.rel.toNat, h.mach.toNat, h.num.toNat, h.per.toNat])
  | 12 => .fix (.pointer (some ⟨A, 4, none⟩))
  | 13 => .fix (.int .u64 ((h.print : Nat) : Int))
  | 14 => .bs (hpay h)
  | 15 => .tup B (lettersV ++ frame (hpay h))
  | 16 => .own B (lettersV ++ frame (hpay h))
  | 17 => .fix (.int .i64 0)
  | 18 => .own B (lettersV ++ frame (hpay h))
  | _ => .fix (.int .i64 0)
theorem modify_get (a : Array Obj) (b k : Nat) (f : Obj → Obj) : (a.modify b f)[k]? = if b = k then (a[k]?).map f else a[k]? := by
  rw [Array.getElem?_modify]
theorem freeze_heap (w : World) (b m : Nat) : (w.freeze ⟨b, m, none⟩ 1).heap = w.heap.modify b (fun
    | .cells c elem (lo, hi) => .cells c elem (if lo == hi then (m, m + 1) else (min lo m, max hi (m + 1)))
    | o => o) := by unfold World.freeze; rw [if_neg (by decide)]; rfl
theorem freeze_get (w : World) (b m c : Nat) : (∃ cs e fr fr', w.heap[c]? = some (.cells cs e fr) ∧ (w.freeze ⟨b, m, none⟩ 1).heap[c]? = some (.cells cs e fr')) ∨ (w.freeze ⟨b, m, none⟩ 1).heap[c]? = w.heap[c]? := by
  rw [freeze_heap, modify_get]
  by_cases h : b = c
  · subst h
    rw [if_pos rfl]
    cases h2 : w.heap[b]? with
    | none => exact .inr rfl
    | some ob => cases ob with
      | cells cs e fr => exact .inl ⟨cs, e, fr, _, rfl, rfl⟩
      | _ => exact .inr rfl
  · rw [if_neg h]; exact .inr rfl
theorem freeze_keeps {B b m : Nat} {w : World} (hB : B ≤ b) (hsh : w.shape? b = some (5, 4)) : Keeps B w (w.freeze ⟨b, m, none⟩ 1) := by
  refine ⟨rfl, rfl, rfl, by rw [freeze_heap]; simp, fun k hk => ?_, fun c o hc => ?_, fun c hc => ?_, fun c hc hs => ?_⟩
  · rw [freeze_heap, modify_get, if_neg (by omega)]
  · rcases freeze_get w b m c with ⟨cs, e, fr, fr', h1, h2⟩ | h
    · unfold World.cell?; rw [h1, h2]
    · unfold World.cell?; rw [h]
  · rcases freeze_get w b m c with ⟨cs, e, fr, fr', h1, h2⟩ | h
    · unfold World.shape?; rw [h1, h2]
    · unfold World.shape?; rw [h]
  · rw [freeze_heap, modify_get, if_neg (fun e => hs (by rw [← e]; exact hsh))]
theorem run_mark {P : Program} {w : World} {b n c : Nat} {t : TypeId} (ht : P.underlying t = some (.slice 5)) (he : P.underlying 5 = some (.int .u8)) (hsh : w.shape? b = some (5, 4)) :
    ∃ w', (convert t t (.slice (some ⟨b, 0, none⟩) n c)).run P w = .ok (.slice (some ⟨b, 0, none⟩) n c) w' ∧ ∀ B, B ≤ b → Keeps B w w' := by
  refine ⟨w.freeze ⟨b, 4, none⟩ 1, ?_, fun B hB => freeze_keeps hB hsh⟩
  simp [convert, run_underlying ht, run_underlying he, markStringish, hsh]
/-- what Begin and Append say -/
def OwnErr (ok : Nat) (zs : List Nat) (w : World) (e : Ending) (w' : World) : Prop :=
  ∃ v, e = .returned (.tuple #[v, .int .i64 ((ok : Nat) : Int)]) ∧ w'.ownsRow w.heap.size 5 1 v (if ok = 0 then zs else []).length (byts (if ok = 0 then zs else [])) ∧ Below w.heap.size w w'
theorem ownErr_ok {zs : List Nat} {w w' : World} {v : Value} {k : Nat} (hk : k = 0) (h : w'.ownsRow w.heap.size 5 1 v zs.length (byts zs)) (hb : Below w.heap.size w w') : OwnErr k zs w (.returned (.tuple #[v, .int .i64 0])) w' := by
  subst hk
  exact ⟨v, rfl, by rw [if_pos rfl]; exact h, hb⟩
theorem ownErr_no {zs : List Nat} {w w' : World} {k : Nat} {j : Nat} (hk : k = j + 1) (hb : Below w.heap.size w w') : OwnErr k zs w (.returned (.tuple #[.slice none 0 0, .int .i64 ((j : Int) + 1)])) w' := by
  subst hk
  exact ⟨.slice none 0 0, rfl, by rw [if_neg (by omega)]; exact World.ownsRow_nil _ _ _ _, hb⟩
theorem ownsRow_mono2 {w : World} {b b' e size n : Nat} {v : Value} {xs : List Value} (h : w.ownsRow b e size v n xs) (hb : b' ≤ b) : w.ownsRow b' e size v n xs := by
  rcases h with ⟨h1, h2 | ⟨g, cap, cur, h3, h4, h5⟩⟩
  · exact ⟨h1, .inl h2⟩
  · exact ⟨h1, .inr ⟨g, cap, cur, h3, by omega, h5⟩⟩
theorem nil_bs (w : World) : Bs w none 0 0 [] := ⟨rfl, Nat.le_refl _, by simp [maxLen], fun _ => rfl, Cells.nil _ _⟩
set_option maxRecDepth 100000 in
set_option maxHeartbeats 8000000 in
theorem Begin_any (h : Hd) (hp : h.print < 18446744073709551616) (w : World) (hl : Laid w) : Calls Tryd.prog 12 #[h.val] w (OwnErr (ckH h) (lettersV ++ frame (hpay h)) w) := by
  go_enter Tryd.func12, Tryd.ntmps12
  go_wp2_with fail
  refine (CheckHeader_any h _).mono ?_
  rintro e w2 ⟨rfl, hb2⟩
  have hb02 := ((Below.refl w.heap.size w).alloc (Nat.le_refl _) (.cells #[.int .i64 h.rel, .int .i64 h.mach, .int .i64 h.num, .int .i64 h.per, .int .u64 ((h.print : Nat) : Int)] 29)).trans (hb2.mono (by simp))
  cases h1 : ckH h with
  | succ k =>
    have d1 : (((k + 1 : Nat) : Int) != 0) = true := by simp; omega
    go_wp2_with fail
    go_ret2
    exact ownErr_no h1 hb02
  | zero =>
  have g := fun i v (hv : (#[.int .i64 h.rel, .int .i64 h.mach, .int .i64 h.num, .int .i64 h.per, .int .u64 ((h.print : Nat) : Int)] : Array Value)[i]? = some v) => (hb2.cell (p := ⟨w.heap.size, i, none⟩) (by simp)).trans ((cell_of_row _ _ _ _ _ _ (heap_alloc_new w _)).trans hv)
  have b0 : w2.cell? ⟨w.heap.size, 0, none⟩ = some (.int .i64 h.rel) := g 0 _ rfl
  have b1 : w2.cell? ⟨w.heap.size, 1, none⟩ = some (.int .i64 h.mach) := g 1 _ rfl
  have b2 : w2.cell? ⟨w.heap.size, 2, none⟩ = some (.int .i64 h.num) := g 2 _ rfl
  have b3 : w2.cell? ⟨w.heap.size, 3, none⟩ = some (.int .i64 h.per) := g 3 _ rfl
  have b4 : w2.cell? ⟨w.heap.size, 4, none⟩ = some (.int .u64 ((h.print : Nat) : Int)) := g 4 _ rfl
  have hs2 : w.heap.size < w2.heap.size := by have := hb2.size; simp at this; omega
  have hL2 := hl.below hb02
  have hin : inR h.rel 0 1073741824 = true ∧ inR h.mach 0 1073741824 = true ∧ inR h.num 0 1073741824 = true ∧ inR h.per 0 1099511627776 = true := by
    unfold ckH at h1
    split at h1
    · rename_i hh; simp only [Bool.and_eq_true] at hh; exact ⟨hh.1.1.1, hh.1.1.2, hh.1.2, hh.2⟩
    · cases h1
  have r1 := inR_t hin.1
  have r2 := inR_t hin.2.1
  have r3 := inR_t hin.2.2.1
  have r4 := inR_t hin.2.2.2
  have hsm : Small [h.rel.toNat, h.mach.toNat, h.num.toNat, h.per.toNat] := by
    intro x hx
    simp only [List.mem_cons, List.not_mem_nil, or_false] at hx
    rcases hx with rfl | rfl | rfl | rfl <;> omega
  clear g hb2
  generalize hA : w.heap.size = A at *
  go_wp2_with fail
  refine wp_region_stab_all 20 rfl (Keeps w2.heap.size) (fun j => (beginK A w2.heap.size h j).at) (by kernel_rfl) (by kernel_rfl) (Keeps.refl _) (fun x y z => Keeps.trans) (fun j v w w' hk hr => Know.keeps hk hr) ?_ ?_
  · intro vs i o ho
    rcases i with _|_|_|_|_|_|_|_|_|_|_|_|_|_|_|_|_|_|_|_|i
    · simp at ho; subst ho
      refine ob_plain rfl ?_
      intro wx hS hd
      refine ⟨?_⟩
      simp only [fillN, fillT]
      go_simp
      refine gives_value ⟨Keeps.of_below ((Below.refl _ _).alloc (Nat.le_refl _) _) hS.size, ?_⟩
      refine ⟨wx.heap.size, hS.size, rfl, by simp, ?_, ?_⟩
      · unfold World.shape?; rw [heap_alloc_new wx _]; rfl
      · refine ⟨rfl, Nat.le_refl _, by simp [maxLen], (fun e => by cases e), fun _ => ⟨_, _, rfl, by simp, fun j u hj => ?_⟩⟩
        rw [cell_of_row _ _ _ _ _ _ (heap_alloc_new wx _), Nat.zero_add]
        simpa using hj
    · simp at ho; subst ho
      refine ob_plain rfl ?_
      intro wx hS hd
      obtain ⟨x0, m0, e0, l0, s0, k0⟩ := hd 0 (by kernel_rfl)
      refine ⟨?_⟩
      simp only [fillN, fillT, putT, dstOf]
      simp only [e0]
      go_simp
      obtain ⟨wm, hrun, hkeep⟩ := run_mark (n := 4) (c := 4) Tryd.underlying22 Tryd.underlying5 s0
      rw [hrun]
      exact gives_value ⟨hkeep _ m0, _, _, _, rfl, k0.keeps (hkeep _ m0)⟩
    · simp at ho; subst ho
      refine ob_plain rfl ?_
      intro wx hS hd
      refine ⟨?_⟩
      simp only [fillN, fillT, putT, dstOf]
      go_simp
      refine gives_value ⟨Keeps.refl _ _, ?_⟩
      rfl
    · simp at ho; subst ho
      refine ob_plain rfl ?_
      intro wx hS hd
      have h2 : vs 2 = _ := hd 2 (by kernel_rfl)
      have y := (hS.cell A 0 (show A < w2.heap.size by omega)).trans b0
      refine ⟨?_⟩
      simp only [fillN, fillT, putT, dstOf]
      simp only [h2]
      go_simp
      refine gives_value ⟨Keeps.refl _ _, ?_⟩
      rfl
    · simp at ho; subst ho
      refine ob_plain rfl ?_
      intro wx hS hd
      refine ⟨?_⟩
      simp only [fillN, fillT, putT, dstOf]
      go_simp
      refine gives_value ⟨Keeps.refl _ _, ?_⟩
      rfl
    · simp at ho; subst ho
      refine ob_plain rfl ?_
      intro wx hS hd
      have h4 : vs 4 = _ := hd 4 (by kernel_rfl)
      have y := (hS.cell A 1 (show A < w2.heap.size by omega)).trans b1
      refine ⟨?_⟩
      simp only [fillN, fillT, putT, dstOf]
      simp only [h4]
      go_simp
      refine gives_value ⟨Keeps.refl _ _, ?_⟩
      rfl
    · simp at ho; subst ho
      refine ob_plain rfl ?_
      intro wx hS hd
      refine ⟨?_⟩
      simp only [fillN, fillT, putT, dstOf]
      go_simp
      refine gives_value ⟨Keeps.refl _ _, ?_⟩
      rfl
    · simp at ho; subst ho
      refine ob_plain rfl ?_
      intro wx hS hd
      have h6 : vs 6 = _ := hd 6 (by kernel_rfl)
      have y := (hS.cell A 2 (show A < w2.heap.size by omega)).trans b2
      refine ⟨?_⟩
      simp only [fillN, fillT, putT, dstOf]
      simp only [h6]
      go_simp
      refine gives_value ⟨Keeps.refl _ _, ?_⟩
      rfl
    · simp at ho; subst ho
      refine ob_plain rfl ?_
      intro wx hS hd
      refine ⟨?_⟩
      simp only [fillN, fillT, putT, dstOf]
      go_simp
      refine gives_value ⟨Keeps.refl _ _, ?_⟩
      rfl
    · simp at ho; subst ho
      refine ob_plain rfl ?_
      intro wx hS hd
      have h8 : vs 8 = _ := hd 8 (by kernel_rfl)
      have y := (hS.cell A 3 (show A < w2.heap.size by omega)).trans b3
      refine ⟨?_⟩
      simp only [fillN, fillT, putT, dstOf]
      simp only [h8]
      go_simp
      refine gives_value ⟨Keeps.refl _ _, ?_⟩
      rfl
    · simp at ho; subst ho
      refine ob_plain rfl ?_
      intro wx hS hd
      have h3 : vs 3 = _ := hd 3 (by kernel_rfl)
      have h5 : vs 5 = _ := hd 5 (by kernel_rfl)
      have h7 : vs 7 = _ := hd 7 (by kernel_rfl)
      have h9 : vs 9 = _ := hd 9 (by kernel_rfl)
      refine ⟨?_⟩
      simp only [fillN, fillT, putT, dstOf]
      simp only [h3, h5, h7, h9]
      go_simp
      refine gives_value ⟨Keeps.of_below ((Below.refl _ _).alloc (Nat.le_refl _) _) hS.size, ?_⟩
      refine ⟨_, _, _, rfl, ?_⟩
      refine ⟨rfl, Nat.le_refl _, by simp [maxLen], (fun e => by cases e), fun _ => ⟨_, _, rfl, by simp, fun j u hj => ?_⟩⟩
      rw [cell_of_row _ _ _ _ _ _ (heap_alloc_new wx _), Nat.zero_add]
      have q1 := Int.toNat_of_nonneg r1.1
      have q2 := Int.toNat_of_nonneg r2.1
      have q3 := Int.toNat_of_nonneg r3.1
      have q4 := Int.toNat_of_nonneg r4.1
      simpa [q1, q2, q3, q4] using hj
    · simp at ho; subst ho
      refine ob_plain rfl ?_
      intro wx hS hd
      obtain ⟨x10, n10, c10, e10, k10⟩ := hd 10 (by kernel_rfl)
      refine ⟨?_⟩
      simp only [fillN, fillT, putT, dstOf]
      simp only [e10]
      go_simp
      have hn10 := k10.1
      simp only [up, List.length_map, List.length_cons, List.length_nil] at hn10
      refine gives_enter ?_
      refine (put_any none x10 0 0 n10 c10 [] _ (by omega) (by omega) hsm _ (nil_bs _) k10).mono ?_
      rintro e w3 ⟨a3, n3, c3, rfl, hb3, hbb3⟩
      exact ⟨_, rfl, Keeps.of_below hbb3 hS.size, _, _, _, rfl, hb3⟩
    · simp at ho; subst ho
      refine ob_plain rfl ?_
      intro wx hS hd
      refine ⟨?_⟩
      simp only [fillN, fillT, putT, dstOf]
      go_simp
      refine gives_value ⟨Keeps.refl _ _, ?_⟩
      rfl
    · simp at ho; subst ho
      refine ob_plain rfl ?_
      intro wx hS hd
      have h12 : vs 12 = _ := hd 12 (by kernel_rfl)
      have y := (hS.cell A 4 (show A < w2.heap.size by omega)).trans b4
      refine ⟨?_⟩
      simp only [fillN, fillT, putT, dstOf]
      simp only [h12]
      go_simp
      refine gives_value ⟨Keeps.refl _ _, ?_⟩
      rfl
    · simp at ho; subst ho
      refine ob_plain rfl ?_
      intro wx hS hd
      obtain ⟨x11, n11, c11, e11, k11⟩ := hd 11 (by kernel_rfl)
      have h13 : vs 13 = _ := hd 13 (by kernel_rfl)
      refine ⟨?_⟩
      simp only [fillN, fillT, putT, dstOf]
      simp only [e11, h13]
      go_simp
      have hfl := flatL_len _ hsm
      have hn11 := k11.1
      simp only [List.length_cons, List.length_nil] at hfl
      refine gives_enter ?_
      refine (PutUint_any x11 n11 c11 h.print _ (by omega) hp _ k11).mono ?_
      intro e w3 hm
      obtain ⟨a3, n3, c3, rfl, hb3, hbb3⟩ := hm.bs
      exact ⟨_, rfl, Keeps.of_below hbb3 hS.size, _, _, _, rfl, hb3⟩
    · simp at ho; subst ho
      refine ob_plain rfl ?_
      intro wx hS hd
      obtain ⟨x1, n1, c1, e1, k1⟩ := hd 1 (by kernel_rfl)
      obtain ⟨x14, n14, c14, e14, k14⟩ := hd 14 (by kernel_rfl)
      refine ⟨?_⟩
      simp only [fillN, fillT, putT, dstOf]
      simp only [e1, e14]
      go_simp
      have hl := hpay_len h hsm hp
      have hn14 := k14.1
      have hn1 := k1.1
      simp only [List.length_cons, List.length_nil] at hn1
      refine gives_enter ?_
      refine (PutFrame_any x1 x14 n1 c1 n14 c14 _ _ (by omega) (by omega) (hpay_byt h) _ k1 k14 (Laid.below (w := w2.drew) hL2 hS.below)).mono ?_
      rintro e w3 (⟨hx, _⟩ | ⟨_, v3, rfl, ho3, hb3⟩)
      · omega
      exact ⟨_, rfl, Keeps.of_below hb3 hS.size, v3, rfl, ownsRow_mono2 ho3 hS.size, by unfold frame; simp [le4]; omega⟩
    · simp at ho; subst ho
      refine ob_plain rfl ?_
      intro wx hS hd
      obtain ⟨x15, e15, k15, q15⟩ := hd 15 (by kernel_rfl)
      refine ⟨?_⟩
      simp only [fillN, fillT, putT, dstOf]
      simp only [e15]
      go_simp
      exact gives_value ⟨Keeps.refl _ _, k15, q15⟩
    · simp at ho; subst ho
      refine ob_plain rfl ?_
      intro wx hS hd
      obtain ⟨x15, e15, k15, q15⟩ := hd 15 (by kernel_rfl)
      refine ⟨?_⟩
      simp only [fillN, fillT, putT, dstOf]
      simp only [e15]
      go_simp
      refine gives_value ⟨Keeps.refl _ _, ?_⟩
      rfl
    · simp at ho; subst ho
      refine ob_plain rfl ?_
      intro wx hS hd
      have k16 := hd 16 (by kernel_rfl)
      refine ⟨?_⟩
      simp only [fillN, fillT, putT, dstOf]
      go_simp
      exact gives_value ⟨Keeps.refl _ _, k16⟩
    · simp at ho; subst ho
      refine ob_plain rfl ?_
      intro wx hS hd
      have h17 : vs 17 = _ := hd 17 (by kernel_rfl)
      refine ⟨?_⟩
      simp only [fillN, fillT, putT, dstOf]
      simp only [h17]
      go_simp
      refine gives_value ⟨Keeps.refl _ _, ?_⟩
      rfl
    · simp at ho
  · intro vs w' hS hall
    obtain ⟨k18, q18⟩ := hall 18 (by simp)
    have h19 : vs 19 = _ := hall 19 (by simp)
    simp [fillN, fillT, putT, dstOf, h19]
    have hend := hb02.trans ((⟨hS.os, hS.tape, hS.output, hS.size, hS.block⟩ : Below w2.heap.size w2 w').mono (Nat.le_of_lt hs2))
    go_wp2_with fail
    go_ret2
    exact ownErr_ok h1 (by rw [hA]; exact ownsRow_mono2 k18 (Nat.le_of_lt hs2)) (by rw [hA]; exact hend)
end Go.Proofs.YtkgdogccnkjcgaaDoor
