/-
  WALK of circulation.start: a search is made: rows, and the steps at each vertex. (Filled in from a template of this repo.)
-/
import Derived.Test.YthoehobofdeifaaCirV
import Derived.Test.YthoehobofdeifaaCirD
import Derived.Deep.RegionLaw
namespace Go.Proofs.Ythoehobofdeifaa
open Go.ChangeShapes Go.WideShapes Go.ChangeAt Go.RowKit
set_option linter.unusedVariables false
set_option linter.unusedSimpArgs false

/-- the steps at v, out of the first i arcs -/
def Sa (N : Nw) : Nat → Nat → List Sp
  | 0, _ => []
  | i + 1, v => (if N.fr i = v then Sa N i v ++ [⟨i, true⟩] else Sa N i v) ++ (if N.to i = v then [⟨i, false⟩] else [])
/-- .. and of arc i the step forward -/
def Sh (N : Nw) (i v : Nat) : List Sp := if N.fr i = v then Sa N i v ++ [⟨i, true⟩] else Sa N i v
theorem Sa_mem (N : Nw) (v : Nat) : ∀ (i : Nat) (s : Sp), s ∈ Sa N i v ↔ s.i < i ∧ N.beg s = v := by
  intro i
  induction i with
  | zero => intro s; simp [Sa]
  | succ i ih =>
    intro s
    have h1 : s ∈ Sa N (i + 1) v ↔ (s ∈ Sa N i v ∨ (N.fr i = v ∧ s = ⟨i, true⟩)) ∨ (N.to i = v ∧ s = ⟨i, false⟩) := by
      show s ∈ (if N.fr i = v then Sa N i v ++ [⟨i, true⟩] else Sa N i v) ++ (if N.to i = v then [⟨i, false⟩] else []) ↔ _
      rw [List.mem_append]
      by_cases a : N.fr i = v <;> by_cases b : N.to i = v <;> simp [a, b]
    rw [h1, ih]
    obtain ⟨k, fw⟩ := s
    constructor
    · rintro ((⟨a, b⟩ | ⟨a, b⟩) | ⟨a, b⟩)
      · exact ⟨Nat.lt_succ_of_lt a, b⟩
      · injection b with b1 b2; subst b1 b2; exact ⟨Nat.lt_succ_self _, a⟩
      · injection b with b1 b2; subst b1 b2; exact ⟨Nat.lt_succ_self _, a⟩
    · rintro ⟨a, b⟩
      by_cases e : k = i
      · subst e
        cases fw
        · exact .inr ⟨b, rfl⟩
        · exact .inl (.inr ⟨b, rfl⟩)
      · have a' : k < i + 1 := a
        exact .inl (.inl ⟨show k < i by omega, b⟩)
theorem Sa_len (N : Nw) (v : Nat) : ∀ i, (Sa N i v).length ≤ 2 * i := by
  intro i
  induction i with
  | zero => simp [Sa]
  | succ i ih =>
    show ((if N.fr i = v then Sa N i v ++ [(⟨i, true⟩ : Sp)] else Sa N i v) ++ (if N.to i = v then [(⟨i, false⟩ : Sp)] else [])).length ≤ _
    rw [List.length_append]
    split <;> split <;> simp <;> omega
theorem Sh_len (N : Nw) (v i : Nat) : (Sh N i v).length ≤ 2 * i + 1 := by
  have := Sa_len N v i
  unfold Sh
  split <;> simp <;> omega
theorem Sh_eq (N : Nw) (i v : Nat) : upd (Sa N i) (N.fr i) (Sa N i (N.fr i) ++ [⟨i, true⟩]) v = Sh N i v := by
  unfold Sh
  by_cases e : v = N.fr i
  · subst e; rw [upd_same, if_pos rfl]
  · rw [upd_other _ _ e, if_neg (fun h => e h.symm)]
theorem Sa_eq (N : Nw) (i v : Nat) : upd (Sh N i) (N.to i) (Sh N i (N.to i) ++ [⟨i, false⟩]) v = Sa N (i + 1) v := by
  show _ = Sh N i v ++ (if N.to i = v then [⟨i, false⟩] else [])
  by_cases e : v = N.to i
  · subst e; rw [upd_same, if_pos rfl]
  · rw [upd_other _ _ e, if_neg (fun h => e h.symm)]; simp
/-- block gt holds slices of the call's own -/
structure Ow (N : Nw) (B gt : Nat) (val : Nat → Value) (S : Nat → List Sp) (w : World) : Prop where
  row : VRow w gt 85 N.V val
  own : ∀ v, v < N.V → w.ownsRow B 75 2 (val v) (S v).length (stvs (S v))
  ap : ∀ v v', v < N.V → v' < N.V → v ≠ v' → ∀ k, (val v).ownBlock = some k → (val v').ownBlock ≠ some k
  lt : gt < B
theorem own_below3 {w w' : World} {B e size n : Nat} {v : Value} {xs : List Value} (h : w.ownsRow B e size v n xs) (hb : Below w.heap.size w w') : w'.ownsRow B e size v n xs :=
  h.kept (row := none) ⟨hb.os, hb.tape, hb.output, hb.size, fun k hk _ => hb.block k hk⟩ (by
    cases hq : v.ownBlock with
    | none => exact .inl rfl
    | some g => exact .inr (by simp))
theorem Ow.below {N : Nw} {B gt : Nat} {val : Nat → Value} {S : Nat → List Sp} {w w' : World} (h : Ow N B gt val S w) (hb : Below w.heap.size w w') : Ow N B gt val S w' :=
  ⟨VRow.below h.row hb h.row.lt, fun v hv => own_below3 (h.own v hv) hb, h.ap, h.lt⟩
theorem Ow.congr {N : Nw} {B gt : Nat} {val : Nat → Value} {S T : Nat → List Sp} {w : World} (h : Ow N B gt val S w) (he : ∀ v, v < N.V → S v = T v) : Ow N B gt val T w :=
  ⟨h.row, fun v hv => by rw [← he v hv]; exact h.own v hv, h.ap, h.lt⟩
theorem Ow.app {N : Nw} {B gt : Nat} {val : Nat → Value} {S : Nat → List Sp} {w w1 : World} (h : Ow N B gt val S w) {u : Nat} (hu : u < N.V) (s : Sp) {g cap H : Nat} (hg : w.grownBy w1 (val u).ownBlock)
    (hown : w1.ownsRow B 75 2 (.slice (some ⟨g, 0, none⟩) ((S u).length + 1) cap) ((S u).length + 1) (stvs (S u) ++ stv s)) (hat : (val u).ownBlock = some g ∨ g = H) (hH : w.heap.size ≤ H) :
    Ow N B gt (upd val u (.slice (some ⟨g, 0, none⟩) ((S u).length + 1) cap)) (upd S u (S u ++ [s])) (w1.setCell ⟨gt, u, none⟩ (.slice (some ⟨g, 0, none⟩) ((S u).length + 1) cap)) := by
  have hlt := h.lt
  have hgB : B ≤ g := (hown.lt g rfl).1
  have hrow : VRow w1 gt 85 N.V val := h.row.keep (hg.block gt h.row.lt (fun e => by have := ((h.own u hu).lt gt e.symm).1; omega))
  have hset : w1.grownBy (w1.setCell ⟨gt, u, none⟩ (.slice (some ⟨g, 0, none⟩) ((S u).length + 1) cap)) (some gt) := grownBy_set w1 gt u _
  refine ⟨VRow.set hrow u _ _ (upd_same _ _ _) (fun j _ hj => upd_other _ _ hj), fun v hv => ?_, fun v v' hv hv' hne k hk => ?_, hlt⟩
  · by_cases e : v = u
    · subst e
      rw [upd_same, upd_same, List.length_append, stvs_append]
      exact hown.kept hset (.inr (by show some g ≠ some gt; intro e; injection e with e; omega))
    · rw [upd_other _ _ e, upd_other _ _ e]
      have h1 : w1.ownsRow B 75 2 (val v) (S v).length (stvs (S v)) := (h.own v hv).kept hg (by
        cases hq : (val v).ownBlock with
        | none => exact .inl rfl
        | some k => exact .inr (fun e2 => h.ap v u hv hu e k hq e2.symm))
      exact h1.kept hset (by
        cases hq : (val v).ownBlock with
        | none => exact .inl rfl
        | some k => exact .inr (fun e2 => by injection e2 with e2; have := (h1.lt k hq).1; omega))
  · by_cases e : v = u
    · subst e
      rw [upd_same] at hk
      injection hk with hk
      subst hk
      rw [upd_other _ _ (fun e => hne e.symm)]
      intro hk'
      rcases hat with hat | hat
      · exact h.ap v v' hv hv' hne g hat hk'
      · have := ((h.own v' hv').lt g hk').2; omega
    · rw [upd_other _ _ e] at hk
      by_cases e' : v' = u
      · subst e'
        rw [upd_same]
        intro hk'
        injection hk' with hk'
        subst hk'
        rcases hat with hat | hat
        · exact h.ap v v' hv hv' hne g hk hat
        · have := ((h.own v hv).lt g hk).2; omega
      · rw [upd_other _ _ e']
        exact h.ap v v' hv hv' hne k hk
theorem Ow.rowg {N : Nw} {B gt : Nat} {val : Nat → Value} {S : Nat → List Sp} {w w1 : World} (h : Ow N B gt val S w) {u : Nat} (hu : u < N.V) {o : Obj} (hg : ((w.alloc o).drew).grownBy w1 (val u).ownBlock) :
    w1.cell? ⟨gt, u, none⟩ = some (val u) ∧ w1.frozen? ⟨gt, u, none⟩ = false ∧ gt < w1.heap.size := by
  have hr : VRow w1 gt 85 N.V val := (h.row.alloc o).keep (hg.block gt (h.row.alloc o).lt (fun e => by have := ((h.own u hu).lt gt e.symm).1; have := h.lt; omega))
  exact ⟨hr.cell u hu, hr.frozen u, hr.lt⟩
theorem cell_old {w : World} (ob : Obj) {b o : Nat} {v : Value} (h : w.cell? ⟨b, o, none⟩ = some v) : (w.alloc ob).cell? ⟨b, o, none⟩ = some v :=
  (((Below.refl w.heap.size w).alloc (Nat.le_refl _) ob).cell (p := ⟨b, o, none⟩) (block_lt_of_cell h)).trans h
theorem Kp.grown {X : List Nat} {a b c : World} {row : Option Nat} (h : Kp X a b) (hg : b.grownBy c row) (hr : ∀ k, row = some k → a.heap.size ≤ k) : Kp X a c :=
  ⟨hg.os.trans h.os, hg.tape.trans h.tape, hg.output.trans h.output, Nat.le_trans h.size hg.size, fun i hi hn => (hg.block i (by have := h.size; omega) (fun e => by have := hr i e.symm; omega)).trans (h.block i hi hn)⟩
/-- one append and the store of it, as start does them -/
theorem Ow.step {N : Nw} {B gt : Nat} {val : Nat → Value} {S : Nat → List Sp} {wB w1 wc : World} (h : Ow N B gt val S wB) {u : Nat} (hu : u < N.V) (s : Sp) {o : Obj} {g cap : Nat} (hg : ((wB.alloc o).drew).grownBy w1 (val u).ownBlock)
    (hown : w1.ownsRow B 75 2 (.slice (some ⟨g, 0, none⟩) ((S u).length + 1) cap) ((S u).length + 1) (stvs (S u) ++ stv s)) (hat : (val u).ownBlock = some g ∨ g = wB.heap.size + 1)
    {ga : Nat} (hga : ga < wB.heap.size) (hva : ∀ v, v < N.V → (val v).ownBlock ≠ some ga) (hne : ga ≠ gt) (hk : Kp [gt] wc wB) (hB : wc.heap.size = B) {W2 : World} (hW : W2 = w1.setCell ⟨gt, u, none⟩ (.slice (some ⟨g, 0, none⟩) ((S u).length + 1) cap)) :
    ∃ val2, Ow N B gt val2 (upd S u (S u ++ [s])) W2 ∧ (∀ v, v < N.V → (val2 v).ownBlock ≠ some ga) ∧ Kp [gt] wc W2 ∧ ga < W2.heap.size ∧ ∀ o v, wB.cell? ⟨ga, o, none⟩ = some v → W2.cell? ⟨ga, o, none⟩ = some v := by
  subst hW
  have hs1 : ((wB.alloc o).drew).heap.size = wB.heap.size + 1 := by simp
  have hb : Below wB.heap.size wB (wB.alloc o).drew := ((Below.refl _ _).alloc (Nat.le_refl _) o).drew
  have hs2 := hg.size
  refine ⟨_, (h.below hb).app hu s hg hown hat (by omega), fun v hv => ?_, ?_, ?_, fun o' v hc => ?_⟩
  · by_cases e : v = u
    · subst e
      rw [upd_same]
      intro hk'
      injection hk' with hk'
      have hk2 : g = ga := hk'
      rcases hat with hat | hat
      · rw [hk2] at hat; exact hva v hv hat
      · omega
    · rw [upd_other _ _ e]; exact hva v hv
  · refine ((((hk.alloc o).drew).grown hg (fun k hk' => ?_))).setCell _ _ (.inl (by simp))
    have := ((h.own u hu).lt k hk').1
    omega
  · have : (w1.setCell ⟨gt, u, none⟩ (.slice (some ⟨g, 0, none⟩) ((S u).length + 1) cap)).heap.size = w1.heap.size := by simp [World.setCell]
    omega
  · have h1 : w1.cell? ⟨ga, o', none⟩ = some v := (hg.cell_far ⟨ga, o', none⟩ (by show ga < _; omega) (fun e => hva u hu e.symm)).trans (cell_old o hc)
    exact (World.cell?_of_block (a := ⟨ga, o', none⟩) (heap_setCell_other _ _ _ _ hne)).trans h1
theorem Try.infoSteps : (Try.prog.info? 85).map (fun i => (i.zero, i.size, i.bytes)) = some (some (.slice none 0 0), 1, 24) := by kernel_rfl
theorem make_rows (n : Nat) (hn : n ≤ 1000000) (w : World) : (Instr.makeSlice 68 (.int .i64 (n : Int)) (.int .i64 (n : Int))).run Try.prog w = .ok (.slice (some ⟨w.heap.size, 0, none⟩) n n) (w.alloc (.cells (vrow n fun _ => .slice none 0 0) 85)) := by
  have := make_any (P := Try.prog) 68 85 (.slice none 0 0) 1 24 (fun _ => .slice none 0 0) Try.underlying68 Try.infoSteps (by omega) (by omega) rfl (fun j => by rw [Nat.mod_one]; rfl) n hn w
  rwa [Nat.mul_one] at this
/-- a network as an argument, or in a variable -/
abbrev Nw.val (N : Nw) (a : Option Addr) (ca : Nat) : Value := .agg #[.int .i64 (N.V : Int), .slice a N.m ca]
theorem blk_new (w : World) (o : Obj) {b : Nat} (hb : b = w.heap.size) : (w.alloc o).heap[b]? = some o := by subst hb; exact heap_alloc_new w o
theorem cell_new (w : World) (cs : Array Value) (t : TypeId) {b o : Nat} {v : Value} (hb : b = w.heap.size) (hv : cs[o]? = some v) : (w.alloc (.cells cs t)).cell? ⟨b, o, none⟩ = some v := by
  subst hb; rw [cell_of_row _ _ o _ _ _ (heap_alloc_new w _)]; exact hv
theorem cells_ne {w : World} {b b' : Nat} {c c' : Array Value} {t t' : TypeId} {fr fr' : Nat × Nat} (h : w.heap[b]? = some (.cells c t fr)) (h' : w.heap[b']? = some (.cells c' t' fr')) (hne : t ≠ t') : b ≠ b' := by
  rintro rfl
  rw [h] at h'
  injection h' with h'
  injection h' with _ ht
  exact hne ht
/-- what a new search is -/
structure New0 (N : Nw) (a : Option Addr) (ca : Nat) (w0 : World) (g gf gt gp gc : Nat) (w : World) : Prop where
  blk : w.heap[g]? = some (.cells #[.int .i64 (N.V : Int), .slice a N.m ca, .slice (some ⟨gf, 0, none⟩) N.m N.m, .slice (some ⟨gt, 0, none⟩) N.V N.V, .slice (some ⟨gp, 0, none⟩) N.V N.V, .slice (some ⟨gc, 0, none⟩) N.m N.m] 71 (0, 0))
  f : IRow w gf N.m (fun _ => 0)
  p : IRow w gp N.V (fun _ => 0)
  c : BRow w gc N.m (fun _ => false)
  ne : gf ≠ gp
  n : w0.heap.size ≤ gf ∧ w0.heap.size ≤ gt ∧ w0.heap.size ≤ gp ∧ w0.heap.size ≤ gc ∧ w0.heap.size ≤ g
  below : Below w0.heap.size w0 w
/-- what start leaves -/
def StartPost (N : Nw) (a : Option Addr) (ca : Nat) (w : World) (e : Ending) (w' : World) : Prop := ∃ (g : Nat) (K : Lay), e = .returned (.pointer (some ⟨g, 0, none⟩)) ∧ Srch w' g N K ∧
  IRow w' K.gf N.m (fun _ => 0) ∧ IRow w' K.gp N.V (fun _ => 0) ∧ BRow w' K.gc N.m (fun _ => false) ∧ (w.heap.size ≤ K.gf ∧ w.heap.size ≤ K.gp ∧ w.heap.size ≤ K.gc) ∧ Below w.heap.size w w'
set_option maxRecDepth 100000 in
set_option maxHeartbeats 8000000 in
theorem start_any (N : Nw) (hv : N.valid) (a : Option Addr) (ca : Nat) (w : World) (h : Arcs w a N) :
    Calls Try.prog 36 #[N.val a ca] w (StartPost N a ca w) := by
  have hV2 := hv.V2
  have hm2 := hv.m2
  have mk1 := make_ints N.V (by omega)
  have mk2 := make_ints N.m (by omega)
  have mk3 := make_bools N.m (by omega)
  have mk4 := make_rows N.V (by omega)
  have HA := Lib.hid h
  have HV := Lib.hid hv
  obtain ⟨i0, hi0, hz0, hz1, hz2⟩ := info_parts Try.infoStep
  have HI := Lib.hid hi0
  have HZ0 := Lib.hid hz0
  have HZ1 := Lib.hid hz1
  have HZ2 := Lib.hid hz2
  clear h hv hi0 hz0 hz1 hz2
  go_enter Try.func36, Try.ntmps36
  go_wp2
  go_cut [3] from 6 to 22 (fun v3 wx => ∃ g gf gt gp gc : Nat, v3 = .pointer (some ⟨g, 0, none⟩) ∧ New0 N a ca w g gf gt gp gc wx ∧ VRow wx gt 85 N.V (fun _ => .slice none 0 0) ∧ wx.cell? ⟨w.heap.size, 1, none⟩ = some (.slice a N.m ca))
  case first =>
    go_region
    all_goals
      go_wp2
      go_meet
      refine ⟨_, _, _, _, _, rfl, ⟨blk_new _ _ (by simp), ?_, ?_, ?_, by omega, by omega, ?_⟩, ?_, ?_⟩
      any_goals first
        | exact (VRow.new _ _ _ _ (by simp)).alloc _
        | exact ((VRow.new _ _ _ _ (by simp)).alloc _).alloc _
        | exact (((VRow.new _ _ _ _ (by simp)).alloc _).alloc _).alloc _
        | exact ((((VRow.new _ _ _ _ (by simp)).alloc _).alloc _).alloc _).alloc _
      · exact ((((((Below.refl _ _).alloc (Nat.le_refl _) _).alloc (by simp) _).alloc (by simp; omega) _).alloc (by simp; omega) _).alloc (by simp; omega) _).alloc (by simp; omega) _ |>.drew
      · exact cell_old _ (cell_old _ (cell_old _ (cell_old _ (cell_old _ (cell_new _ _ _ rfl rfl)))))
  case rest =>
    obtain ⟨gg, gf, gt, gp, gc, rfl, hN, hrow, hc1⟩ := hcut
    have hgn := hN.n
    have HN := Lib.hid hN
    have HROW := Lib.hid hrow
    clear hN hrow mk1 mk2 mk3 mk4
    go_wp2
    obtain ⟨B, hB⟩ : ∃ B, wc.heap.size = B := ⟨_, rfl⟩
    have HB := Lib.hid hB
    have hblk := (Array.getElem?_eq_some_iff.1 HN.out.blk).1
    have hrl := HROW.out.lt
    rw [hB] at hblk hrl
    have h0B : w.heap.size ≤ B := by have := HN.out.below.size; omega
    clear hB
    have HOW0 : Hid (Ow N B gt (fun _ => .slice none 0 0) (Sa N 0) wc) := Lib.hid ⟨HROW.out, fun v hv => World.ownsRow_nil _ _ _ _, fun v v' _ _ _ k hk => (by cases hk), hrl⟩
    have HGG : Hid (gg ≠ gt) := Lib.hid (fun e => by
      have h1 := HN.out.blk
      rw [e] at h1
      have h2 := HROW.out
      unfold VRow at h2
      rw [h1] at h2
      injection h2 with h2
      injection h2 with _ h2
      exact absurd h2 (by decide))
    have HC1 := Lib.hid hc1
    clear hc1
    go_loopw [26] (fun v26 wr => ∃ (i : Nat) (val : Nat → Value), i ≤ N.m ∧ v26 = .int .i64 i ∧ Hid (Ow N B gt val (Sa N i) wr) ∧ Hid (Kp [gt] wc wr)) (fun v _ => N.m - (intOf v).toNat)
    case atStart => exact ⟨0, _, by omega, rfl, HOW0, Lib.hid (Kp.refl _ _)⟩
    case round =>
      obtain ⟨i, val, hi, rfl, HOW, HKP⟩ := hrel
      by_cases hlt : i < N.m
      · have hA := (HA.out.below HN.out.below).kp HKP.out (fun _ x hx e => by
          have h1 : x.block < w.heap.size := by
            obtain ⟨b, off, e1, hb, _⟩ := HA.out i hlt
            rw [hx] at e1; injection e1 with e1; rw [e1]; exact hb
          simp at e; omega)
        obtain ⟨b, off, rfl, hb, k0, k1, k2, k3, k4⟩ := hA i hlt
        obtain ⟨hfV, htV⟩ := HV.out.ok i hlt
        have hlenF := Sa_len N (N.fr i) i
        have hlenT := Sh_len N (N.to i) i
        clear hA
        have hsz : B ≤ wr.heap.size := by have := HKP.out.size; have := HB.out; omega
        go_upto_region 5 with fail
        have hOWB := HOW.out.below ((Below.refl _ _).alloc (Nat.le_refl _) (.cells #[.int .i64 (N.fr i : Int), .int .i64 (N.to i : Int), .int .i64 (N.lo i), .int .i64 (N.up i), .int .i64 (N.c i)] 46))
        have hKPB := HKP.out.alloc (.cells #[.int .i64 (N.fr i : Int), .int .i64 (N.to i : Int), .int .i64 (N.lo i), .int .i64 (N.up i), .int .i64 (N.c i)] 46)
        have a0 : (wr.alloc (.cells #[.int .i64 (N.fr i : Int), .int .i64 (N.to i : Int), .int .i64 (N.lo i), .int .i64 (N.up i), .int .i64 (N.c i)] 46)).cell? ⟨wr.heap.size, 0, none⟩ = some (.int .i64 (N.fr i : Int)) := cell_new _ _ _ rfl rfl
        have a1 : (wr.alloc (.cells #[.int .i64 (N.fr i : Int), .int .i64 (N.to i : Int), .int .i64 (N.lo i), .int .i64 (N.up i), .int .i64 (N.c i)] 46)).cell? ⟨wr.heap.size, 1, none⟩ = some (.int .i64 (N.to i : Int)) := cell_new _ _ _ rfl rfl
        have hga : wr.heap.size < (wr.alloc (.cells #[.int .i64 (N.fr i : Int), .int .i64 (N.to i : Int), .int .i64 (N.lo i), .int .i64 (N.up i), .int .i64 (N.c i)] 46)).heap.size := by simp
        generalize (wr.alloc (.cells #[.int .i64 (N.fr i : Int), .int .i64 (N.to i : Int), .int .i64 (N.lo i), .int .i64 (N.up i), .int .i64 (N.c i)] 46)) = wB at *
        clear k0 k1 k2 k3 k4
        have hga2 : B ≤ wr.heap.size := hsz
        have hval : ∀ v, v < N.V → (val v).ownBlock ≠ some wr.heap.size := fun v hv e => by have := ((HOW.out.own v hv).lt _ e).2; omega
        have HVAL := Lib.hid hval
        clear HOW HKP hb hval
        obtain ⟨ga, hgae⟩ : ∃ ga, wr.heap.size = ga := ⟨_, rfl⟩
        rw [hgae] at a0 a1 hga hga2 HVAL ⊢
        clear hgae hsz
        clear wr
        have c2 : wB.cell? ⟨gg, 3, none⟩ = some (.slice (some ⟨gt, 0, none⟩) N.V N.V) := hKPB.cell (cell_of_row _ _ 3 _ _ _ HN.out.blk) (by have := HGG.out; simp; omega)
        have r0 := hOWB.row.cell (N.fr i) hfV
        have z0 := hOWB.row.frozen (N.fr i)
        have hgt := hOWB.row.lt
        have hggl := block_lt_of_cell c2
        have HOWB := Lib.hid hOWB
        have HKPB := Lib.hid hKPB
        clear hOWB hKPB
        have HOWN := Lib.hid (HOWB.out.own (N.fr i) hfV)
        have hmx : (Sa N i (N.fr i)).length + 1 ≤ 100000 := by omega
        have hsB : B ≤ wB.heap.size := by omega
        have n1 := HGG.out
        have n2 : ga ≠ gt := by omega
        have n3 : gt ≠ gg := n1.symm
        have n4 : gt ≠ ga := n2.symm
        have HFAR : Hid (∀ w1, ((wB.alloc (.cells #[.int .i64 (i : Int), .bool false] 75)).drew).grownBy w1 (val (N.fr i)).ownBlock → w1.cell? ⟨gg, 3, none⟩ = some (.slice (some ⟨gt, 0, none⟩) N.V N.V) ∧ w1.cell? ⟨ga, 0, none⟩ = some (.int .i64 (N.fr i : Int))) := Lib.hid (fun w1 hg =>
          ⟨(hg.cell_far ⟨gg, 3, none⟩ (by simp; omega) (fun e => by have := ((HOWB.out.own _ hfV).lt gg e.symm).1; omega)).trans (cell_old _ c2), (hg.cell_far ⟨ga, 0, none⟩ (by simp; omega) (fun e => HVAL.out _ hfV e.symm)).trans (cell_old _ a0)⟩)
        refine wp_region_held_drew (S := (fun w' => w'.cell? ⟨gg, 3, none⟩ = some (.slice (some ⟨gt, 0, none⟩) N.V N.V) ∧ w'.cell? ⟨ga, 0, none⟩ = some (.int .i64 (N.fr i : Int)))) (by kernel_rfl) (by go_keep) (fun hHeld => ?_)
        refine wpAnyH_take (i := 0) (v := ?_) rfl (by kernel_rfl) (by kernel_rfl) (by kernel_rfl) (fun _ _ _ h => h) (Or.inl ⟨by rfl, ?_⟩) (by assumption) ?_
        rotate_left
        · (intro w hSw; (try dsimp only at hSw); go_simp; try with_reducible rfl)
        (try simp only [Act.put, List.setIfInBounds_toArray, List.set_cons_zero, List.set_cons_succ])
        refine wpAnyH_take (i := 1) (v := ?_) rfl (by kernel_rfl) (by kernel_rfl) (by kernel_rfl) (fun _ _ _ h => h) (Or.inl ⟨by rfl, ?_⟩) (by assumption) ?_
        rotate_left
        · (intro w hSw; (try dsimp only at hSw); go_simp; try with_reducible rfl)
        (try simp only [Act.put, List.setIfInBounds_toArray, List.set_cons_zero, List.set_cons_succ])
        refine wpAnyH_take (i := 2) (v := ?_) rfl (by kernel_rfl) (by kernel_rfl) (by kernel_rfl) (fun _ _ _ h => h) (Or.inl ⟨by rfl, ?_⟩) (by assumption) ?_
        rotate_left
        · (intro w hSw; (try dsimp only at hSw); go_simp; try with_reducible rfl)
        (try simp only [Act.put, List.setIfInBounds_toArray, List.set_cons_zero, List.set_cons_succ])
        refine wpAnyH_take (i := 3) (v := ?_) rfl (by kernel_rfl) (by kernel_rfl) (by kernel_rfl) (fun _ _ _ h => h) (Or.inl ⟨by rfl, ?_⟩) (by assumption) ?_
        rotate_left
        · (intro w hSw; (try dsimp only at hSw); go_simp; try with_reducible rfl)
        (try simp only [Act.put, List.setIfInBounds_toArray, List.set_cons_zero, List.set_cons_succ])
        refine wpAnyH_take (i := 4) (v := ?_) rfl (by kernel_rfl) (by kernel_rfl) (by kernel_rfl) (fun _ _ _ h => h) (Or.inl ⟨by rfl, ?_⟩) (by assumption) ?_
        rotate_left
        · (intro w hSw; (try dsimp only at hSw); go_simp; try with_reducible rfl)
        (try simp only [Act.put, List.setIfInBounds_toArray, List.set_cons_zero, List.set_cons_succ])
        refine wpAnyH_take (i := 5) (v := ?_) rfl (by kernel_rfl) (by kernel_rfl) (by kernel_rfl) (fun _ _ _ h => h) (Or.inl ⟨by rfl, ?_⟩) (by assumption) ?_
        rotate_left
        · (intro w hSw; (try dsimp only at hSw); go_simp; try with_reducible rfl)
        (try simp only [Act.put, List.setIfInBounds_toArray, List.set_cons_zero, List.set_cons_succ])
        refine wpAnyH_take (i := 6) (v := ?_) rfl (by kernel_rfl) (by kernel_rfl) (by kernel_rfl) (fun _ _ _ h => h) (Or.inl ⟨by rfl, ?_⟩) (by assumption) ?_
        rotate_left
        · (intro w hSw; (try dsimp only at hSw); go_simp; try with_reducible rfl)
        (try simp only [Act.put, List.setIfInBounds_toArray, List.set_cons_zero, List.set_cons_succ])
        refine wpAnyH_take (i := 7) (v := ?_) rfl (by kernel_rfl) (by kernel_rfl) (by kernel_rfl) (fun _ _ _ h => h) (Or.inl ⟨by rfl, ?_⟩) (by assumption) ?_
        rotate_left
        · (intro w hSw; (try dsimp only at hSw); go_simp; try with_reducible rfl)
        (try simp only [Act.put, List.setIfInBounds_toArray, List.set_cons_zero, List.set_cons_succ])
        refine wpAnyH_take (i := 8) (v := ?_) rfl (by kernel_rfl) (by kernel_rfl) (by kernel_rfl) (fun _ _ _ h => h) (Or.inl ⟨by rfl, ?_⟩) (by assumption) ?_
        rotate_left
        · (intro w hSw; (try dsimp only at hSw); go_simp; try with_reducible rfl)
        (try simp only [Act.put, List.setIfInBounds_toArray, List.set_cons_zero, List.set_cons_succ])
        refine wpAnyH_take (i := 9) (v := ?_) rfl (by kernel_rfl) (by kernel_rfl) (by kernel_rfl) (fun _ _ _ h => h) (Or.inl ⟨by rfl, ?_⟩) (by assumption) ?_
        rotate_left
        · (intro w hSw; (try dsimp only at hSw); go_simp; try with_reducible rfl)
        (try simp only [Act.put, List.setIfInBounds_toArray, List.set_cons_zero, List.set_cons_succ])
        refine wpAnyH_take (i := 10) (v := ?_) rfl (by kernel_rfl) (by kernel_rfl) (by kernel_rfl) (fun _ _ _ h => h) (Or.inl ⟨by rfl, ?_⟩) (by assumption) ?_
        rotate_left
        · (intro w hSw; (try dsimp only at hSw); go_simp; try with_reducible rfl)
        (try simp only [Act.put, List.setIfInBounds_toArray, List.set_cons_zero, List.set_cons_succ])
        refine wpAnyH_take (i := 11) (v := ?_) rfl (by kernel_rfl) (by kernel_rfl) (by kernel_rfl) (fun _ _ _ h => h) (Or.inl ⟨by rfl, ?_⟩) (by assumption) ?_
        rotate_left
        · (intro w hSw; (try dsimp only at hSw); go_simp; try with_reducible rfl)
        (try simp only [Act.put, List.setIfInBounds_toArray, List.set_cons_zero, List.set_cons_succ])
        refine wpAnyH_take (i := 12) (v := ?_) rfl (by kernel_rfl) (by kernel_rfl) (by kernel_rfl) (fun _ _ _ h => h) (Or.inl ⟨by rfl, ?_⟩) (by assumption) ?_
        rotate_left
        · (intro w hSw; (try dsimp only at hSw); go_simp; try with_reducible rfl)
        (try simp only [Act.put, List.setIfInBounds_toArray, List.set_cons_zero, List.set_cons_succ])
        refine wpAnyH_take (i := 14) (v := ?_) rfl (by kernel_rfl) (by kernel_rfl) (by kernel_rfl) (fun _ _ _ h => h) (Or.inl ⟨by rfl, ?_⟩) (by assumption) ?_
        rotate_left
        · (intro w hSw; (try dsimp only at hSw); go_simp; try with_reducible rfl)
        (try simp only [Act.put, List.setIfInBounds_toArray, List.set_cons_zero, List.set_cons_succ])
        refine wpAnyH_take (i := 15) (v := ?_) rfl (by kernel_rfl) (by kernel_rfl) (by kernel_rfl) (fun _ _ _ h => h) (Or.inl ⟨by rfl, ?_⟩) (by assumption) ?_
        rotate_left
        · (intro w hSw; (try dsimp only at hSw); go_simp; try with_reducible rfl)
        (try simp only [Act.put, List.setIfInBounds_toArray, List.set_cons_zero, List.set_cons_succ])
        refine wpAnyH_ready (rs := [13, 16]) (by kernel_rfl) (by simp) ?_
        refine AllReadyH.cons rfl (fun K hK => ?_) (AllReadyH.cons rfl (fun K hK => ?_) AllReadyH.nil)
        · go_simp
          refine hK.out _ _ ?_ (fun hHeld => ?_)
          · (try dsimp only); first | assumption | go_keep
          clear hK K
          (try simp only [Act.put, List.setIfInBounds_toArray, List.set_cons_zero, List.set_cons_succ])
          refine wpAnyH_ready (rs := [16]) (by kernel_rfl) (by simp) ?_
          refine AllReadyH.cons rfl (fun K hK => ?_) AllReadyH.nil
          go_simp
          refine hK.out _ _ ?_ (fun hHeld => ?_)
          · (try dsimp only); first | assumption | go_keep
          clear hK K
          (try simp only [Act.put, List.setIfInBounds_toArray, List.set_cons_zero, List.set_cons_succ])
          refine wpAnyH_ready (rs := [17]) (by kernel_rfl) (by simp) ?_
          refine AllReadyH.cons rfl (fun K hK => ?_) AllReadyH.nil
          (refine step_append_lies _ (by rfl) _ _ _ (by rfl) B 75 i0 _ 2 16 Try.underlying85 HI.out HZ0.out HZ1.out HZ2.out rfl (by omega) _ _ _ (by rfl) ((HOWN.out.alloc _).drew) ⟨wB.heap.size, 0, none⟩ 1 1 (stv ⟨i, true⟩) (by rfl) (by rfl) (World.news_of_block (cs := #[.int .i64 (i : Int), .bool false]) (t := 75) (fr := (0, 0)) (heap_alloc_new wB _)) (by simp [Value.oneCell']) (by omega) (by unfold maxLen; omega) (by omega) (by simp; omega) (wB.heap.size + 1) (by simp) ?_; intro g1 cg w1 hown1 hgrow hat hlt1; obtain ⟨r1, r2, r3⟩ := HOWB.out.rowg hfV hgrow; have hsw1 := HFAR.out _ hgrow)
          refine hK.out _ _ ?_ (fun hHeld => ?_)
          · (try dsimp only); assumption
          clear hK K
          (try simp only [Act.put, List.setIfInBounds_toArray, List.set_cons_zero, List.set_cons_succ])
          refine wpAnyH_take (i := 18) (v := ?_) rfl (by kernel_rfl) (by kernel_rfl) (by kernel_rfl) (fun _ _ _ h => h) (Or.inl ⟨by rfl, ?_⟩) (by assumption) ?_
          rotate_left
          · (intro w hSw; (try dsimp only at hSw); go_simp; try with_reducible rfl)
          (try simp only [Act.put, List.setIfInBounds_toArray, List.set_cons_zero, List.set_cons_succ])
          refine wpAnyH_ready (rs := [19]) (by kernel_rfl) (by simp) ?_
          refine AllReadyH.cons rfl (fun K hK => ?_) AllReadyH.nil
          go_simp
          refine hK.out _ _ ?_ (fun hHeld => ?_)
          · (try dsimp only); go_keep
          clear hK K
          (try simp only [Act.put, List.setIfInBounds_toArray, List.set_cons_zero, List.set_cons_succ])
          refine wpAnyH_done (by kernel_rfl) ?_ _
          clear c2 r0 z0 hgt hggl a0 HFAR HOWN
          obtain ⟨val2, hOW2, hv2, hKP2, hga2w, hca⟩ := HOWB.out.step hfV ⟨i, true⟩ hgrow hown1 hat hga HVAL.out n2 HKPB.out HB.out rfl
          replace a1 := hca 1 _ a1
          clear hca hsw1 hown1 hat r1 r2 r3 hlt1 hgrow hHeld
          generalize (w1.setCell ⟨gt, N.fr i, none⟩ (.slice (some ⟨g1, 0, none⟩) ((Sa N i (N.fr i)).length + 1) cg)) = w2 at *
          replace hOW2 := hOW2.congr (fun v _ => Sh_eq N i v)
          have c2 : w2.cell? ⟨gg, 3, none⟩ = some (.slice (some ⟨gt, 0, none⟩) N.V N.V) := hKP2.cell (cell_of_row _ _ 3 _ _ _ HN.out.blk) (by have := HGG.out; simp; omega)
          have r0 := hOW2.row.cell (N.to i) htV
          have z0 := hOW2.row.frozen (N.to i)
          have hgt := hOW2.row.lt
          have hggl := block_lt_of_cell c2
          have HOW2 := Lib.hid hOW2
          have HKP2 := Lib.hid hKP2
          have HVAL2 := Lib.hid hv2
          clear hOW2 hKP2 hv2
          have HOWN2 := Lib.hid (HOW2.out.own (N.to i) htV)
          have hsB2 : B ≤ w2.heap.size := by have := HKP2.out.size; have := HB.out; omega
          have HFAR2 : Hid (∀ w1, ((w2.alloc (.cells #[.int .i64 (i : Int), .bool true] 75)).drew).grownBy w1 (val2 (N.to i)).ownBlock → w1.cell? ⟨gg, 3, none⟩ = some (.slice (some ⟨gt, 0, none⟩) N.V N.V) ∧ w1.cell? ⟨ga, 1, none⟩ = some (.int .i64 (N.to i : Int))) := Lib.hid (fun w1 hg =>
            ⟨(hg.cell_far ⟨gg, 3, none⟩ (by simp; omega) (fun e => by have := ((HOW2.out.own _ htV).lt gg e.symm).1; omega)).trans (cell_old _ c2), (hg.cell_far ⟨ga, 1, none⟩ (by simp; omega) (fun e => HVAL2.out _ htV e.symm)).trans (cell_old _ a1)⟩)
          go_upto_region 6 with fail
          refine wp_region_held_drew (S := (fun w' => w'.cell? ⟨gg, 3, none⟩ = some (.slice (some ⟨gt, 0, none⟩) N.V N.V) ∧ w'.cell? ⟨ga, 1, none⟩ = some (.int .i64 (N.to i : Int)))) (by kernel_rfl) (by go_keep) (fun hHeld => ?_)
          refine wpAnyH_take (i := 0) (v := ?_) rfl (by kernel_rfl) (by kernel_rfl) (by kernel_rfl) (fun _ _ _ h => h) (Or.inl ⟨by rfl, ?_⟩) (by assumption) ?_
          rotate_left
          · (intro w hSw; (try dsimp only at hSw); go_simp; try with_reducible rfl)
          (try simp only [Act.put, List.setIfInBounds_toArray, List.set_cons_zero, List.set_cons_succ])
          refine wpAnyH_take (i := 1) (v := ?_) rfl (by kernel_rfl) (by kernel_rfl) (by kernel_rfl) (fun _ _ _ h => h) (Or.inl ⟨by rfl, ?_⟩) (by assumption) ?_
          rotate_left
          · (intro w hSw; (try dsimp only at hSw); go_simp; try with_reducible rfl)
          (try simp only [Act.put, List.setIfInBounds_toArray, List.set_cons_zero, List.set_cons_succ])
          refine wpAnyH_take (i := 2) (v := ?_) rfl (by kernel_rfl) (by kernel_rfl) (by kernel_rfl) (fun _ _ _ h => h) (Or.inl ⟨by rfl, ?_⟩) (by assumption) ?_
          rotate_left
          · (intro w hSw; (try dsimp only at hSw); go_simp; try with_reducible rfl)
          (try simp only [Act.put, List.setIfInBounds_toArray, List.set_cons_zero, List.set_cons_succ])
          refine wpAnyH_take (i := 3) (v := ?_) rfl (by kernel_rfl) (by kernel_rfl) (by kernel_rfl) (fun _ _ _ h => h) (Or.inl ⟨by rfl, ?_⟩) (by assumption) ?_
          rotate_left
          · (intro w hSw; (try dsimp only at hSw); go_simp; try with_reducible rfl)
          (try simp only [Act.put, List.setIfInBounds_toArray, List.set_cons_zero, List.set_cons_succ])
          refine wpAnyH_take (i := 4) (v := ?_) rfl (by kernel_rfl) (by kernel_rfl) (by kernel_rfl) (fun _ _ _ h => h) (Or.inl ⟨by rfl, ?_⟩) (by assumption) ?_
          rotate_left
          · (intro w hSw; (try dsimp only at hSw); go_simp; try with_reducible rfl)
          (try simp only [Act.put, List.setIfInBounds_toArray, List.set_cons_zero, List.set_cons_succ])
          refine wpAnyH_take (i := 5) (v := ?_) rfl (by kernel_rfl) (by kernel_rfl) (by kernel_rfl) (fun _ _ _ h => h) (Or.inl ⟨by rfl, ?_⟩) (by assumption) ?_
          rotate_left
          · (intro w hSw; (try dsimp only at hSw); go_simp; try with_reducible rfl)
          (try simp only [Act.put, List.setIfInBounds_toArray, List.set_cons_zero, List.set_cons_succ])
          refine wpAnyH_take (i := 6) (v := ?_) rfl (by kernel_rfl) (by kernel_rfl) (by kernel_rfl) (fun _ _ _ h => h) (Or.inl ⟨by rfl, ?_⟩) (by assumption) ?_
          rotate_left
          · (intro w hSw; (try dsimp only at hSw); go_simp; try with_reducible rfl)
          (try simp only [Act.put, List.setIfInBounds_toArray, List.set_cons_zero, List.set_cons_succ])
          refine wpAnyH_take (i := 7) (v := ?_) rfl (by kernel_rfl) (by kernel_rfl) (by kernel_rfl) (fun _ _ _ h => h) (Or.inl ⟨by rfl, ?_⟩) (by assumption) ?_
          rotate_left
          · (intro w hSw; (try dsimp only at hSw); go_simp; try with_reducible rfl)
          (try simp only [Act.put, List.setIfInBounds_toArray, List.set_cons_zero, List.set_cons_succ])
          refine wpAnyH_take (i := 8) (v := ?_) rfl (by kernel_rfl) (by kernel_rfl) (by kernel_rfl) (fun _ _ _ h => h) (Or.inl ⟨by rfl, ?_⟩) (by assumption) ?_
          rotate_left
          · (intro w hSw; (try dsimp only at hSw); go_simp; try with_reducible rfl)
          (try simp only [Act.put, List.setIfInBounds_toArray, List.set_cons_zero, List.set_cons_succ])
          refine wpAnyH_take (i := 9) (v := ?_) rfl (by kernel_rfl) (by kernel_rfl) (by kernel_rfl) (fun _ _ _ h => h) (Or.inl ⟨by rfl, ?_⟩) (by assumption) ?_
          rotate_left
          · (intro w hSw; (try dsimp only at hSw); go_simp; try with_reducible rfl)
          (try simp only [Act.put, List.setIfInBounds_toArray, List.set_cons_zero, List.set_cons_succ])
          refine wpAnyH_take (i := 10) (v := ?_) rfl (by kernel_rfl) (by kernel_rfl) (by kernel_rfl) (fun _ _ _ h => h) (Or.inl ⟨by rfl, ?_⟩) (by assumption) ?_
          rotate_left
          · (intro w hSw; (try dsimp only at hSw); go_simp; try with_reducible rfl)
          (try simp only [Act.put, List.setIfInBounds_toArray, List.set_cons_zero, List.set_cons_succ])
          refine wpAnyH_take (i := 11) (v := ?_) rfl (by kernel_rfl) (by kernel_rfl) (by kernel_rfl) (fun _ _ _ h => h) (Or.inl ⟨by rfl, ?_⟩) (by assumption) ?_
          rotate_left
          · (intro w hSw; (try dsimp only at hSw); go_simp; try with_reducible rfl)
          (try simp only [Act.put, List.setIfInBounds_toArray, List.set_cons_zero, List.set_cons_succ])
          refine wpAnyH_take (i := 12) (v := ?_) rfl (by kernel_rfl) (by kernel_rfl) (by kernel_rfl) (fun _ _ _ h => h) (Or.inl ⟨by rfl, ?_⟩) (by assumption) ?_
          rotate_left
          · (intro w hSw; (try dsimp only at hSw); go_simp; try with_reducible rfl)
          (try simp only [Act.put, List.setIfInBounds_toArray, List.set_cons_zero, List.set_cons_succ])
          refine wpAnyH_take (i := 14) (v := ?_) rfl (by kernel_rfl) (by kernel_rfl) (by kernel_rfl) (fun _ _ _ h => h) (Or.inl ⟨by rfl, ?_⟩) (by assumption) ?_
          rotate_left
          · (intro w hSw; (try dsimp only at hSw); go_simp; try with_reducible rfl)
          (try simp only [Act.put, List.setIfInBounds_toArray, List.set_cons_zero, List.set_cons_succ])
          refine wpAnyH_take (i := 15) (v := ?_) rfl (by kernel_rfl) (by kernel_rfl) (by kernel_rfl) (fun _ _ _ h => h) (Or.inl ⟨by rfl, ?_⟩) (by assumption) ?_
          rotate_left
          · (intro w hSw; (try dsimp only at hSw); go_simp; try with_reducible rfl)
          (try simp only [Act.put, List.setIfInBounds_toArray, List.set_cons_zero, List.set_cons_succ])
          refine wpAnyH_ready (rs := [13, 16]) (by kernel_rfl) (by simp) ?_
          refine AllReadyH.cons rfl (fun K hK => ?_) (AllReadyH.cons rfl (fun K hK => ?_) AllReadyH.nil)
          · go_simp
            refine hK.out _ _ ?_ (fun hHeld => ?_)
            · (try dsimp only); first | assumption | go_keep
            clear hK K
            (try simp only [Act.put, List.setIfInBounds_toArray, List.set_cons_zero, List.set_cons_succ])
            refine wpAnyH_ready (rs := [16]) (by kernel_rfl) (by simp) ?_
            refine AllReadyH.cons rfl (fun K hK => ?_) AllReadyH.nil
            go_simp
            refine hK.out _ _ ?_ (fun hHeld => ?_)
            · (try dsimp only); first | assumption | go_keep
            clear hK K
            (try simp only [Act.put, List.setIfInBounds_toArray, List.set_cons_zero, List.set_cons_succ])
            refine wpAnyH_ready (rs := [17]) (by kernel_rfl) (by simp) ?_
            refine AllReadyH.cons rfl (fun K hK => ?_) AllReadyH.nil
            (refine step_append_lies _ (by rfl) _ _ _ (by rfl) B 75 i0 _ 2 16 Try.underlying85 HI.out HZ0.out HZ1.out HZ2.out rfl (by omega) _ _ _ (by rfl) ((HOWN2.out.alloc _).drew) ⟨w2.heap.size, 0, none⟩ 1 1 (stv ⟨i, false⟩) (by rfl) (by rfl) (World.news_of_block (cs := #[.int .i64 (i : Int), .bool true]) (t := 75) (fr := (0, 0)) (heap_alloc_new w2 _)) (by simp [Value.oneCell']) (by omega) (by unfold maxLen; omega) (by omega) (by simp; omega) (w2.heap.size + 1) (by simp) ?_; intro g2 cg2 w3 hown2 hgrow hat2 hlt2; obtain ⟨r1, r2, r3⟩ := HOW2.out.rowg htV hgrow; have hsw1 := HFAR2.out _ hgrow)
            refine hK.out _ _ ?_ (fun hHeld => ?_)
            · (try dsimp only); assumption
            clear hK K
            (try simp only [Act.put, List.setIfInBounds_toArray, List.set_cons_zero, List.set_cons_succ])
            refine wpAnyH_take (i := 18) (v := ?_) rfl (by kernel_rfl) (by kernel_rfl) (by kernel_rfl) (fun _ _ _ h => h) (Or.inl ⟨by rfl, ?_⟩) (by assumption) ?_
            rotate_left
            · (intro w hSw; (try dsimp only at hSw); go_simp; try with_reducible rfl)
            (try simp only [Act.put, List.setIfInBounds_toArray, List.set_cons_zero, List.set_cons_succ])
            refine wpAnyH_ready (rs := [19]) (by kernel_rfl) (by simp) ?_
            refine AllReadyH.cons rfl (fun K hK => ?_) AllReadyH.nil
            go_simp
            refine hK.out _ _ ?_ (fun hHeld => ?_)
            · (try dsimp only); go_keep
            clear hK K
            (try simp only [Act.put, List.setIfInBounds_toArray, List.set_cons_zero, List.set_cons_succ])
            refine wpAnyH_done (by kernel_rfl) ?_ _
            go_wp2_with fail
            obtain ⟨val2', hOW3, _, hKP3, _, _⟩ := HOW2.out.step htV ⟨i, false⟩ hgrow hown2 hat2 hga2w HVAL2.out n2 HKP2.out HB.out rfl
            exact ⟨⟨i + 1, val2', by omega, by go_num, Lib.hid (hOW3.congr (fun v _ => Sa_eq N i v)), Lib.hid hKP3⟩, by simp [intOf]; omega⟩
          · go_simp
            refine hK.out _ _ ?_ (fun hHeld => ?_)
            · (try dsimp only); first | assumption | go_keep
            clear hK K
            (try simp only [Act.put, List.setIfInBounds_toArray, List.set_cons_zero, List.set_cons_succ])
            refine wpAnyH_ready (rs := [13]) (by kernel_rfl) (by simp) ?_
            refine AllReadyH.cons rfl (fun K hK => ?_) AllReadyH.nil
            go_simp
            refine hK.out _ _ ?_ (fun hHeld => ?_)
            · (try dsimp only); first | assumption | go_keep
            clear hK K
            (try simp only [Act.put, List.setIfInBounds_toArray, List.set_cons_zero, List.set_cons_succ])
            refine wpAnyH_ready (rs := [17]) (by kernel_rfl) (by simp) ?_
            refine AllReadyH.cons rfl (fun K hK => ?_) AllReadyH.nil
            (refine step_append_lies _ (by rfl) _ _ _ (by rfl) B 75 i0 _ 2 16 Try.underlying85 HI.out HZ0.out HZ1.out HZ2.out rfl (by omega) _ _ _ (by rfl) ((HOWN2.out.alloc _).drew) ⟨w2.heap.size, 0, none⟩ 1 1 (stv ⟨i, false⟩) (by rfl) (by rfl) (World.news_of_block (cs := #[.int .i64 (i : Int), .bool true]) (t := 75) (fr := (0, 0)) (heap_alloc_new w2 _)) (by simp [Value.oneCell']) (by omega) (by unfold maxLen; omega) (by omega) (by simp; omega) (w2.heap.size + 1) (by simp) ?_; intro g2 cg2 w3 hown2 hgrow hat2 hlt2; obtain ⟨r1, r2, r3⟩ := HOW2.out.rowg htV hgrow; have hsw1 := HFAR2.out _ hgrow)
            refine hK.out _ _ ?_ (fun hHeld => ?_)
            · (try dsimp only); assumption
            clear hK K
            (try simp only [Act.put, List.setIfInBounds_toArray, List.set_cons_zero, List.set_cons_succ])
            refine wpAnyH_take (i := 18) (v := ?_) rfl (by kernel_rfl) (by kernel_rfl) (by kernel_rfl) (fun _ _ _ h => h) (Or.inl ⟨by rfl, ?_⟩) (by assumption) ?_
            rotate_left
            · (intro w hSw; (try dsimp only at hSw); go_simp; try with_reducible rfl)
            (try simp only [Act.put, List.setIfInBounds_toArray, List.set_cons_zero, List.set_cons_succ])
            refine wpAnyH_ready (rs := [19]) (by kernel_rfl) (by simp) ?_
            refine AllReadyH.cons rfl (fun K hK => ?_) AllReadyH.nil
            go_simp
            refine hK.out _ _ ?_ (fun hHeld => ?_)
            · (try dsimp only); go_keep
            clear hK K
            (try simp only [Act.put, List.setIfInBounds_toArray, List.set_cons_zero, List.set_cons_succ])
            refine wpAnyH_done (by kernel_rfl) ?_ _
            go_wp2_with fail
            obtain ⟨val2', hOW3, _, hKP3, _, _⟩ := HOW2.out.step htV ⟨i, false⟩ hgrow hown2 hat2 hga2w HVAL2.out n2 HKP2.out HB.out rfl
            exact ⟨⟨i + 1, val2', by omega, by go_num, Lib.hid (hOW3.congr (fun v _ => Sa_eq N i v)), Lib.hid hKP3⟩, by simp [intOf]; omega⟩
        · go_simp
          refine hK.out _ _ ?_ (fun hHeld => ?_)
          · (try dsimp only); first | assumption | go_keep
          clear hK K
          (try simp only [Act.put, List.setIfInBounds_toArray, List.set_cons_zero, List.set_cons_succ])
          refine wpAnyH_ready (rs := [13]) (by kernel_rfl) (by simp) ?_
          refine AllReadyH.cons rfl (fun K hK => ?_) AllReadyH.nil
          go_simp
          refine hK.out _ _ ?_ (fun hHeld => ?_)
          · (try dsimp only); first | assumption | go_keep
          clear hK K
          (try simp only [Act.put, List.setIfInBounds_toArray, List.set_cons_zero, List.set_cons_succ])
          refine wpAnyH_ready (rs := [17]) (by kernel_rfl) (by simp) ?_
          refine AllReadyH.cons rfl (fun K hK => ?_) AllReadyH.nil
          (refine step_append_lies _ (by rfl) _ _ _ (by rfl) B 75 i0 _ 2 16 Try.underlying85 HI.out HZ0.out HZ1.out HZ2.out rfl (by omega) _ _ _ (by rfl) ((HOWN.out.alloc _).drew) ⟨wB.heap.size, 0, none⟩ 1 1 (stv ⟨i, true⟩) (by rfl) (by rfl) (World.news_of_block (cs := #[.int .i64 (i : Int), .bool false]) (t := 75) (fr := (0, 0)) (heap_alloc_new wB _)) (by simp [Value.oneCell']) (by omega) (by unfold maxLen; omega) (by omega) (by simp; omega) (wB.heap.size + 1) (by simp) ?_; intro g1 cg w1 hown1 hgrow hat hlt1; obtain ⟨r1, r2, r3⟩ := HOWB.out.rowg hfV hgrow; have hsw1 := HFAR.out _ hgrow)
          refine hK.out _ _ ?_ (fun hHeld => ?_)
          · (try dsimp only); assumption
          clear hK K
          (try simp only [Act.put, List.setIfInBounds_toArray, List.set_cons_zero, List.set_cons_succ])
          refine wpAnyH_take (i := 18) (v := ?_) rfl (by kernel_rfl) (by kernel_rfl) (by kernel_rfl) (fun _ _ _ h => h) (Or.inl ⟨by rfl, ?_⟩) (by assumption) ?_
          rotate_left
          · (intro w hSw; (try dsimp only at hSw); go_simp; try with_reducible rfl)
          (try simp only [Act.put, List.setIfInBounds_toArray, List.set_cons_zero, List.set_cons_succ])
          refine wpAnyH_ready (rs := [19]) (by kernel_rfl) (by simp) ?_
          refine AllReadyH.cons rfl (fun K hK => ?_) AllReadyH.nil
          go_simp
          refine hK.out _ _ ?_ (fun hHeld => ?_)
          · (try dsimp only); go_keep
          clear hK K
          (try simp only [Act.put, List.setIfInBounds_toArray, List.set_cons_zero, List.set_cons_succ])
          refine wpAnyH_done (by kernel_rfl) ?_ _
          clear c2 r0 z0 hgt hggl a0 HFAR HOWN
          obtain ⟨val2, hOW2, hv2, hKP2, hga2w, hca⟩ := HOWB.out.step hfV ⟨i, true⟩ hgrow hown1 hat hga HVAL.out n2 HKPB.out HB.out rfl
          replace a1 := hca 1 _ a1
          clear hca hsw1 hown1 hat r1 r2 r3 hlt1 hgrow hHeld
          generalize (w1.setCell ⟨gt, N.fr i, none⟩ (.slice (some ⟨g1, 0, none⟩) ((Sa N i (N.fr i)).length + 1) cg)) = w2 at *
          replace hOW2 := hOW2.congr (fun v _ => Sh_eq N i v)
          have c2 : w2.cell? ⟨gg, 3, none⟩ = some (.slice (some ⟨gt, 0, none⟩) N.V N.V) := hKP2.cell (cell_of_row _ _ 3 _ _ _ HN.out.blk) (by have := HGG.out; simp; omega)
          have r0 := hOW2.row.cell (N.to i) htV
          have z0 := hOW2.row.frozen (N.to i)
          have hgt := hOW2.row.lt
          have hggl := block_lt_of_cell c2
          have HOW2 := Lib.hid hOW2
          have HKP2 := Lib.hid hKP2
          have HVAL2 := Lib.hid hv2
          clear hOW2 hKP2 hv2
          have HOWN2 := Lib.hid (HOW2.out.own (N.to i) htV)
          have hsB2 : B ≤ w2.heap.size := by have := HKP2.out.size; have := HB.out; omega
          have HFAR2 : Hid (∀ w1, ((w2.alloc (.cells #[.int .i64 (i : Int), .bool true] 75)).drew).grownBy w1 (val2 (N.to i)).ownBlock → w1.cell? ⟨gg, 3, none⟩ = some (.slice (some ⟨gt, 0, none⟩) N.V N.V) ∧ w1.cell? ⟨ga, 1, none⟩ = some (.int .i64 (N.to i : Int))) := Lib.hid (fun w1 hg =>
            ⟨(hg.cell_far ⟨gg, 3, none⟩ (by simp; omega) (fun e => by have := ((HOW2.out.own _ htV).lt gg e.symm).1; omega)).trans (cell_old _ c2), (hg.cell_far ⟨ga, 1, none⟩ (by simp; omega) (fun e => HVAL2.out _ htV e.symm)).trans (cell_old _ a1)⟩)
          go_upto_region 6 with fail
          refine wp_region_held_drew (S := (fun w' => w'.cell? ⟨gg, 3, none⟩ = some (.slice (some ⟨gt, 0, none⟩) N.V N.V) ∧ w'.cell? ⟨ga, 1, none⟩ = some (.int .i64 (N.to i : Int)))) (by kernel_rfl) (by go_keep) (fun hHeld => ?_)
          refine wpAnyH_take (i := 0) (v := ?_) rfl (by kernel_rfl) (by kernel_rfl) (by kernel_rfl) (fun _ _ _ h => h) (Or.inl ⟨by rfl, ?_⟩) (by assumption) ?_
          rotate_left
          · (intro w hSw; (try dsimp only at hSw); go_simp; try with_reducible rfl)
          (try simp only [Act.put, List.setIfInBounds_toArray, List.set_cons_zero, List.set_cons_succ])
          refine wpAnyH_take (i := 1) (v := ?_) rfl (by kernel_rfl) (by kernel_rfl) (by kernel_rfl) (fun _ _ _ h => h) (Or.inl ⟨by rfl, ?_⟩) (by assumption) ?_
          rotate_left
          · (intro w hSw; (try dsimp only at hSw); go_simp; try with_reducible rfl)
          (try simp only [Act.put, List.setIfInBounds_toArray, List.set_cons_zero, List.set_cons_succ])
          refine wpAnyH_take (i := 2) (v := ?_) rfl (by kernel_rfl) (by kernel_rfl) (by kernel_rfl) (fun _ _ _ h => h) (Or.inl ⟨by rfl, ?_⟩) (by assumption) ?_
          rotate_left
          · (intro w hSw; (try dsimp only at hSw); go_simp; try with_reducible rfl)
          (try simp only [Act.put, List.setIfInBounds_toArray, List.set_cons_zero, List.set_cons_succ])
          refine wpAnyH_take (i := 3) (v := ?_) rfl (by kernel_rfl) (by kernel_rfl) (by kernel_rfl) (fun _ _ _ h => h) (Or.inl ⟨by rfl, ?_⟩) (by assumption) ?_
          rotate_left
          · (intro w hSw; (try dsimp only at hSw); go_simp; try with_reducible rfl)
          (try simp only [Act.put, List.setIfInBounds_toArray, List.set_cons_zero, List.set_cons_succ])
          refine wpAnyH_take (i := 4) (v := ?_) rfl (by kernel_rfl) (by kernel_rfl) (by kernel_rfl) (fun _ _ _ h => h) (Or.inl ⟨by rfl, ?_⟩) (by assumption) ?_
          rotate_left
          · (intro w hSw; (try dsimp only at hSw); go_simp; try with_reducible rfl)
          (try simp only [Act.put, List.setIfInBounds_toArray, List.set_cons_zero, List.set_cons_succ])
          refine wpAnyH_take (i := 5) (v := ?_) rfl (by kernel_rfl) (by kernel_rfl) (by kernel_rfl) (fun _ _ _ h => h) (Or.inl ⟨by rfl, ?_⟩) (by assumption) ?_
          rotate_left
          · (intro w hSw; (try dsimp only at hSw); go_simp; try with_reducible rfl)
          (try simp only [Act.put, List.setIfInBounds_toArray, List.set_cons_zero, List.set_cons_succ])
          refine wpAnyH_take (i := 6) (v := ?_) rfl (by kernel_rfl) (by kernel_rfl) (by kernel_rfl) (fun _ _ _ h => h) (Or.inl ⟨by rfl, ?_⟩) (by assumption) ?_
          rotate_left
          · (intro w hSw; (try dsimp only at hSw); go_simp; try with_reducible rfl)
          (try simp only [Act.put, List.setIfInBounds_toArray, List.set_cons_zero, List.set_cons_succ])
          refine wpAnyH_take (i := 7) (v := ?_) rfl (by kernel_rfl) (by kernel_rfl) (by kernel_rfl) (fun _ _ _ h => h) (Or.inl ⟨by rfl, ?_⟩) (by assumption) ?_
          rotate_left
          · (intro w hSw; (try dsimp only at hSw); go_simp; try with_reducible rfl)
          (try simp only [Act.put, List.setIfInBounds_toArray, List.set_cons_zero, List.set_cons_succ])
          refine wpAnyH_take (i := 8) (v := ?_) rfl (by kernel_rfl) (by kernel_rfl) (by kernel_rfl) (fun _ _ _ h => h) (Or.inl ⟨by rfl, ?_⟩) (by assumption) ?_
          rotate_left
          · (intro w hSw; (try dsimp only at hSw); go_simp; try with_reducible rfl)
          (try simp only [Act.put, List.setIfInBounds_toArray, List.set_cons_zero, List.set_cons_succ])
          refine wpAnyH_take (i := 9) (v := ?_) rfl (by kernel_rfl) (by kernel_rfl) (by kernel_rfl) (fun _ _ _ h => h) (Or.inl ⟨by rfl, ?_⟩) (by assumption) ?_
          rotate_left
          · (intro w hSw; (try dsimp only at hSw); go_simp; try with_reducible rfl)
          (try simp only [Act.put, List.setIfInBounds_toArray, List.set_cons_zero, List.set_cons_succ])
          refine wpAnyH_take (i := 10) (v := ?_) rfl (by kernel_rfl) (by kernel_rfl) (by kernel_rfl) (fun _ _ _ h => h) (Or.inl ⟨by rfl, ?_⟩) (by assumption) ?_
          rotate_left
          · (intro w hSw; (try dsimp only at hSw); go_simp; try with_reducible rfl)
          (try simp only [Act.put, List.setIfInBounds_toArray, List.set_cons_zero, List.set_cons_succ])
          refine wpAnyH_take (i := 11) (v := ?_) rfl (by kernel_rfl) (by kernel_rfl) (by kernel_rfl) (fun _ _ _ h => h) (Or.inl ⟨by rfl, ?_⟩) (by assumption) ?_
          rotate_left
          · (intro w hSw; (try dsimp only at hSw); go_simp; try with_reducible rfl)
          (try simp only [Act.put, List.setIfInBounds_toArray, List.set_cons_zero, List.set_cons_succ])
          refine wpAnyH_take (i := 12) (v := ?_) rfl (by kernel_rfl) (by kernel_rfl) (by kernel_rfl) (fun _ _ _ h => h) (Or.inl ⟨by rfl, ?_⟩) (by assumption) ?_
          rotate_left
          · (intro w hSw; (try dsimp only at hSw); go_simp; try with_reducible rfl)
          (try simp only [Act.put, List.setIfInBounds_toArray, List.set_cons_zero, List.set_cons_succ])
          refine wpAnyH_take (i := 14) (v := ?_) rfl (by kernel_rfl) (by kernel_rfl) (by kernel_rfl) (fun _ _ _ h => h) (Or.inl ⟨by rfl, ?_⟩) (by assumption) ?_
          rotate_left
          · (intro w hSw; (try dsimp only at hSw); go_simp; try with_reducible rfl)
          (try simp only [Act.put, List.setIfInBounds_toArray, List.set_cons_zero, List.set_cons_succ])
          refine wpAnyH_take (i := 15) (v := ?_) rfl (by kernel_rfl) (by kernel_rfl) (by kernel_rfl) (fun _ _ _ h => h) (Or.inl ⟨by rfl, ?_⟩) (by assumption) ?_
          rotate_left
          · (intro w hSw; (try dsimp only at hSw); go_simp; try with_reducible rfl)
          (try simp only [Act.put, List.setIfInBounds_toArray, List.set_cons_zero, List.set_cons_succ])
          refine wpAnyH_ready (rs := [13, 16]) (by kernel_rfl) (by simp) ?_
          refine AllReadyH.cons rfl (fun K hK => ?_) (AllReadyH.cons rfl (fun K hK => ?_) AllReadyH.nil)
          · go_simp
            refine hK.out _ _ ?_ (fun hHeld => ?_)
            · (try dsimp only); first | assumption | go_keep
            clear hK K
            (try simp only [Act.put, List.setIfInBounds_toArray, List.set_cons_zero, List.set_cons_succ])
            refine wpAnyH_ready (rs := [16]) (by kernel_rfl) (by simp) ?_
            refine AllReadyH.cons rfl (fun K hK => ?_) AllReadyH.nil
            go_simp
            refine hK.out _ _ ?_ (fun hHeld => ?_)
            · (try dsimp only); first | assumption | go_keep
            clear hK K
            (try simp only [Act.put, List.setIfInBounds_toArray, List.set_cons_zero, List.set_cons_succ])
            refine wpAnyH_ready (rs := [17]) (by kernel_rfl) (by simp) ?_
            refine AllReadyH.cons rfl (fun K hK => ?_) AllReadyH.nil
            (refine step_append_lies _ (by rfl) _ _ _ (by rfl) B 75 i0 _ 2 16 Try.underlying85 HI.out HZ0.out HZ1.out HZ2.out rfl (by omega) _ _ _ (by rfl) ((HOWN2.out.alloc _).drew) ⟨w2.heap.size, 0, none⟩ 1 1 (stv ⟨i, false⟩) (by rfl) (by rfl) (World.news_of_block (cs := #[.int .i64 (i : Int), .bool true]) (t := 75) (fr := (0, 0)) (heap_alloc_new w2 _)) (by simp [Value.oneCell']) (by omega) (by unfold maxLen; omega) (by omega) (by simp; omega) (w2.heap.size + 1) (by simp) ?_; intro g2 cg2 w3 hown2 hgrow hat2 hlt2; obtain ⟨r1, r2, r3⟩ := HOW2.out.rowg htV hgrow; have hsw1 := HFAR2.out _ hgrow)
            refine hK.out _ _ ?_ (fun hHeld => ?_)
            · (try dsimp only); assumption
            clear hK K
            (try simp only [Act.put, List.setIfInBounds_toArray, List.set_cons_zero, List.set_cons_succ])
            refine wpAnyH_take (i := 18) (v := ?_) rfl (by kernel_rfl) (by kernel_rfl) (by kernel_rfl) (fun _ _ _ h => h) (Or.inl ⟨by rfl, ?_⟩) (by assumption) ?_
            rotate_left
            · (intro w hSw; (try dsimp only at hSw); go_simp; try with_reducible rfl)
            (try simp only [Act.put, List.setIfInBounds_toArray, List.set_cons_zero, List.set_cons_succ])
            refine wpAnyH_ready (rs := [19]) (by kernel_rfl) (by simp) ?_
            refine AllReadyH.cons rfl (fun K hK => ?_) AllReadyH.nil
            go_simp
            refine hK.out _ _ ?_ (fun hHeld => ?_)
            · (try dsimp only); go_keep
            clear hK K
            (try simp only [Act.put, List.setIfInBounds_toArray, List.set_cons_zero, List.set_cons_succ])
            refine wpAnyH_done (by kernel_rfl) ?_ _
            go_wp2_with fail
            obtain ⟨val2', hOW3, _, hKP3, _, _⟩ := HOW2.out.step htV ⟨i, false⟩ hgrow hown2 hat2 hga2w HVAL2.out n2 HKP2.out HB.out rfl
            exact ⟨⟨i + 1, val2', by omega, by go_num, Lib.hid (hOW3.congr (fun v _ => Sa_eq N i v)), Lib.hid hKP3⟩, by simp [intOf]; omega⟩
          · go_simp
            refine hK.out _ _ ?_ (fun hHeld => ?_)
            · (try dsimp only); first | assumption | go_keep
            clear hK K
            (try simp only [Act.put, List.setIfInBounds_toArray, List.set_cons_zero, List.set_cons_succ])
            refine wpAnyH_ready (rs := [13]) (by kernel_rfl) (by simp) ?_
            refine AllReadyH.cons rfl (fun K hK => ?_) AllReadyH.nil
            go_simp
            refine hK.out _ _ ?_ (fun hHeld => ?_)
            · (try dsimp only); first | assumption | go_keep
            clear hK K
            (try simp only [Act.put, List.setIfInBounds_toArray, List.set_cons_zero, List.set_cons_succ])
            refine wpAnyH_ready (rs := [17]) (by kernel_rfl) (by simp) ?_
            refine AllReadyH.cons rfl (fun K hK => ?_) AllReadyH.nil
            (refine step_append_lies _ (by rfl) _ _ _ (by rfl) B 75 i0 _ 2 16 Try.underlying85 HI.out HZ0.out HZ1.out HZ2.out rfl (by omega) _ _ _ (by rfl) ((HOWN2.out.alloc _).drew) ⟨w2.heap.size, 0, none⟩ 1 1 (stv ⟨i, false⟩) (by rfl) (by rfl) (World.news_of_block (cs := #[.int .i64 (i : Int), .bool true]) (t := 75) (fr := (0, 0)) (heap_alloc_new w2 _)) (by simp [Value.oneCell']) (by omega) (by unfold maxLen; omega) (by omega) (by simp; omega) (w2.heap.size + 1) (by simp) ?_; intro g2 cg2 w3 hown2 hgrow hat2 hlt2; obtain ⟨r1, r2, r3⟩ := HOW2.out.rowg htV hgrow; have hsw1 := HFAR2.out _ hgrow)
            refine hK.out _ _ ?_ (fun hHeld => ?_)
            · (try dsimp only); assumption
            clear hK K
            (try simp only [Act.put, List.setIfInBounds_toArray, List.set_cons_zero, List.set_cons_succ])
            refine wpAnyH_take (i := 18) (v := ?_) rfl (by kernel_rfl) (by kernel_rfl) (by kernel_rfl) (fun _ _ _ h => h) (Or.inl ⟨by rfl, ?_⟩) (by assumption) ?_
            rotate_left
            · (intro w hSw; (try dsimp only at hSw); go_simp; try with_reducible rfl)
            (try simp only [Act.put, List.setIfInBounds_toArray, List.set_cons_zero, List.set_cons_succ])
            refine wpAnyH_ready (rs := [19]) (by kernel_rfl) (by simp) ?_
            refine AllReadyH.cons rfl (fun K hK => ?_) AllReadyH.nil
            go_simp
            refine hK.out _ _ ?_ (fun hHeld => ?_)
            · (try dsimp only); go_keep
            clear hK K
            (try simp only [Act.put, List.setIfInBounds_toArray, List.set_cons_zero, List.set_cons_succ])
            refine wpAnyH_done (by kernel_rfl) ?_ _
            go_wp2_with fail
            obtain ⟨val2', hOW3, _, hKP3, _, _⟩ := HOW2.out.step htV ⟨i, false⟩ hgrow hown2 hat2 hga2w HVAL2.out n2 HKP2.out HB.out rfl
            exact ⟨⟨i + 1, val2', by omega, by go_num, Lib.hid (hOW3.congr (fun v _ => Sa_eq N i v)), Lib.hid hKP3⟩, by simp [intOf]; omega⟩
      · obtain rfl : i = N.m := by omega
        have hblk0 := HN.out.blk
        have hKP := HKP.out
        have n1 : gg ≠ gf := cells_ne hblk0 HN.out.f (by decide)
        have n2 : gg ≠ gp := cells_ne hblk0 HN.out.p (by decide)
        have n3 : gg ≠ gc := cells_ne hblk0 HN.out.c (by decide)
        have n4 : gt ≠ gf := VRow.ne HROW.out HN.out.f (by decide)
        have n5 : gt ≠ gp := VRow.ne HROW.out HN.out.p (by decide)
        have n6 : gt ≠ gc := VRow.ne HROW.out HN.out.c (by decide)
        have n7 : gf ≠ gc := VRow.ne HN.out.f HN.out.c (by decide)
        have n8 : gp ≠ gc := VRow.ne HN.out.p HN.out.c (by decide)
        have hlf := HN.out.f.lt
        have hlp := HN.out.p.lt
        have hlc := HN.out.c.lt
        have hBe := HB.out
        have hfar : 0 < N.m → ∀ x, a = some x → x.block < w.heap.size := fun hm x hx => by
          obtain ⟨b, off, e1, hb, _⟩ := HA.out 0 hm
          rw [hx] at e1; injection e1 with e1; rw [e1]; exact hb
        have hS : Srch wr gg N ⟨a, ca, gf, gt, gp, gc, Sa N N.m⟩ := by
          refine ⟨(hKP.block gg (by omega) (by have := HGG.out; simpa using this)).trans hblk0, (HA.out.below HN.out.below).kp hKP (fun hm x hx => by have := hfar hm x hx; simp; omega), fun hm x hx => by have := hfar hm x hx; simp; omega, fun v hv => ?_, by simp; omega, by simp; omega, ⟨HN.out.ne, n7, n8⟩, fun v hv s => Sa_mem N v N.m s, fun v hv => Sa_len N v N.m⟩
          obtain ⟨a', c', e1, _, _, _, hst, hbs⟩ := Stps.of_own (HOW.out.own v hv)
          have hc := HOW.out.row.cell v hv
          rw [e1] at hc
          exact ⟨a', c', hc, hst, fun x hx => by have := hbs x hx; simp; omega⟩
        have HF := Lib.hid (VRow.kp HN.out.f hKP (by simpa using n4.symm))
        have HP := Lib.hid (VRow.kp HN.out.p hKP (by simpa using n5.symm))
        have HCC := Lib.hid (VRow.kp HN.out.c hKP (by simpa using n6.symm))
        have HS := Lib.hid hS
        have HBL : Hid (Below w.heap.size w wr) := Lib.hid (HN.out.below.trans (hKP.to_below (by omega) (by simp; omega)))
        clear hS hKP hblk0 n1 n2 n3 n4 n5 n6 n7 n8 hfar hBe hlf hlp hlc hi hlt
        go_wp2
        go_ret
        exact ⟨gg, _, rfl, HS.out, HF.out, HP.out, HCC.out, ⟨hgn.1, hgn.2.2.1, hgn.2.2.2.1⟩, HBL.out⟩
end Go.Proofs.Ythoehobofdeifaa
