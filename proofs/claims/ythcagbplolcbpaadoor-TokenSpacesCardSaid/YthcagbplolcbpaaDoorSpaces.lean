/-
  The law TokenSpaces of chapter 3 holds of the given program at every input that can be read (the card's tied claim).
-/
import Derived.Test.YthcagbplolcbpaaDoorTlP
import Derived.Test.YthcagbplolcbpaaDoorLaidU
import Derived.ChangeMaps5
import Derived.Test.YthcagbplolcbpaaDoorTie
import Derived.Test.YthcagbplolcbpaaDoorCards
namespace Go.Proofs.YthcagbplolcbpaaDoor.tokenSpaces
open Go.ChangeShapes Go.WideShapes Go.ChangeAt Go.RowKit
set_option linter.unusedVariables false

set_option linter.unusedVariables false
set_option linter.unusedSimpArgs false

theorem Tryd.infoInt : (Tryd.prog.info? 3).map (fun i => (i.zero, i.size, i.bytes)) = some (some (.int .i64 0), 1, 8) := by kernel_rfl
theorem tks_grown {w w' : World} {a : Option Addr} {ts : List Tk} {gc : Nat} (h : Tks w a ts) (hg : w.grownBy w' (some gc)) (hne : ∀ x, a = some x → x.block ≠ gc) : Tks w' a ts := fun j x hj => by
  obtain ⟨b, off, e, hb, h0, h1, h2, h3⟩ := h j x hj
  have key : w'.heap[b]? = w.heap[b]? := hg.block b hb (fun e2 => by injection e2 with e2; exact hne _ e e2)
  have kc : ∀ o, w'.cell? ⟨b, o, none⟩ = w.cell? ⟨b, o, none⟩ := fun o => World.cell?_of_block (a := ⟨b, o, none⟩) key
  exact ⟨b, off, e, by have := hg.size; omega, (kc _).trans h0, (kc _).trans h1, (kc _).trans h2, (kc _).trans h3⟩
theorem gapE_le (l : List (Tk × Gap)) : ∀ ln, ln ≤ gapE ln l ∧ gapE ln l ≤ ln + 2 * l.length := by
  induction l with
  | nil => intro ln; simp [gapE]
  | cons x l ih =>
    intro ln
    have h := ih (ln + x.2.ln)
    have h2 : 0 ≤ x.2.ln ∧ x.2.ln ≤ 2 := by cases x.2 <;> simp [Gap.ln]
    simp only [gapE, List.length_cons]
    omega
theorem tkLen_take (c : Nat) (l : List Tk) (i : Nat) : tkLen c (l.take i) ≤ tkLen c l := by
  induction l generalizing i with
  | nil => simp [tkLen]
  | cons x l ih =>
    cases i with
    | zero => simp [tkLen]
    | succ i => have := ih i; simp only [List.take_succ_cons, tkLen]; omega
theorem gapL_len (l : List (Tk × Gap)) : ∀ ln, (gapL ln l).length = l.length := by
  induction l with
  | nil => intro ln; rfl
  | cons x l ih => intro ln; simp [gapL, ih]
theorem gapT_len (l : List (Tk × Gap)) : ∀ ln, (gapT ln l).length = l.length := by
  induction l with
  | nil => intro ln; rfl
  | cons x l ih => intro ln; simp [gapT, ih]
theorem tk20 (l : List Tk) : 20 * l.length ≤ tkLen 20 l := by
  induction l with
  | nil => simp [tkLen]
  | cons x l ih => simp only [tkLen, List.length_cons]; omega
/-- what the first loop has made -/
structure SpI (ys : List Tk) (i : Nat) (gl : List (Tk × Gap)) : Prop where
  len : gl.length = i
  fst : gl.map (·.1) = ys.take i
theorem SpI.facts {ys : List Tk} {i : Nat} {gl : List (Tk × Gap)} (h : SpI ys i gl) (hc : tkLen 20 ys ≤ 38000) : (gapB gl).length ≤ 38000 ∧ 1 ≤ gapE 1 gl ∧ gapE 1 gl ≤ 1 + 2 * i := by
  have h1 := gapB_len gl
  rw [h.fst] at h1
  have h2 := tkLen_take 20 ys i
  have h3 := gapE_le gl 1
  have h4 := h.len
  exact ⟨by omega, h3.1, by omega⟩
theorem SpI.push {ys : List Tk} {i : Nat} {gl : List (Tk × Gap)} (h : SpI ys i gl) {x : Tk} (hx : ys[i]? = some x) (g : Gap) : SpI ys (i + 1) (gl ++ [(x, g)]) :=
  ⟨by simp [h.len], by rw [List.map_append, h.fst, List.take_add_one, hx]; rfl⟩
theorem SpI.scan {ys : List Tk} {gl : List (Tk × Gap)} (h : SpI ys ys.length gl) (hok : ∀ x ∈ ys, TokOk x) : Go.Proofs.YthcagbplolcbpaaDoor.scan (gapB gl) = (some (gapT 1 gl ++ [⟨0, gapE 1 gl, 0, []⟩]), 0) ∧ unl (gapT 1 gl) = unl ys := by
  have h1 := h.fst
  rw [List.take_length] at h1
  have h2 := gap_scan gl (fun x hx => hok x.1 (by rw [← h1]; exact List.mem_map_of_mem hx)) [] 1
  refine ⟨by rw [scan_F, h2]; rfl, ?_⟩
  rw [gapT_unl, h1]
theorem ints_push (l : List Int) (z : Int) : ints l ++ [.int .i64 z] = ints (l ++ [z]) := by simp
set_option maxRecDepth 100000 in
set_option maxHeartbeats 8000000 in
theorem walk (a0 : Option Addr) (len0 cap0 : Nat) (z0 : List Int) (w : World) (w0 : InInts .u8 w a0 len0 cap0 z0) (hw : Lad w) :
    Calls Tryd.prog 3 #[.slice a0 len0 cap0] w fun e w' => e = .returned (.bool true) ∧ Below w.heap.size w w' := by
  have HI := Lib.hid w0
  have HW := Lib.hid hw
  obtain ⟨i0, hi0, hz0, hz1, hz2⟩ := info_parts Tryd.infoInt
  have HII := Lib.hid hi0
  have HZ0 := Lib.hid hz0
  have HZ1 := Lib.hid hz1
  have HZ2 := Lib.hid hz2
  clear w0 hw hi0 hz0 hz1 hz2
  go_enter Tryd.func3, Tryd.ntmps3
  go_wp2_with fail
  refine (awake_any w HW.out).mono ?_
  rintro e w2 ⟨rfl, hb2⟩
  have HB2 := Lib.hid hb2
  have HI2 := Lib.hid (HI.out.below hb2)
  clear hb2
  go_wp2_with fail
  refine (New_any a0 len0 cap0 z0 300 (by omega) (by omega) _ HI2.out).mono ?_
  rintro e w3 ⟨gc, rfl, hgc, hcod, hb3⟩
  have HGC : Hid (w.heap.size ≤ gc) := Lib.hid (by have := HB2.out.size; omega)
  have HG3 := Lib.hid (grownBy_of_below (HB2.out.trans (hb3.mono HB2.out.size)) (some gc))
  have HC3 := Lib.hid hcod
  clear hgc hcod hb3 HI2
  go_wp2_with fail
  refine (Text_any gc _ HC3.out).mono ?_
  rintro e w4 ⟨wx, gs, fs, Fs, aa, ca, ab, cb, rfl, hc4, hg4, hs4⟩
  have hTl := hs4.len
  obtain ⟨ys, lne, hsc, -, hok, hcst, hne⟩ := hs4.scan
  obtain ⟨T, hT⟩ : ∃ T, fmtP gs Fs = T := ⟨_, rfl⟩
  rw [hT] at hTl hsc ⊢
  have HG4 := Lib.hid (grownBy_trans HG3.out hg4)
  have HC4 := Lib.hid hc4
  have HLW : Hid (Lad w4) := Lib.hid (HW.out.below ((Below.refl w.heap.size w).grown HG4.out (Nat.le_refl _) (fun k e => by injection e with e; have := HGC.out; omega)))
  have HOK := Lib.hid hok
  have HCST := Lib.hid hcst
  clear hT hs4 hc4 hg4 hok hcst
  go_wp2_with fail
  refine (Scan_any (st T) (by show T.length ≤ _; omega) _ HLW.out).mono ?_
  rintro e w5 ⟨hb5, hp⟩
  have ed : (st T).data.toList = T := by simp
  rw [ed, hsc] at hp
  rcases hp with ⟨h, _⟩ | ⟨_, h, _⟩ | ⟨_, ts, v, h1, rfl, hown⟩
  · omega
  · cases h
  injection h1 with h1
  subst h1
  obtain ⟨al, cl, rfl, _, _, _, htl, hbl⟩ := Tks.of_own hown
  have hgl4 := HC4.out.lt
  have HNE : Hid (∀ x, al = some x → x.block ≠ gc) := Lib.hid (fun x e => by have := hbl x e; omega)
  have HTL := Lib.hid htl
  have HG5 := Lib.hid (grownBy_trans HG4.out (grownBy_of_below hb5 (some gc)))
  have HC5 := Lib.hid (HC4.out.below hb5 hgl4)
  have HLW5 := Lib.hid (HLW.out.below hb5)
  have HGS : Hid (gc < w5.heap.size) := Lib.hid (by have := hb5.size; omega)
  obtain ⟨N, hN⟩ : ∃ N, ys.length = N := ⟨_, rfl⟩
  have hN2 : N ≤ 1900 := by have := tk20 ys; have := HCST.out; omega
  have hN1 : 1 ≤ N := by cases ys; exact absurd rfl hne; simp at hN; omega
  obtain ⟨n, hn⟩ : ∃ n, (ys ++ [(⟨0, lne, 0, []⟩ : Tk)]).length = n := ⟨_, rfl⟩
  have hnN : n = N + 1 := by rw [← hn]; simp [hN]
  rw [hn]
  have HNN := Lib.hid (And.intro hN (And.intro hn hnN))
  have hnp : 0 < n := by omega
  have dn0 : ((n : Int) == 0) = false := by rw [beq_eq_false_iff_ne]; omega
  have hnA : n ≤ N + 1 := by omega
  have hnB : N + 1 ≤ n := by omega
  clear hnN
  clear ed hb5 hown htl hbl hgl4 hn hN hTl hne hsc HC3 HG3 HB2 HLW
  go_upto_block 0 with fail
  go_wp2_with fail
  go_loopw [7, 8, 9, 10] (fun v7 v8 v9 v10 wr => ∃ (i : Nat) (gl : List (Tk × Gap)), i ≤ N ∧ v7 = .string (st (gapB gl)) ∧ v8 = .int .i64 (gapE 1 gl) ∧ v10 = .int .i64 i ∧ Hid (SpI ys i gl) ∧ Hid (Cod wr gc ∧ w5.grownBy wr (some gc) ∧ wr.ownsRow w5.heap.size 3 1 v9 i (ints (gapL 1 gl)))) (fun _ _ _ v10 _ => N - (intOf v10).toNat)
  case atStart => exact ⟨0, [], by omega, rfl, rfl, rfl, Lib.hid ⟨rfl, by simp⟩, Lib.hid ⟨HC5.out, ⟨rfl, rfl, rfl, Nat.le_refl _, fun k hk _ => rfl⟩, World.ownsRow_nil _ _ _ _⟩⟩
  case round =>
    rename World => wa
    obtain ⟨i, gl, hi, rfl, rfl, rfl, HSP, HR⟩ := hrel
    obtain ⟨f1, f2, f3⟩ := HSP.out.facts HCST.out
    have hwi : IntKind.i64.wrap ((i : Int) + 1) = (i : Int) + 1 := by rw [IntKind.wrap_i64]; omega
    by_cases hlt : i < N
    · obtain ⟨x, hx⟩ := tk_get ys i (by rw [HNN.out.1]; exact hlt)
      have hxt : (ys ++ [(⟨0, lne, 0, []⟩ : Tk)])[i]? = some x := by rw [List.getElem?_append_left (by have := HNN.out.1; omega)]; exact hx
      have HPU := Lib.hid (fun g => HSP.out.push hx g)
      have hxl : x.t.length ≤ 38000 := Nat.le_trans (tk_le 20 ys i x hx) HCST.out
      have hlt2 : (i : Int) + 1 < (n : Int) := by omega
      have hlt3 : i + 1 < n := by omega
      clear hx
      obtain ⟨P, hP⟩ : ∃ P, gapB gl = P := ⟨_, rfl⟩
      obtain ⟨E, hE⟩ : ∃ E, gapE 1 gl = E := ⟨_, rfl⟩
      rw [hP] at f1
      rw [hE] at f2 f3
      (try rw [hP])
      (try rw [hE])
      have HP := Lib.hid hP
      have HE := Lib.hid hE
      clear hP hE
      have hwe1 : IntKind.i64.wrap (E + 1) = E + 1 := by rw [IntKind.wrap_i64]; omega
      have hwe2 : IntKind.i64.wrap (E + 2) = E + 2 := by rw [IntKind.wrap_i64]; omega
      have HOA := Lib.hid (HR.out.2.2.alloc (.cells #[.int .i64 E] 3))
      have HGA := Lib.hid (grownBy_trans HR.out.2.1 (grownBy_of_below (below_alloc wa (.cells #[.int .i64 E] 3)) (some gc)))
      have HCA := Lib.hid (HR.out.1.below (below_alloc wa (.cells #[.int .i64 E] 3)) HR.out.1.lt)
      have hsz5 := HR.out.2.1.size
      have HGS2 := HGS
      go_upto_region 14 with (at_builtin; refine wpList_append_own _ rfl _ _ _ rfl w5.heap.size 3 i0 _ 1 8 Tryd.underlying31 HII.out HZ0.out HZ1.out HZ2.out rfl (by omega) _ _ _ rfl HOA.out ⟨wa.heap.size, 0, none⟩ 1 1 [.int .i64 E] rfl rfl (World.news_of_block (cs := #[.int .i64 E]) (t := 3) (fr := (0, 0)) (heap_alloc_new wa _)) (by simp [Value.oneCell']) (by unfold maxLen; omega) (by omega) (by simp; omega) ?_; intro v' w9 hown9 hgrow9 _; have HO9 := Lib.hid hown9; have HG9 := Lib.hid hgrow9; clear hown9 hgrow9)
      have HG9' := Lib.hid (grownBy_own HGA.out HG9.out (fun k hk => (HOA.out.lt k hk).1))
      have HC9 := Lib.hid (Cod.grown HCA.out HG9.out (fun k hk => by have := (HOA.out.lt k hk).1; have := HGS.out; omega))
      have HO9' : Hid (w9.ownsRow w5.heap.size 3 1 v' (i + 1) (ints (gapL 1 gl ++ [E]))) := Lib.hid (by have := HO9.out; rw [ints_push] at this; exact this)
      clear HO9 HG9 HOA HGA HCA
      obtain ⟨b, off, rfl, hbl, k0, k1, k2, k3⟩ := (tks_grown HTL.out HG9'.out HNE.out) i x hxt
      clear k0 k1 k2 hxt
      have hst := st_app
      go_wp2_with fail
      refine (Next_any gc 4 (by omega) _ HC9.out).mono ?_
      rintro e w10 ⟨z, rfl, z0, z1, hc10, hg10⟩
      have z2 := z1
      have HC10 := Lib.hid hc10
      have HG10 := Lib.hid (grownBy_trans HG9'.out hg10)
      have HO10 := Lib.hid (own_grown HO9'.out hg10 HGS.out)
      clear hc10 hg10 z1
      have hend : ∀ (g : Gap) (u : Bt) (q : Int), u = P ++ (x.t ++ g.bt) → q = E + g.ln → (∃ (i_1 : Nat) (gl_1 : List (Tk × Gap)), i_1 ≤ N ∧ Value.string (st u) = .string (st (gapB gl_1)) ∧ Value.int .i64 q = .int .i64 (gapE 1 gl_1) ∧ Value.int .i64 ((i : Int) + 1) = .int .i64 i_1 ∧ Hid (SpI ys i_1 gl_1) ∧ Hid (Cod w10 gc ∧ w5.grownBy w10 (some gc) ∧ w10.ownsRow w5.heap.size 3 1 v' i_1 (ints (gapL 1 gl_1)))) := fun g u q hu hq =>
        ⟨i + 1, gl ++ [(x, g)], by omega, by rw [hu, gapB_snoc, HP.out], by rw [hq, gapE_snoc, HE.out], by go_num, Lib.hid (HPU.out g), Lib.hid ⟨HC10.out, HG10.out, by rw [gapL_snoc, HE.out]; exact HO10.out⟩⟩
      have HEND := Lib.hid hend
      clear hend k3
      by_cases hz0 : z = 0
      · have dz0 : (z == 0) = true := by rw [beq_iff_eq]; exact hz0
        subst hz0
        go_wp2_with fail
        go_roundw
        case rel =>
          refine HEND.out .note _ _ ?_ ?_
          · simp [Gap.bt, List.append_assoc]
          · simp [Gap.ln]
        case measure => simp [intOf]; omega
      have dz0 : (z == 0) = false := by rw [beq_eq_false_iff_ne]; exact hz0
      by_cases hz1 : z = 1
      · subst hz1
        go_wp2_with fail
        go_roundw
        case rel =>
          refine HEND.out .two _ _ ?_ ?_
          · simp [Gap.bt, List.append_assoc]
          · simp [Gap.ln]
        case measure => simp [intOf]; omega
      have dz1 : (z == 1) = false := by rw [beq_eq_false_iff_ne]; exact hz1
      clear hz0 hz1 z2
      go_wp2_with fail
      go_roundw
      case rel =>
        refine HEND.out .tab _ _ ?_ ?_
        · simp [Gap.bt, List.append_assoc]
        · simp [Gap.ln]
      case measure => simp [intOf]; omega
    · obtain rfl : i = N := by omega
      have hlt2 : ¬ ((i : Int) + 1 < (n : Int)) := by omega
      have hlt3 : ¬ (i + 1 < n) := by omega
      obtain ⟨hscg, hung⟩ := SpI.scan (ys := ys) (gl := gl) (by rw [HNN.out.1]; exact HSP.out) HOK.out
      have HSCG := Lib.hid hscg
      have hgl := HSP.out.len
      obtain ⟨u1, u2⟩ := unl_get (a := ys ++ [(⟨0, lne, 0, []⟩ : Tk)]) (b := gapT 1 gl ++ [⟨0, gapE 1 gl, 0, []⟩]) (by
        unfold unl at hung ⊢
        rw [List.map_append, List.map_append, hung]; rfl)
      have HU1 := Lib.hid u1
      have HU2 := Lib.hid u2
      have HML : Hid ((gapT 1 gl ++ [(⟨0, gapE 1 gl, 0, []⟩ : Tk)]).length = n) := Lib.hid (by rw [← HU1.out]; exact HNN.out.2.1)
      have HLAST : Hid ((gapT 1 gl ++ [(⟨0, gapE 1 gl, 0, []⟩ : Tk)])[i]? = some ⟨0, gapE 1 gl, 0, []⟩) := Lib.hid (by
        rw [List.getElem?_append_right (by rw [gapT_len, hgl]; exact Nat.le_refl _), gapT_len, hgl, Nat.sub_self]; rfl)
      have HLNS : Hid (∀ (j : Nat) (x : Tk), j < i → (gapT 1 gl ++ [(⟨0, gapE 1 gl, 0, []⟩ : Tk)])[j]? = some x → (gapL 1 gl)[j]? = some x.n) := Lib.hid (fun j x hj hx => by
        rw [List.getElem?_append_left (by rw [gapT_len, hgl]; exact hj)] at hx
        rw [← gapT_ln, List.getElem?_map, hx]; rfl)
      have HGLL : Hid ((gapL 1 gl).length = i) := Lib.hid (by rw [gapL_len, hgl])
      clear hscg hung u1 u2 hgl
      obtain ⟨ms, hms⟩ : ∃ ms, gapT 1 gl ++ [(⟨0, gapE 1 gl, 0, []⟩ : Tk)] = ms := ⟨_, rfl⟩
      obtain ⟨P, hP⟩ : ∃ P, gapB gl = P := ⟨_, rfl⟩
      obtain ⟨E, hE⟩ : ∃ E, gapE 1 gl = E := ⟨_, rfl⟩
      rw [hms] at HSCG HU1 HU2 HML HLAST HLNS
      rw [hP] at f1 HSCG
      rw [hE] at f2 f3 HLAST
      (try rw [hP])
      (try rw [hE])
      clear hms hP hE
      have HBa : Hid (Below w.heap.size w wa) := Lib.hid ((Below.refl w.heap.size w).grown (grownBy_trans HG5.out HR.out.2.1) (Nat.le_refl _) (fun k e => by injection e with e; have := HGC.out; omega))
      have HLWa := Lib.hid (HW.out.below HBa.out)
      have HTLa := Lib.hid (tks_grown HTL.out HR.out.2.1 HNE.out)
      obtain ⟨al9, cl9, rfl, g1, hcl9, g2, hcl, _⟩ := Cells.of_own HR.out.2.2
      have HCL := Lib.hid hcl
      have hne9 : ints (gapL 1 gl) ≠ [] := ints_ne _ 0 (by rw [HGLL.out]; omega)
      obtain ⟨bl, ol, rfl, hbl9, hcells9⟩ := hcl hne9
      have HC9 := Lib.hid hcells9
      have HBL9 := Lib.hid hbl9
      clear hcl hne9 hcells9 hbl9 g1
      go_wp2_with fail
      refine (Scan_any (st P) (by show P.length ≤ _; omega) _ HLWa.out).mono ?_
      rintro e w6 ⟨hb6, hp⟩
      have ed : (st P).data.toList = P := by simp
      rw [ed, HSCG.out] at hp
      rcases hp with ⟨h, _⟩ | ⟨_, h, _⟩ | ⟨_, ms2, v2, h1, rfl, hown2⟩
      · omega
      · cases h
      injection h1 with h1
      subst h1
      obtain ⟨am, cm, rfl, _, _, _, htm, _⟩ := Tks.of_own hown2
      have HB6 := Lib.hid (HBa.out.trans (hb6.mono HBa.out.size))
      have HBS6 := Lib.hid hb6
      have HTM := Lib.hid htm
      have HTL6 := Lib.hid (HTLa.out.below hb6)
      rw [HML.out]
      clear ed hb6 hown2 htm
      have HSAME : Hid (∀ W, Tks W al (ys ++ [(⟨0, lne, 0, []⟩ : Tk)]) → Tks W am ms → Calls Tryd.prog 12 #[.slice al n cl, .slice am n cm, .bool false] W fun e w' => e = .returned (.bool true) ∧ Below W.heap.size W w') := Lib.hid (fun W h1 h2 => by
        have := Same_true (ys ++ [(⟨0, lne, 0, []⟩ : Tk)]) ms false HU1.out (by rw [HNN.out.2.1]; omega) (fun j x y hx hy => by
          obtain ⟨q1, q2, q3⟩ := HU2.out j x y hx hy
          exact ⟨q1, q2, q3, fun e => by cases e⟩) W al am cl cm h1 h2
        rw [HML.out, HNN.out.2.1] at this
        exact this)
      go_wp2_with fail
      refine (HSAME.out _ HTL6.out HTM.out).mono ?_
      rintro e w7 ⟨rfl, hb7⟩
      have HB7 := Lib.hid (HB6.out.trans (hb7.mono HB6.out.size))
      have HTM7 := Lib.hid (HTM.out.below hb7)
      have HBS7 := Lib.hid (HBS6.out.trans (hb7.mono HBS6.out.size))
      clear hb7
      go_upto_block 3 with fail
      go_wp2_with fail
      go_loopw [14] (fun v14 wr => ∃ j : Nat, j ≤ i ∧ v14 = .int .i64 j ∧ Hid (Below w7.heap.size w7 wr)) (fun v14 _ => i - (intOf v14).toNat)
      case atStart => exact ⟨0, by omega, rfl, Lib.hid (Below.refl _ _)⟩
      case round =>
        rename World => wb
        obtain ⟨j, hj, rfl, HS⟩ := hrel
        by_cases hltj : j < i
        · obtain ⟨x, hx⟩ := tk_get ms j (by rw [HML.out]; omega)
          have hln := HLNS.out j x hltj hx
          obtain ⟨b, off, rfl, hbl, k0, k1, k2, k3⟩ := (HTM7.out.below HS.out) j x hx
          have hcj : wb.cell? ⟨bl, ol + j, none⟩ = some (.int .i64 x.n) := by
            have h1 := HC9.out j (.int .i64 x.n) (by rw [List.getElem?_map, hln]; rfl)
            have h2 := HBS7.out.trans (HS.out.mono HBS7.out.size)
            exact (h2.cell (p := ⟨bl, ol + j, none⟩) HBL9.out).trans h1
          have hjn : j < n := by omega
          have hjn2 : (j : Int) < (n : Int) := by omega
          clear k0 k2 k3 hx hln
          go_upto_region 29 with fail
          refine wp_region_below (by kernel_rfl) (by kernel_rfl) ?_
          have m1 : ∀ y : Since wb, y.val.cell? ⟨b, off + j * 4 + 1, none⟩ = some (.int .i64 x.n) := fun y => y.cell k1
          have m2 : ∀ y : Since wb, y.val.cell? ⟨bl, ol + j, none⟩ = some (.int .i64 x.n) := fun y => y.cell hcj
          repeat (go_big_quiet_step (fail))
          refine wpQuiet_nil ?_
          intro wc hbc
          clear m1 m2 k1 hcj
          go_wp2_with fail
          go_roundw
          case rel => exact ⟨j + 1, by omega, by go_num, Lib.hid (HS.out.trans (hbc.mono HS.out.size))⟩
          case measure => simp [intOf]; omega
        · obtain rfl : j = i := by omega
          obtain ⟨b, off, rfl, hbl, k0, k1, k2, k3⟩ := (HTM7.out.below HS.out) j _ HLAST.out
          have hn1 : (n : Int) - 1 = (j : Int) := by omega
          have hwn : IntKind.i64.wrap ((n : Int) - 1) = (j : Int) := by rw [IntKind.wrap_i64]; omega
          have hjn : j < n := by omega
          have hjn2 : (j : Int) < (n : Int) := by omega
          dsimp only at k0 k1
          clear k2 k3
          go_wp2_with fail
          go_ret
          exact ⟨by simp, HB7.out.trans (HS.out.mono HB7.out.size)⟩

/-! ### THE ROW's STEP -/
set_option maxRecDepth 100000 in
theorem lifted (os : Os) (started : os.Started) (H : Type) (enc : TypeId × Value → H) :
    ReturnsInHanded {} Tryd.checked os 3 .any (fun w args => (Rows.tokenSpacesSpec.pre enc Tryd.prog Tryd.f3 [] false w args ∧ laidMetH Tryd.prog [("math/bits.deBruijn32tab", Rows.laid_math_bits_deBruijn32tab), ("math/bits.deBruijn64tab", Rows.laid_math_bits_deBruijn64tab), ("internal/strconv.uint64pow10", Rows.laid_internal_strconv_uint64pow10), ("strconv.ErrRange", Rows.laid_strconv_ErrRange), ("strconv.ErrSyntax", Rows.laid_strconv_ErrSyntax)] w) ∧ sizedMet enc Tryd.prog Tryd.f3 (OpenSpec.ofChange Rows.tokenSpacesSpec) false w args)
      (Rows.tokenSpacesSpec.post enc Tryd.prog Tryd.f3 false true false false) := by
  refine returnsInHanded_of_change_and (C := Tryd.checked) (X := fun w _ => laidMetH Tryd.prog [("math/bits.deBruijn32tab", Rows.laid_math_bits_deBruijn32tab), ("math/bits.deBruijn64tab", Rows.laid_math_bits_deBruijn64tab), ("internal/strconv.uint64pow10", Rows.laid_internal_strconv_uint64pow10), ("strconv.ErrRange", Rows.laid_strconv_ErrRange), ("strconv.ErrSyntax", Rows.laid_strconv_ErrSyntax)] w) (fun _ _ _ hh h => h.of_heap hh) ownLd started (by kernel_rfl) Tryd.func3
    (ChangeSpec.witness_shaped (enc := enc) (C := Tryd.checked) (os := os) (X := fun w _ => laidMetH Tryd.prog [("math/bits.deBruijn32tab", Rows.laid_math_bits_deBruijn32tab), ("math/bits.deBruijn64tab", Rows.laid_math_bits_deBruijn64tab), ("internal/strconv.uint64pow10", Rows.laid_internal_strconv_uint64pow10), ("strconv.ErrRange", Rows.laid_strconv_ErrRange), ("strconv.ErrSyntax", Rows.laid_strconv_ErrSyntax)] w) false (World.doorLaid Tryd.prog 400 os) #[.slice none 0 0] 8 rfl (World.shaped_of_RefB (by kernel_rfl) (by kernel_rfl)) (by kernel_rfl) (by kernel_rfl) (by kernel_rfl) (door_met os _)) ?_
  intro W base args ds gs before hval0 hW _ _ hL _
  have hval : ∀ (j : Nat) t v, Tryd.f3.params[j]? = some t → args[j]? = some v → Value.okWide Tryd.prog W .any base t v := hval0
  have hW' := hW
  obtain ⟨p, q, hA0, hV, rfl, hfz, hnd⟩ := hW
  have hA : DataW.TrodAll enc Tryd.prog W 0 (fun _ => true) true Tryd.f3.params.toList args.toList ds p := hA0
  rw [Tryd.params3] at hA hval
  obtain ⟨v0, vs0, d0, ds0, p0, q0, hargs, rfl, rfl, h0, r0⟩ := trodAll_cons hA
  obtain ⟨rfl, rfl, rfl⟩ := trodAll_nil r0
  obtain rfl : args = #[v0] := by cases args; simp_all
  obtain ⟨rfl, rfl⟩ := trodVars_none hV
  have k0 := h0
  have lt0 : ∀ x ∈ p0, x.block < W.heap.size := by obtain ⟨m, hm⟩ := k0; exact DataW.trod_lt m _ _ _ hm
  obtain ⟨a0, len0, cap0, zs0, rfl, w0⟩ := in_ints (k := .u8) Tryd.underlying22 Tryd.underlying5 (by kernel_rfl) (hval 0 22 v0 rfl rfl) h0
  clear hA0 hval0
  refine (walk a0 len0 cap0 zs0 W w0 (of_laid hL)).mono fun e W' ⟨he, bel⟩ => ?_
  subst he
  exact ⟨_, rfl, _, _, _, [], _, [], hW', trodAll_mk1 (shut_bool Tryd.underlying4 _), (trodAll_cons_mk (Below.trod laidOut (by kernel_rfl) (of_decide_eq_true (by kernel_rfl)) k0 bel lt0) trodAll_mk0), rfl, bel.frame _, fun h => by cases h⟩

theorem over : Rows.TokenSpacesSaid :=
  OpenClaim.holds_of_wide 3 Tryd.f3 rfl rfl rfl rfl rfl rfl rfl ⟨rfl, rfl, rfl, rfl, rfl⟩ rfl rfl rfl rfl rfl (by kernel_rfl) Tryd.func3 (by kernel_rfl)
    (of_decide_eq_true (by kernel_rfl)) (by unfold Func.isWrapper; first | (rw [if_pos (by decide +kernel)]; kernel_rfl) | (rw [if_neg (by decide +kernel)]; exact ⟨rfl, rfl⟩))
    (fun os started H enc _ => lifted os started H enc)

/-- the tied card -/
theorem proved : Rows.TokenSpacesCardSaid :=
  Claim7.holds_tied_plain_at .later [] [.data, .data, .data, .sentinel, .sentinel] true (true, "62c0e0e96b186542d320bd5fe24d4da4f1519c46bb236dad17c4b7e9d6b54aa8") true
    over (fun _ h => by cases h) (by kernel_rfl) (fun _ h => by cases h) tokenSpaces_row_tie rfl ⟨rfl, rfl⟩ (by kernel_rfl) rfl
    (fun f fn hf hfn => by
      obtain rfl : f = 3 := Option.some.inj ((show Tryd.prog.funcNamed "warmpath/warmpathlaw03.TokenSpaces" = some 3 by kernel_rfl).symm.trans hf) |>.symm
      obtain rfl : fn = Tryd.f3 := (Option.some.inj (Tryd.func3.symm.trans hfn)).symm
      exact ⟨by kernel_rfl, fun j t ht => by
        rw [Tryd.params3] at ht
        have hm : t ∈ [22] := by simpa using Array.mem_of_getElem? ht
        have hall : ([22].all fun u => !Tryd.prog.wantsStandIn u) = true := by kernel_rfl
        exact (show Tryd.prog.wantsStandIn t = false by simpa using List.all_eq_true.1 hall t hm)⟩)
    (by kernel_rfl)
#print axioms proved
end Go.Proofs.YthcagbplolcbpaaDoor.tokenSpaces
