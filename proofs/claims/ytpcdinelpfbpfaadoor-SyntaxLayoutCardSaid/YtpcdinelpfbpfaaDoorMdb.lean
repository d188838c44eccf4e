/-
  WALK of expr. (Filled in from a template of this repo, printed by mk_dtf.py.)
  WORDS: statements in memory, and what the makers of statements leave. (Filled in from a template of this repo.)
  WALK of fresh. (Filled in from a template of this repo.)
  WORDS: the world in the midst of a maker of statements. (Filled in from a template of this repo.)
  WALK of block, where stmt is known. (Filled in from a template of this repo.)
-/
import Derived.Test.YtpcdinelpfbpfaaDoorMda
import Derived.Test.YtpcdinelpfbpfaaDoorMst
namespace Go.Proofs.YtpcdinelpfbpfaaDoor
open Go.ChangeShapes Go.WideShapes Go.ChangeAt Go.RowKit
set_option linter.unusedVariables false
set_option linter.unusedSimpArgs false

theorem ExPost.open {gc gm d:Nat} {w w':World} {e:Ending} (h:ExPost gc gm d w e w') : ∃ hd ar a c,e=.returned (exv hd (.slice a ar.len c))/\Hid (ArgsAt w' (fun b=>w.heap.size<=b) ar (.slice a ar.len c)/\goodE d hd ar/\Cod w' gc/\w.grownBy w' (some gc)):=by
 obtain⟨hd,ar,sl,rfl,ha,hE,hc,hg⟩:=h
 have ha2:=ha
 obtain⟨a,c,rws,rfl,_⟩:=ha2
 exact⟨hd,ar,a,c,rfl,Lib.hid ⟨ha,hE,hc,hg⟩⟩
set_option maxRecDepth 100000 in
set_option maxHeartbeats 8000000 in
theorem expr_zero (gc gm d:Nat) (M:Mk) (w:World) (h:MkAt w gc gm M):Calls Tryd.prog 46 #[.pointer (some ⟨gm,0,none⟩),.int .i64 0] w (ExPost gc gm d w):=by
 have hx:=ExW.start h
 have HL:Hid (gc<w.heap.size):=Lib.hid (by have:=h.lt2;omega)
 have HLF:=Lib.hid (fun W (hW:MkAt W gc gm M)=>leaf_any gc gm d M W hW)
 have HM:=Lib.hid h
 go_enter Tryd.func46,Tryd.ntmps46
 go_upto_region 1 with fail
 obtain⟨w1,hw1⟩ : ∃ w1,w.alloc zex=w1:=⟨_,rfl⟩
 rw [hw1] at hx ⊢
 obtain⟨g,hg⟩ : ∃ g,w.heap.size=g:=⟨_,rfl⟩
 rw [hg] at hx HL ⊢
 have HX:=Lib.hid hx
 have hlt2:=hx.mkr.lt2
 have c0:=cell_of_row _ _ 0 _ _ _ hx.mkr.row
 clear hw1 hx h hg
 go_wp2_with fail
 refine(HLF.out _ HX.out.mkr).mono ?_
 intro e wl hpl
 obtain⟨hd,ar,sa,sc,rfl,HR⟩:=hpl.open
 clear hpl
 have HXl:=Lib.hid (HX.out.grown HL.out HR.out.2.2.2 HR.out.2.2.1)
 have HAl:Hid (ArgsAt wl (fun b=>g<b) ar (.slice sa ar.len sc)):=Lib.hid (HR.out.1.keep (fun b hb _=>⟨rfl,Nat.lt_of_lt_of_le HX.out.lts hb⟩) (Nat.le_refl _))
 obtain⟨jl,f0,f1,f2,f3,f4,f5,r0,r1,r2,r3,r4,r5⟩:=HXl.out.cells
 go_wp2_with fail
 obtain⟨q0,q1,q2,q3,q4,q5,HFN⟩:=HXl.out.fin HL.out (hd:=hd) (ar:=ar) (sl:=.slice sa ar.len sc) (d:=d) HAl.out HR.out.2.1 _ rfl
 refine bodyPost_ret (v:=exv hd (.slice sa ar.len sc)) (by simp [results,Tryd.results46,go_sem,q0,q1,q2,q3,q4,q5]) rfl ?_
 exact HFN.out
set_option maxRecDepth 100000 in
set_option maxHeartbeats 8000000 in
theorem expr_succ (gc gm d:Nat) (M:Mk) (hd63:d<=1000) (HE : ∀ W,MkAt W gc gm M->Calls Tryd.prog 46 #[.pointer (some ⟨gm,0,none⟩),.int .i64 (d:Int)] W (ExPost gc gm d W)) (w:World) (h:MkAt w gc gm M):Calls Tryd.prog 46 #[.pointer (some ⟨gm,0,none⟩),.int .i64 ((d:Int)+1)] w (ExPost gc gm (d+1) w):=by
 have hx:=ExW.start h
 have HEX:=Lib.hid HE
 have HCL:=Lib.hid (fun W (hW:MkAt W gc gm M)=>(call_any gc gm d M hd63 HE W hW).mono (fun _ _ hp=>hp.1))
 clear HE
 have HL:Hid (gc<w.heap.size):=Lib.hid (by have:=h.lt2;omega)
 have HLF:=Lib.hid (fun W (hW:MkAt W gc gm M)=>leaf_any gc gm (d+1) M W hW)
 have HPK:=Lib.hid (fun W (hW:MkAt W gc gm M)=>pick_any gc gm M true W hW)
 have HM:=Lib.hid h
 have d0:decide ((d:Int)+1<1)=false:=by rw [decide_eq_false_iff_not];omega
 go_enter Tryd.func46,Tryd.ntmps46
 go_upto_region 1 with fail
 obtain⟨w1,hw1⟩ : ∃ w1,w.alloc zex=w1:=⟨_,rfl⟩
 rw [hw1] at hx ⊢
 obtain⟨g,hg⟩ : ∃ g,w.heap.size=g:=⟨_,rfl⟩
 rw [hg] at hx HL ⊢
 have HX0:=Lib.hid hx
 have hlt2:=hx.mkr.lt2
 have c0:=cell_of_row _ _ 0 _ _ _ hx.mkr.row
 clear hw1 hx h hg
 go_wp2_with fail
 refine(Next_any gc 3 (by omega) _ HX0.out.mkr.cod).mono ?_
 rintro e w2 ⟨x,rfl,x0,x1,hcod,hg⟩
 have HX:=Lib.hid (HX0.out.grown HL.out hg hcod)
 clear c0 hcod hg HX0 hlt2
 clear w1
 by_cases hx0:x=0
 ·subst hx0
  clear x0 x1
  go_wp2_with fail
  refine(HLF.out _ HX.out.mkr).mono ?_
  intro e wl hpl
  obtain⟨hd,ar,sa,sc,rfl,HR⟩:=hpl.open
  clear hpl
  have HXl:=Lib.hid (HX.out.grown HL.out HR.out.2.2.2 HR.out.2.2.1)
  have HAl:Hid (ArgsAt wl (fun b=>g<b) ar (.slice sa ar.len sc)):=Lib.hid (HR.out.1.keep (fun b hb _=>⟨rfl,Nat.lt_of_lt_of_le HX.out.lts hb⟩) (Nat.le_refl _))
  obtain⟨jl,f0,f1,f2,f3,f4,f5,r0,r1,r2,r3,r4,r5⟩:=HXl.out.cells
  go_wp2_with fail
  obtain⟨q0,q1,q2,q3,q4,q5,HFN⟩:=HXl.out.fin HL.out (hd:=hd) (ar:=ar) (sl:=.slice sa ar.len sc) (d:=d+1) HAl.out HR.out.2.1 _ rfl
  refine bodyPost_ret (v:=exv hd (.slice sa ar.len sc)) (by simp [results,Tryd.results46,go_sem,q0,q1,q2,q3,q4,q5]) rfl ?_
  exact HFN.out
 have dx:(x==0)=false:=by rw [beq_eq_false_iff_ne];exact hx0
 clear hx0 x0 x1
 go_wp2_with fail
 refine(Next_any gc 9 (by omega) _ HX.out.mkr.cod).mono ?_
 rintro e w3 ⟨y,rfl,y0,y1,hcod,hg⟩
 have HX3:=Lib.hid (HX.out.grown HL.out hg hcod)
 clear hcod hg HX
 clear w2
 have y2:y<9:=by omega
 clear y1
 go_upto_block 0 with fail
 go_cut [6,7] from 23 to 78 (fun v6 v7 wx=>Hid (ExW w gc gm M g wx))
 case first =>
  by_cases e0:y=0
  ·subst e0
   clear y0 y2
   go_wp2_with fail
   refine(Next_any gc 2 (by omega) _ HX3.out.mkr.cod).mono ?_
   rintro e w3b ⟨z,rfl,z0,z1,hcod,hg⟩
   have HX3b:=Lib.hid (HX3.out.grown HL.out hg hcod)
   clear hcod hg
   have z2:z<2:=by omega
   go_wp2_with fail
   refine(HEX.out _ HX3b.out.mkr).mono ?_
   intro e w4 hp4
   obtain⟨h4,ar4,a4,k4,rfl,HR4⟩:=hp4.open
   clear hp4
   have HX4:=Lib.hid (HX3b.out.grown HL.out HR4.out.2.2.2 HR4.out.2.2.1)
   go_wp2_with fail
   have HFA:Hid (FoAt w4 (fun b=>g<b) (one1 h4 ar4) (hdc h4 (.slice a4 ar4.len k4))):=Lib.hid (ArgsAt.one (HR4.out.1.keep (fun b hb _=>⟨rfl,Nat.lt_of_lt_of_le HX3b.out.lts hb⟩) (Nat.le_refl _)))
   have HAM:=Lib.hid (args_made (Q:=fun b=>g<b) HFA.out (by simp [Fo.len,maxLen]) (fun b hb _=>hb) HX4.out.lts)
   have HXA:=Lib.hid (HX4.out.below (below_alloc w4 (.cells (hdc h4 (.slice a4 ar4.len k4)).toArray 40)))
   refine(node_any _ _ _ _ _ _).mono ?_
   rintro e wn ⟨rfl,hbn⟩
   have HXN:=Lib.hid (HXA.out.below hbn)
   have HAN:=Lib.hid (HAM.out.keep (fun b hb hlt=>⟨hbn.block b hlt,hb⟩) hbn.size)
   clear hbn
   obtain⟨jl,f0,f1,f2,f3,f4,f5,r0,r1,r2,r3,r4,r5⟩:=HXN.out.cells
   go_wp2_with fail
   obtain⟨q0,q1,q2,q3,q4,q5,HFN⟩:=HXN.out.fin HL.out (hd:=⟨5,1+z,0,0,[]⟩) (ar:=(one1 h4 ar4)) (sl:=.slice (some ⟨w4.heap.size,0,none⟩) 1 1) (d:=d+1) HAN.out (goodE.up (.inr (.inr ⟨rfl,rfl,.inl ⟨rfl,by show (1:Int)<=1+z;omega,by show 1+z<=2;omega,rfl⟩⟩)) rfl (goodF.cons (goodF.nil d) HR4.out.2.1) (by simp [Fo.len])) _ rfl
   refine bodyPost_ret (v:=exv ⟨5,1+z,0,0,[]⟩ (.slice (some ⟨w4.heap.size,0,none⟩) 1 1)) (by simp [results,Tryd.results46,go_sem,Fo.len,q0,q1,q2,q3,q4,q5]) rfl ?_
   exact HFN.out
  by_cases e1:y=1
  ·subst e1
   clear y0 y2
   go_wp2_with fail
   refine(HEX.out _ HX3.out.mkr).mono ?_
   intro e w4 hp4
   obtain⟨h4,ar4,a4,k4,rfl,HR4⟩:=hp4.open
   clear hp4
   have HX4:=Lib.hid (HX3.out.grown HL.out HR4.out.2.2.2 HR4.out.2.2.1)
   go_wp2_with fail
   refine(HEX.out _ HX4.out.mkr).mono ?_
   intro e w5 hp5
   obtain⟨h5,ar5,a5,k5,rfl,HR5⟩:=hp5.open
   clear hp5
   have HX5:=Lib.hid (HX4.out.grown HL.out HR5.out.2.2.2 HR5.out.2.2.1)
   go_wp2_with fail
   have HFA:Hid (FoAt w5 (fun b=>g<b) (.cons h4 ar4 (one1 h5 ar5)) (hdc h4 (.slice a4 ar4.len k4)++hdc h5 (.slice a5 ar5.len k5))):=Lib.hid (FoAt.app (F:=one1 h4 ar4) (ArgsAt.one (HR4.out.1.keep (fun b hb hlt=>⟨HR5.out.2.2.2.block b hlt (by simp;have:=HL.out;have:=HX3.out.lts;omega),Nat.lt_of_lt_of_le HX3.out.lts hb⟩) HR5.out.2.2.2.size)) (ArgsAt.one (HR5.out.1.keep (fun b hb _=>⟨rfl,Nat.lt_of_lt_of_le HX4.out.lts hb⟩) (Nat.le_refl _))))
   have HAM:=Lib.hid (args_made (Q:=fun b=>g<b) HFA.out (by simp [Fo.len,maxLen]) (fun b hb _=>hb) HX5.out.lts)
   have HXA:=Lib.hid (HX5.out.below (below_alloc w5 (.cells (hdc h4 (.slice a4 ar4.len k4)++hdc h5 (.slice a5 ar5.len k5)).toArray 40)))
   refine(node_any _ _ _ _ _ _).mono ?_
   rintro e wn ⟨rfl,hbn⟩
   have HXN:=Lib.hid (HXA.out.below hbn)
   have HAN:=Lib.hid (HAM.out.keep (fun b hb hlt=>⟨hbn.block b hlt,hb⟩) hbn.size)
   clear hbn
   obtain⟨jl,f0,f1,f2,f3,f4,f5,r0,r1,r2,r3,r4,r5⟩:=HXN.out.cells
   go_wp2_with fail
   obtain⟨q0,q1,q2,q3,q4,q5,HFN⟩:=HXN.out.fin HL.out (hd:=⟨7,0,0,0,[]⟩) (ar:=(.cons h4 ar4 (one1 h5 ar5))) (sl:=.slice (some ⟨w5.heap.size,0,none⟩) 2 2) (d:=d+1) HAN.out (goodE.up (.inl ⟨rfl,rfl,.inr (.inr (.inr (.inr (.inl ⟨.inl rfl,rfl,rfl⟩))))⟩) rfl (goodF.cons (goodF.cons (goodF.nil d) HR5.out.2.1) HR4.out.2.1) (by simp [Fo.len])) _ rfl
   refine bodyPost_ret (v:=exv ⟨7,0,0,0,[]⟩ (.slice (some ⟨w5.heap.size,0,none⟩) 2 2)) (by simp [results,Tryd.results46,go_sem,Fo.len,q0,q1,q2,q3,q4,q5]) rfl ?_
   exact HFN.out
  by_cases e2:y=2
  ·subst e2
   clear y0 y2
   go_wp2_with fail
   refine(HEX.out _ HX3.out.mkr).mono ?_
   intro e w4 hp4
   obtain⟨h4,ar4,a4,k4,rfl,HR4⟩:=hp4.open
   clear hp4
   have HX4:=Lib.hid (HX3.out.grown HL.out HR4.out.2.2.2 HR4.out.2.2.1)
   go_wp2_with fail
   refine(HEX.out _ HX4.out.mkr).mono ?_
   intro e w5 hp5
   obtain⟨h5,ar5,a5,k5,rfl,HR5⟩:=hp5.open
   clear hp5
   have HX5:=Lib.hid (HX4.out.grown HL.out HR5.out.2.2.2 HR5.out.2.2.1)
   go_wp2_with fail
   have HFA:Hid (FoAt w5 (fun b=>g<b) (.cons h4 ar4 (one1 h5 ar5)) (hdc h4 (.slice a4 ar4.len k4)++hdc h5 (.slice a5 ar5.len k5))):=Lib.hid (FoAt.app (F:=one1 h4 ar4) (ArgsAt.one (HR4.out.1.keep (fun b hb hlt=>⟨HR5.out.2.2.2.block b hlt (by simp;have:=HL.out;have:=HX3.out.lts;omega),Nat.lt_of_lt_of_le HX3.out.lts hb⟩) HR5.out.2.2.2.size)) (ArgsAt.one (HR5.out.1.keep (fun b hb _=>⟨rfl,Nat.lt_of_lt_of_le HX4.out.lts hb⟩) (Nat.le_refl _))))
   have HAM:=Lib.hid (args_made (Q:=fun b=>g<b) HFA.out (by simp [Fo.len,maxLen]) (fun b hb _=>hb) HX5.out.lts)
   have HXA:=Lib.hid (HX5.out.below (below_alloc w5 (.cells (hdc h4 (.slice a4 ar4.len k4)++hdc h5 (.slice a5 ar5.len k5)).toArray 40)))
   refine(node_any _ _ _ _ _ _).mono ?_
   rintro e wn ⟨rfl,hbn⟩
   have HXN:=Lib.hid (HXA.out.below hbn)
   have HAN:=Lib.hid (HAM.out.keep (fun b hb hlt=>⟨hbn.block b hlt,hb⟩) hbn.size)
   clear hbn
   obtain⟨jl,f0,f1,f2,f3,f4,f5,r0,r1,r2,r3,r4,r5⟩:=HXN.out.cells
   go_wp2_with fail
   obtain⟨q0,q1,q2,q3,q4,q5,HFN⟩:=HXN.out.fin HL.out (hd:=⟨8,0,0,0,[]⟩) (ar:=(.cons h4 ar4 (one1 h5 ar5))) (sl:=.slice (some ⟨w5.heap.size,0,none⟩) 2 2) (d:=d+1) HAN.out (goodE.up (.inl ⟨rfl,rfl,.inr (.inr (.inr (.inr (.inl ⟨.inr rfl,rfl,rfl⟩))))⟩) rfl (goodF.cons (goodF.cons (goodF.nil d) HR5.out.2.1) HR4.out.2.1) (by simp [Fo.len])) _ rfl
   refine bodyPost_ret (v:=exv ⟨8,0,0,0,[]⟩ (.slice (some ⟨w5.heap.size,0,none⟩) 2 2)) (by simp [results,Tryd.results46,go_sem,Fo.len,q0,q1,q2,q3,q4,q5]) rfl ?_
   exact HFN.out
  by_cases e3:y=3
  ·subst e3
   clear y0 y2
   go_wp2_with fail
   refine(HCL.out _ HX3.out.mkr).mono ?_
   intro e wl hpl
   obtain⟨hd,ar,sa,sc,rfl,HR⟩:=hpl.open
   clear hpl
   have HXl:=Lib.hid (HX3.out.grown HL.out HR.out.2.2.2 HR.out.2.2.1)
   have HAl:Hid (ArgsAt wl (fun b=>g<b) ar (.slice sa ar.len sc)):=Lib.hid (HR.out.1.keep (fun b hb _=>⟨rfl,Nat.lt_of_lt_of_le HX3.out.lts hb⟩) (Nat.le_refl _))
   obtain⟨jl,f0,f1,f2,f3,f4,f5,r0,r1,r2,r3,r4,r5⟩:=HXl.out.cells
   go_wp2_with fail
   obtain⟨q0,q1,q2,q3,q4,q5,HFN⟩:=HXl.out.fin HL.out (hd:=hd) (ar:=ar) (sl:=.slice sa ar.len sc) (d:=d+1) HAl.out HR.out.2.1 _ rfl
   refine bodyPost_ret (v:=exv hd (.slice sa ar.len sc)) (by simp [results,Tryd.results46,go_sem,q0,q1,q2,q3,q4,q5]) rfl ?_
   exact HFN.out
  by_cases e4:y=4
  ·subst e4
   clear y0 y2
   go_wp2_with fail
   refine(HCL.out _ HX3.out.mkr).mono ?_
   intro e wl hpl
   obtain⟨hd,ar,sa,sc,rfl,HR⟩:=hpl.open
   clear hpl
   have HXl:=Lib.hid (HX3.out.grown HL.out HR.out.2.2.2 HR.out.2.2.1)
   have HAl:Hid (ArgsAt wl (fun b=>g<b) ar (.slice sa ar.len sc)):=Lib.hid (HR.out.1.keep (fun b hb _=>⟨rfl,Nat.lt_of_lt_of_le HX3.out.lts hb⟩) (Nat.le_refl _))
   obtain⟨jl,f0,f1,f2,f3,f4,f5,r0,r1,r2,r3,r4,r5⟩:=HXl.out.cells
   go_wp2_with fail
   obtain⟨q0,q1,q2,q3,q4,q5,HFN⟩:=HXl.out.fin HL.out (hd:=hd) (ar:=ar) (sl:=.slice sa ar.len sc) (d:=d+1) HAl.out HR.out.2.1 _ rfl
   refine bodyPost_ret (v:=exv hd (.slice sa ar.len sc)) (by simp [results,Tryd.results46,go_sem,q0,q1,q2,q3,q4,q5]) rfl ?_
   exact HFN.out
  by_cases e5:y=5
  ·subst e5
   clear y0 y2
   go_wp2_with fail
   refine(HPK.out _ HX3.out.mkr).mono ?_
   rintro e w3b ⟨nm,ok,rfl,hpk,hcod,hg⟩
   have HX3b:=Lib.hid (HX3.out.grown HL.out hg hcod)
   cases ok
   ·clear hpk hg hcod
    go_wp2_with fail
    go_meet
    exact HX3b
   ·have HOK:=Lib.hid ((hpk rfl).nm HM.out)
    clear hpk hg hcod
    go_wp2_with fail
    refine(HEX.out _ HX3b.out.mkr).mono ?_
    intro e w4 hp4
    obtain⟨h4,ar4,a4,k4,rfl,HR4⟩:=hp4.open
    clear hp4
    have HX4:=Lib.hid (HX3b.out.grown HL.out HR4.out.2.2.2 HR4.out.2.2.1)
    have HFA:Hid (FoAt w4 (fun b=>g<b) (one1 h4 ar4) (hdc h4 (.slice a4 ar4.len k4))):=Lib.hid (ArgsAt.one (HR4.out.1.keep (fun b hb _=>⟨rfl,Nat.lt_of_lt_of_le HX3b.out.lts hb⟩) (Nat.le_refl _)))
    have HAN:=Lib.hid (args_made (Q:=fun b=>g<b) HFA.out (by simp [Fo.len,maxLen]) (fun b hb _=>hb) HX4.out.lts)
    have HXN:=Lib.hid (HX4.out.below (below_alloc w4 (.cells (hdc h4 (.slice a4 ar4.len k4)).toArray 40)))
    have hg4:g<w4.heap.size:=HX4.out.lts
    obtain⟨jl,f0,f1,f2,f3,f4,f5,r0,r1,r2,r3,r4,r5⟩:=HX4.out.cells
    go_wp2_with fail
    obtain⟨q0,q1,q2,q3,q4,q5,HFN⟩:=HXN.out.fin HL.out (hd:=⟨4,0,0,0,nm⟩) (ar:=one1 h4 ar4) (sl:=.slice (some ⟨w4.heap.size,0,none⟩) 1 1) (d:=d+1) HAN.out (goodE.up (.inl ⟨rfl,rfl,.inr (.inr (.inr (.inl ⟨rfl,HOK.out,rfl⟩)))⟩) rfl (goodF.cons (goodF.nil d) HR4.out.2.1) (by simp [Fo.len])) _ (set6_alloc _ hg4).symm
    refine bodyPost_ret (v:=exv ⟨4,0,0,0,nm⟩ (.slice (some ⟨w4.heap.size,0,none⟩) 1 1)) (by simp [results,Tryd.results46,go_sem,Fo.len,q0,q1,q2,q3,q4,q5]) rfl ?_
    exact HFN.out
  have d0:(y==0)=false:=by rw [beq_eq_false_iff_ne];exact e0
  have d1:(y==1)=false:=by rw [beq_eq_false_iff_ne];exact e1
  have d2:(y==2)=false:=by rw [beq_eq_false_iff_ne];exact e2
  have d3:(y==3)=false:=by rw [beq_eq_false_iff_ne];exact e3
  have d4:(y==4)=false:=by rw [beq_eq_false_iff_ne];exact e4
  have d5:(y==5)=false:=by rw [beq_eq_false_iff_ne];exact e5
  clear e0 e1 e2 e3 e4 e5 y0 y2
  go_wp2_with fail
  go_meet
  exact HX3
 case rest =>
  have HX3b:=hcut
  clear HX3 hcut y0 y2
  go_wp2_with fail
  refine(Next_any gc 9 (by omega) _ HX3b.out.mkr.cod).mono ?_
  rintro e w3 ⟨z,rfl,z0,z1,hcod,hg⟩
  have HX3:=Lib.hid (HX3b.out.grown HL.out hg hcod)
  clear hcod hg HX3b
  have z2:z<9:=by omega
  clear z1
  go_wp2_with fail
  refine(HEX.out _ HX3.out.mkr).mono ?_
  intro e w4 hp4
  obtain⟨h4,ar4,a4,k4,rfl,HR4⟩:=hp4.open
  clear hp4
  have HX4:=Lib.hid (HX3.out.grown HL.out HR4.out.2.2.2 HR4.out.2.2.1)
  go_wp2_with fail
  refine(HEX.out _ HX4.out.mkr).mono ?_
  intro e w5 hp5
  obtain⟨h5,ar5,a5,k5,rfl,HR5⟩:=hp5.open
  clear hp5
  have HX5:=Lib.hid (HX4.out.grown HL.out HR5.out.2.2.2 HR5.out.2.2.1)
  go_wp2_with fail
  have HFA:Hid (FoAt w5 (fun b=>g<b) (.cons h4 ar4 (one1 h5 ar5)) (hdc h4 (.slice a4 ar4.len k4)++hdc h5 (.slice a5 ar5.len k5))):=Lib.hid (FoAt.app (F:=one1 h4 ar4) (ArgsAt.one (HR4.out.1.keep (fun b hb hlt=>⟨HR5.out.2.2.2.block b hlt (by simp;have:=HL.out;have:=HX3.out.lts;omega),Nat.lt_of_lt_of_le HX3.out.lts hb⟩) HR5.out.2.2.2.size)) (ArgsAt.one (HR5.out.1.keep (fun b hb _=>⟨rfl,Nat.lt_of_lt_of_le HX4.out.lts hb⟩) (Nat.le_refl _))))
  have HAM:=Lib.hid (args_made (Q:=fun b=>g<b) HFA.out (by simp [Fo.len,maxLen]) (fun b hb _=>hb) HX5.out.lts)
  have HXA:=Lib.hid (HX5.out.below (below_alloc w5 (.cells (hdc h4 (.slice a4 ar4.len k4)++hdc h5 (.slice a5 ar5.len k5)).toArray 40)))
  refine(node_any _ _ _ _ _ _).mono ?_
  rintro e wn ⟨rfl,hbn⟩
  have HXN:=Lib.hid (HXA.out.below hbn)
  have HAN:=Lib.hid (HAM.out.keep (fun b hb hlt=>⟨hbn.block b hlt,hb⟩) hbn.size)
  clear hbn
  obtain⟨jl,f0,f1,f2,f3,f4,f5,r0,r1,r2,r3,r4,r5⟩:=HXN.out.cells
  go_wp2_with fail
  obtain⟨q0,q1,q2,q3,q4,q5,HFN⟩:=HXN.out.fin HL.out (hd:=⟨6,3+z,0,0,[]⟩) (ar:=(.cons h4 ar4 (one1 h5 ar5))) (sl:=.slice (some ⟨w5.heap.size,0,none⟩) 2 2) (d:=d+1) HAN.out (goodE.up (.inr (.inr ⟨rfl,rfl,.inr ⟨rfl,by show (3:Int)<=3+z;omega,by show 3+z<=11;omega,rfl⟩⟩)) rfl (goodF.cons (goodF.cons (goodF.nil d) HR5.out.2.1) HR4.out.2.1) (by simp [Fo.len])) _ rfl
  refine bodyPost_ret (v:=exv ⟨6,3+z,0,0,[]⟩ (.slice (some ⟨w5.heap.size,0,none⟩) 2 2)) (by simp [results,Tryd.results46,go_sem,Fo.len,q0,q1,q2,q3,q4,q5]) rfl ?_
  exact HFN.out
theorem expr_any (gc gm d:Nat) (M:Mk) (hd63:d<=1000) (w:World) (h:MkAt w gc gm M):Calls Tryd.prog 46 #[.pointer (some ⟨gm,0,none⟩),.int .i64 (d:Int)] w (ExPost gc gm d w):=by
 induction d generalizing w with
 | zero=>exact expr_zero gc gm 0 M w h
 | succ d ih=>exact expr_succ gc gm d M (by omega) (fun W hW=>ih (by omega) W hW) w h
theorem call2_any (gc gm:Nat) (M:Mk) (w:World) (h:MkAt w gc gm M):Calls Tryd.prog 49 #[.pointer (some ⟨gm,0,none⟩),.int .i64 2] w (CallPost gc gm 2 w) :=
 call_any gc gm 1 M (by omega) (fun W hW=>expr_any gc gm 1 M (by omega) W hW) w h
end Go.Proofs.YtpcdinelpfbpfaaDoor
namespace Go.Proofs.YtpcdinelpfbpfaaDoor
open Go.ChangeShapes Go.WideShapes Go.ChangeAt Go.RowKit
set_option linter.unusedVariables false
set_option linter.unusedSimpArgs false

structure Chg (w w':World) (gc gm:Nat) (M M':Mk):Prop where
 os:w'.os=w.os
 tape:w'.tape=w.tape
 output:w'.output=w.output
 size:w.heap.size<=w'.heap.size
 block : ∀ k,k<w.heap.size->k≠gc->k≠gm->some k≠M.vl.ownBlock->w'.heap[k]?=w.heap[k]?
 vl : ∀ k,M'.vl.ownBlock=some k->k<w.heap.size->M.vl.ownBlock=some k
 ga:M'.va=M.va
 gb:M'.vb=M.vb
 gg:M'.gs=M.gs
 gf:M'.fs=M.fs
theorem Chg.trans {w w1 w2:World} {gc gm:Nat} {M M1 M2:Mk} (h:Chg w w1 gc gm M M1) (k:Chg w1 w2 gc gm M1 M2):Chg w w2 gc gm M M2 :=
 ⟨k.os.trans h.os,k.tape.trans h.tape,k.output.trans h.output,Nat.le_trans h.size k.size,
  fun i hi h1 h2 h3=>(k.block i (Nat.lt_of_lt_of_le hi h.size) h1 h2 (fun e=>h3 (h.vl i e.symm hi).symm)).trans (h.block i hi h1 h2 h3),
  fun i hi hlt=>h.vl i (k.vl i hi (Nat.lt_of_lt_of_le hlt h.size)) hlt,k.ga.trans h.ga,k.gb.trans h.gb,k.gg.trans h.gg,k.gf.trans h.gf⟩
theorem Chg.of_grown {w w':World} {gc gm:Nat} {M:Mk} (hg:w.grownBy w' (some gc)):Chg w w' gc gm M M :=
 ⟨hg.os,hg.tape,hg.output,hg.size,fun k hk h1 _ _=>hg.block k hk (fun e=>h1 (by injection e)),fun k hk _=>hk,rfl,rfl,rfl,rfl⟩
theorem Chg.of_below {w w':World} {gc gm:Nat} {M:Mk} (hb:Below w.heap.size w w'):Chg w w' gc gm M M:=Chg.of_grown (grownBy_of_below hb _)
def TB (lo:Nat) (M:Mk):Nat->Prop:=fun b=>lo<=b/\some b≠M.vl.ownBlock
theorem Chg.kp {w w':World} {gc gm lo:Nat} {M M':Mk} (h:Chg w w' gc gm M M') (h1:gc<lo) (h2:gm<lo) : ∀ b,TB lo M b->b<w.heap.size->w'.heap[b]?=w.heap[b]?/\TB lo M' b :=
 fun b hb hlt=>⟨h.block b hlt (by have:=hb.1;omega) (by have:=hb.1;omega) hb.2,hb.1,fun e=>hb.2 (h.vl b e.symm hlt).symm⟩
theorem StsAt.chg {w w':World} {gc gm lo:Nat} {M M':Mk} {S:Sf} {sl:Value} (h:StsAt w (TB lo M) S sl) (hc:Chg w w' gc gm M M') (h1:gc<lo) (h2:gm<lo):StsAt w' (TB lo M') S sl:=h.keep (hc.kp h1 h2) hc.size
theorem ArgsAt.chg {w w':World} {gc gm lo:Nat} {M M':Mk} {F:Fo} {sl:Value} (h:ArgsAt w (TB lo M) F sl) (hc:Chg w w' gc gm M M') (h1:gc<lo) (h2:gm<lo):ArgsAt w' (TB lo M') F sl:=h.keep (hc.kp h1 h2) hc.size
theorem SfAt.chg {w w':World} {gc gm lo:Nat} {M M':Mk} {S:Sf} {cs:List Value} (h:SfAt w (TB lo M) S cs) (hc:Chg w w' gc gm M M') (h1:gc<lo) (h2:gm<lo):SfAt w' (TB lo M') S cs:=h.keep (hc.kp h1 h2) hc.size
theorem TB.of {w:World} {gc gm lo:Nat} {M:Mk} (hM:MkAt w gc gm M) (hlo:lo<=w.heap.size) : ∀ b,w.heap.size<=b->TB lo M b:=fun b hb =>
 ⟨by omega,fun e=>by have:=(hM.lo.lt b e.symm).2;omega⟩
def StPost (gc gm deep:Nat) (M:Mk) (w:World) (e:Ending) (w':World):Prop :=
 ∃ (k:Int) (nm:Bt) (xs:Fo) (th el:Sf) (slx slt sle:Value) (M':Mk),e=.returned (stv k 0 nm slx slt sle) /\
  ArgsAt w' (TB w.heap.size M') xs slx/\StsAt w' (TB w.heap.size M') th slt/\StsAt w' (TB w.heap.size M') el sle /\
  Chg w w' gc gm M M'/\MkAt w' gc gm M'/\0<=M'.bud/\M'.ls.length+M'.bud<=9 /\
  (oneS k 0 nm xs th el).wf/\((oneS k 0 nm xs th el).cst:Int)<=1300+1300 * (M.bud - M'.bud)/\(oneS k 0 nm xs th el).nst<=deep+1/\(oneS k 0 nm xs th el).hgt<=3
def BkPost (gc gm deep:Nat) (M:Mk) (w:World) (e:Ending) (w':World):Prop :=
 ∃ (S:Sf) (sl:Value) (xs:List Value) (M':Mk),e=.returned sl/\w'.ownsRow w.heap.size 83 6 sl S.len xs/\SfAt w' (fun b=>TB w.heap.size M' b/\some b≠sl.ownBlock) S xs/\Chg w w' gc gm M M'/\MkAt w' gc gm M'/\0<=M'.bud/\M'.ls.length+M'.bud<=9 /\
  S.wf/\(S.cst:Int)<=1300 * (M.bud - M'.bud)/\S.nst<=deep+1/\S.hgt<=3
end Go.Proofs.YtpcdinelpfbpfaaDoor
namespace Go.Proofs.YtpcdinelpfbpfaaDoor
open Go.ChangeShapes Go.WideShapes Go.ChangeAt Go.RowKit
set_option linter.unusedVariables false
set_option linter.unusedSimpArgs false

set_option maxRecDepth 100000 in
set_option maxHeartbeats 4000000 in
theorem fresh_any (gc gm:Nat) (M:Mk) (w:World) (h:MkAt w gc gm M):Calls Tryd.prog 44 #[.pointer (some ⟨gm,0,none⟩)] w fun e w'=>Below w.heap.size w w' /\ ∃ (nm:Bt) (ok:Bool),e=.returned (.tuple #[.string (st nm),.bool ok])/\(ok=true->okN nm):=by
 have HM:=Lib.hid h
 clear h
 have HNM:=Lib.hid (names_any w)
 go_enter Tryd.func44,Tryd.ntmps44
 go_wp2_with fail
 refine HNM.out.mono ?_
 rintro e w1 ⟨rfl,hw1⟩
 have hb:Below w.heap.size w w1:=by rw [hw1];exact below_alloc _ _
 have hn:=heap_alloc_new w (.cells (strs namesL).toArray 9)
 rw [<- hw1] at hn
 have HB:=Lib.hid hb
 have HM1:=Lib.hid (HM.out.below hb)
 obtain⟨gn,hgn⟩ : ∃ gn,w.heap.size=gn:=⟨_,rfl⟩
 rw [hgn] at hn ⊢
 have HN:Hid (∀ j x,namesL[j]?=some x->w1.cell? ⟨gn,j,none⟩=some (.string (st x))):=Lib.hid (fun j x hj=>by
  rw [cell_of_row w1 gn j _ _ _ hn]
  show (strs namesL).toArray[j]?=_
  rw [List.getElem?_toArray];unfold strs;rw [List.getElem?_map,hj];rfl)
 clear hw1 hb hn hgn HNM
 obtain⟨al,cl,hvl,hll,hlc1,hlc2,hls⟩:=LsAt.of_own HM1.out.lo
 have hln:=HM.out.ln
 have HLS:=Lib.hid hls
 have HVL:=Lib.hid hvl
 have HROW:Hid (∀ W,Below w1.heap.size w1 W->W.cell? ⟨gm,3,none⟩=some (.slice al M.ls.length cl)):=Lib.hid (fun W hW=>by
  rw [<- HVL.out];exact cell_of_row _ _ 3 _ _ _ (HM1.out.below hW).row)
 clear hvl hll hls
 go_upto_block 0 with fail
 go_wp2_with fail
 go_loopw [5] (fun v5 wr => ∃ i:Nat,i<=8/\v5=.int .i64 i/\Hid (Below w1.heap.size w1 wr)) (fun v5 _=>8 - (intOf v5).toNat)
 case atStart=>exact⟨0,by omega,rfl,Lib.hid (Below.refl _ _)⟩
 case round =>
  obtain⟨i,hi,rfl,HR⟩:=hrel
  by_cases hlt:i<8
  ·obtain⟨x,hx⟩ : ∃ x,namesL[i]?=some x:=⟨_,List.getElem?_eq_getElem hlt⟩
   have HNX:Hid (∀ W,Below w1.heap.size w1 W->W.cell? ⟨gn,i,none⟩=some (.string (st x))):=Lib.hid (fun W hW=>by
    have:=HN.out i x hx
    exact(hW.cell (p:=⟨gn,i,none⟩) (block_lt_of_cell this)).trans this)
   have HOK:Hid (okN x):=Lib.hid (namesL_ok x (List.mem_of_getElem? hx))
   clear hx
   go_upto_block 2 with fail
   go_wp2_with fail
   go_loopw [6,7] (fun v6 v7 wq => ∃ (k:Nat) (u:Bool),k<=M.ls.length/\v6=.bool u/\v7=.int .i64 k/\Hid (Below w1.heap.size w1 wq)) (fun _ v7 _=>M.ls.length - (intOf v7).toNat)
   case atStart=>exact⟨0,false,by omega,rfl,rfl,HR⟩
   case round =>
    clear HR
    obtain⟨k,u,hk,rfl,rfl,HR⟩:=hrel
    have c3:=HROW.out _ HR.out
    have hnx:=HNX.out _ HR.out
    by_cases hlk:k<M.ls.length
    ·obtain⟨y,hy⟩ : ∃ y,M.ls[k]?=some y:=⟨_,List.getElem?_eq_getElem hlk⟩
     obtain⟨bl,ol,rfl,hbl,hyc⟩:=HLS.out k y hy
     have hyc2:=(HR.out.cell (p:=⟨bl,ol+k,none⟩) hbl).trans hyc
     have k0:(0:Int)<=(k:Int):=by omega
     have k1:(k:Int)<(M.ls.length:Int):=by omega
     have i0:(0:Int)<=(i:Int):=by omega
     have i1:(i:Int)<8:=by omega
     clear hy hyc
     cases u
     ·obtain⟨bq,hbq⟩ : ∃ b,(st y==st x)=b:=⟨_,rfl⟩
      go_wp2_with fail
      go_quiet (fail)
      go_wp2_with fail
      go_roundw
      case rel=>exact⟨k+1,_,by omega,rfl,by go_num,Lib.hid (HR.out.trans ⟨rfl,rfl,rfl,Nat.le_refl _,fun _ _=>rfl⟩)⟩
      case measure=>simp [intOf];omega
     ·go_wp2_with fail
      go_quiet (fail)
      go_wp2_with fail
      go_roundw
      case rel=>exact⟨k+1,_,by omega,rfl,by go_num,Lib.hid (HR.out.trans ⟨rfl,rfl,rfl,Nat.le_refl _,fun _ _=>rfl⟩)⟩
      case measure=>simp [intOf];omega
    ·obtain rfl:k=M.ls.length:=by omega
     cases u
     ·go_wp2_with fail
      refine bodyPost_ret (v:=.tuple #[.string (st x),.bool true]) (by simp [results,Tryd.results44,go_sem]) rfl ?_
      exact⟨HB.out.trans (HR.out.mono HB.out.size),x,true,rfl,fun _=>HOK.out⟩
     ·go_wp2_with fail
      go_roundw
      case rel=>exact⟨i+1,by omega,by go_num,HR⟩
      case measure=>simp [intOf];omega
  ·obtain rfl:i=8:=by omega
   go_wp2_with fail
   refine bodyPost_ret (v:=.tuple #[.string (st []),.bool false]) (by simp [results,Tryd.results44,go_sem]) rfl ?_
   exact⟨HB.out.trans (HR.out.mono HB.out.size),[],false,rfl,fun h=>nomatch h⟩
end Go.Proofs.YtpcdinelpfbpfaaDoor
namespace Go.Proofs.YtpcdinelpfbpfaaDoor
open Go.ChangeShapes Go.WideShapes Go.ChangeAt Go.RowKit
set_option linter.unusedVariables false
set_option linter.unusedSimpArgs false

def TreeB (w:World) (k:Nat):Prop := ∃ cs t fr,w.heap[k]?=some (.cells cs t fr)/\(t=40\/t=83)
theorem TreeB.ne_own {w:World} {k base e size n:Nat} {v:Value} {xs:List Value} (h:TreeB w k) (ho:w.ownsRow base e size v n xs) (he:e≠40/\e≠83):v.ownBlock≠some k:=by
 obtain⟨cs,t,fr,h1,h2⟩:=h
 rcases ho.2 with⟨rfl,_⟩ | ⟨g,cap,cur,rfl,_,hg,_⟩
 ·intro e;cases e
 ·intro e1
  have e2:g=k:=by simpa [Value.ownBlock] using e1
  subst e2
  rw [hg] at h1
  injection h1 with h1
  injection h1 with _ h1 _
  subst h1
  rcases h2 with h2 | h2
  ·exact he.1 h2
  ·exact he.2 h2
theorem MkAt.tree {w w':World} {gc gm:Nat} {M:Mk} {r:Option Nat} (h:MkAt w gc gm M) (hg:w.grownBy w' r) (hr : ∀ k,r=some k->gc<k/\TreeB w k):MkAt w' gc gm M :=
 have hne : ∀ k,r=some k->k≠gm:=fun k hk e=>by
  subst e
  obtain⟨_,cs,t,fr,h1,h2⟩:=hr k hk
  rw [h.row] at h1
  injection h1 with h1
  injection h1 with _ h1 _
  subst h1
  rcases h2 with h2 | h2 <;> exact absurd h2 (by decide)
 have key : ∀ {e k n:Nat} {u:Value} {l:List Value},e≠40/\e≠83->w.ownsRow (gm+1) e k u n l->w'.ownsRow (gm+1) e k u n l:=fun {e k n u l} he h1=>by
  refine h1.kept hg ?_
  cases hq:u.ownBlock with
  | none=>exact .inl rfl
  | some q=>exact .inr (fun e1=>(hr q e1.symm).2.ne_own h1 he hq)
 {h with
  cod:=h.cod.keep fun k hk=>hg.block k (by have:=h.cod.lt;omega) (fun e=>by have:=(hr k e.symm).1;omega)
  row:=(hg.block gm (heap_lt h.row) (fun e=>hne gm e.symm rfl)).trans h.row
  gl:=key ⟨by decide,by decide⟩ h.gl
  fn:=key ⟨by decide,by decide⟩ h.fn
  lo:=key ⟨by decide,by decide⟩ h.lo }
theorem Chg.own {w wx wy:World} {gc gm:Nat} {M M':Mk} {r:Option Nat} (h:Chg w wx gc gm M M') (hg:wx.grownBy wy r) (hr : ∀ k,r=some k->w.heap.size<=k):Chg w wy gc gm M M' :=
 ⟨hg.os.trans h.os,hg.tape.trans h.tape,hg.output.trans h.output,Nat.le_trans h.size hg.size,
  fun k hk h1 h2 h3=>(hg.block k (Nat.lt_of_lt_of_le hk h.size) (fun e=>by have:=hr k e.symm;omega)).trans (h.block k hk h1 h2 h3),h.vl,h.ga,h.gb,h.gg,h.gf⟩
abbrev zst:Obj:=.cells #[.int .i64 0,.int .i64 0,.string { data := #[] },.slice none 0 0,.slice none 0 0,.slice none 0 0] 83 (0,0)
structure StW (w:World) (gc gm:Nat) (M M':Mk) (g:Nat) (wx:World):Prop where
 eg:g=w.heap.size
 row:wx.heap[g]?=some zst
 mkr:MkAt wx gc gm M'
 chg:Chg w wx gc gm M M'
 lc:gc<g
 lm:gm<g
theorem StW.start {w:World} {gc gm:Nat} {M:Mk} (h:MkAt w gc gm M):StW w gc gm M M w.heap.size (w.alloc zst) :=
 ⟨rfl,heap_alloc_new w _,h.below (below_alloc _ _),Chg.of_below (below_alloc _ _),by have:=h.lt2;omega,by have:=h.lt2;omega⟩
theorem StW.lts {w:World} {gc gm:Nat} {M M':Mk} {g:Nat} {wx:World} (h:StW w gc gm M M' g wx):g<wx.heap.size:=heap_lt h.row
theorem StW.tree {w:World} {gc gm:Nat} {M M':Mk} {g:Nat} {wx:World} (h:StW w gc gm M M' g wx):TreeB wx g:=⟨_,_,_,h.row,.inr rfl⟩
theorem StW.grown {w:World} {gc gm:Nat} {M M':Mk} {g:Nat} {wx wy:World} (h:StW w gc gm M M' g wx) (hg:wx.grownBy wy (some gc)) (hc:Cod wy gc):StW w gc gm M M' g wy :=
 ⟨h.eg,(hg.block g h.lts (fun e=>by injection e with e;have:=h.lc;omega)).trans h.row,h.mkr.grown hg hc,h.chg.trans (Chg.of_grown hg),h.lc,h.lm⟩
theorem StW.below {w:World} {gc gm:Nat} {M M':Mk} {g:Nat} {wx wy:World} (h:StW w gc gm M M' g wx) (hb:Below wx.heap.size wx wy):StW w gc gm M M' g wy :=
 h.grown (grownBy_of_below hb _) (h.mkr.cod.below hb h.mkr.cod.lt)
theorem StW.step {w:World} {gc gm:Nat} {M M1 M2:Mk} {g:Nat} {wx wy:World} (h:StW w gc gm M M1 g wx) (hc:Chg wx wy gc gm M1 M2) (hm:MkAt wy gc gm M2):StW w gc gm M M2 g wy :=
 ⟨h.eg,(hc.block g h.lts (by have:=h.lc;omega) (by have:=h.lm;omega) (fun e=>(h.tree.ne_own h.mkr.lo ⟨by decide,by decide⟩) e.symm)).trans h.row,hm,h.chg.trans hc,h.lc,h.lm⟩
theorem StW.cells {w:World} {gc gm:Nat} {M M':Mk} {g:Nat} {wx:World} (h:StW w gc gm M M' g wx) :
  g<wx.heap.size/\wx.frozen? ⟨g,0,none⟩=false/\wx.frozen? ⟨g,1,none⟩=false/\wx.frozen? ⟨g,2,none⟩=false/\wx.frozen? ⟨g,3,none⟩=false/\wx.frozen? ⟨g,4,none⟩=false/\wx.frozen? ⟨g,5,none⟩=false /\
  wx.cell? ⟨g,0,none⟩=some (.int .i64 0)/\wx.cell? ⟨g,1,none⟩=some (.int .i64 0)/\wx.cell? ⟨g,2,none⟩=some (.string { data := #[] })/\wx.cell? ⟨g,3,none⟩=some (.slice none 0 0)/\wx.cell? ⟨g,4,none⟩=some (.slice none 0 0)/\wx.cell? ⟨g,5,none⟩=some (.slice none 0 0) :=
 ⟨h.lts,frozen_of_row _ g 0 _ _ h.row,frozen_of_row _ g 1 _ _ h.row,frozen_of_row _ g 2 _ _ h.row,frozen_of_row _ g 3 _ _ h.row,frozen_of_row _ g 4 _ _ h.row,frozen_of_row _ g 5 _ _ h.row,cells6 h.row⟩
def goodS (deep:Nat) (M M':Mk) (k:Int) (nm:Bt) (xs:Fo) (th el:Sf):Prop :=
 0<=M'.bud/\M'.ls.length+M'.bud<=9/\(oneS k 0 nm xs th el).wf/\((oneS k 0 nm xs th el).cst:Int)<=1300+1300 * (M.bud - M'.bud)/\(oneS k 0 nm xs th el).nst<=deep+1/\(oneS k 0 nm xs th el).hgt<=3
theorem StW.fin {w:World} {gc gm deep:Nat} {M M':Mk} {g:Nat} {wx:World} (h:StW w gc gm M M' g wx) {k:Int} {nm:Bt} {xs:Fo} {th el:Sf} {slx slt sle:Value}
  (hx:ArgsAt wx (TB (g+1) M') xs slx) (ht:StsAt wx (TB (g+1) M') th slt) (he:StsAt wx (TB (g+1) M') el sle) (hG:goodS deep M M' k nm xs th el) :
  ∀ W,W=set6 wx g (.int .i64 k) (.int .i64 0) (.string (st nm)) slx slt sle ->
   W.cell? ⟨g,0,none⟩=some (.int .i64 k)/\W.cell? ⟨g,1,none⟩=some (.int .i64 0)/\W.cell? ⟨g,2,none⟩=some (.string (st nm))/\W.cell? ⟨g,3,none⟩=some slx/\W.cell? ⟨g,4,none⟩=some slt/\W.cell? ⟨g,5,none⟩=some sle/\Hid (StPost gc gm deep M w (.returned (stv k 0 nm slx slt sle)) W):=fun W hW=>by
 subst hW
 obtain⟨q0,q1,q2,q3,q4,q5⟩:=cells6 (heap_set6 (v0:=.int .i64 k) (v1:=.int .i64 0) (v2:=.string (st nm)) (v3:=slx) (v4:=slt) (v5:=sle) h.row)
 have hk : ∀ b,TB (g+1) M' b->b<wx.heap.size->(set6 wx g (.int .i64 k) (.int .i64 0) (.string (st nm)) slx slt sle).heap[b]?=wx.heap[b]?/\TB w.heap.size M' b:=fun b hb _ =>
  ⟨other_set6 b (by have:=hb.1;omega),by have:=hb.1;have:=h.eg;omega,hb.2⟩
 have hs:wx.heap.size<=(set6 wx g (.int .i64 k) (.int .i64 0) (.string (st nm)) slx slt sle).heap.size:=by rw [size_set6];exact Nat.le_refl _
 have hg:=grownBy_set6 wx g (.int .i64 k) (.int .i64 0) (.string (st nm)) slx slt sle
 refine⟨q0,q1,q2,q3,q4,q5,Lib.hid ⟨k,nm,xs,th,el,slx,slt,sle,M',rfl,hx.keep hk hs,ht.keep hk hs,he.keep hk hs,?_,?_,hG.1,hG.2.1,hG.2.2.1,hG.2.2.2.1,hG.2.2.2.2⟩⟩
 ·exact h.chg.own hg (fun k hk=>by injection hk with hk;have:=h.eg;omega)
 ·exact h.mkr.tree hg (fun k hk=>by injection hk with hk;subst hk;exact⟨h.lc,h.tree⟩)
end Go.Proofs.YtpcdinelpfbpfaaDoor
namespace Go.Proofs.YtpcdinelpfbpfaaDoor
open Go.ChangeShapes Go.WideShapes Go.ChangeAt Go.RowKit
set_option linter.unusedVariables false
set_option linter.unusedSimpArgs false

theorem own_same {w w':World} {base e k n:Nat} {v:Value} {l:List Value} (h:w.ownsRow base e k v n l) (hb : ∀ q,v.ownBlock=some q->w'.heap[q]?=w.heap[q]?):w'.ownsRow base e k v n l:=by
 refine⟨h.1,?_⟩
 rcases h.2 with h2 | ⟨g,cap,cur,rfl,h3,h4,h5⟩
 ·exact .inl h2
 ·exact .inr ⟨g,cap,cur,rfl,h3,(hb g rfl).trans h4,h5⟩
theorem TreeB.of_own {w:World} {base e k n q:Nat} {v:Value} {l:List Value} (h:w.ownsRow base e k v n l) (he:e=40\/e=83) (hq:v.ownBlock=some q):TreeB w q:=by
 rcases h.2 with⟨rfl,_⟩ | ⟨g,cap,cur,rfl,h3,h4,h5⟩
 ·cases hq
 ·have:g=q:=by simpa [Value.ownBlock] using hq
  subst this
  exact⟨_,_,_,h4,he⟩
theorem Chg.tree {w w':World} {gc gm lo e k n:Nat} {M M':Mk} {v:Value} {l:List Value} (h:Chg w w' gc gm M M') (hM:MkAt w gc gm M) (ho:w.ownsRow lo e k v n l) (he:e=40\/e=83) (h1:gc<lo) (h2:gm<lo):w'.ownsRow lo e k v n l :=
 own_same ho fun q hq=>by
  have hl:=ho.lt q hq
  exact h.block q hl.2 (by omega) (by omega) (fun e1=>(TreeB.of_own ho he hq).ne_own hM.lo ⟨by decide,by decide⟩ e1.symm)
theorem sf_push {wB wS w9:World} {gc gm lo e g9 n:Nat} {M2 M3:Mk} {v:Value} {S N:Sf} {xs ds:List Value} {ob:Obj} (hS:SfAt wB (fun b=>TB lo M2 b/\some b≠v.ownBlock) S xs) (hown:wB.ownsRow lo e 6 v n xs)
  (hc:Chg wB wS gc gm M2 M3) (h1:gc<lo) (h2:gm<lo) (hlo:lo<=wB.heap.size) (hN:SfAt wS (TB wB.heap.size M3) N ds) (hg9:(wS.alloc ob).grownBy w9 v.ownBlock) (h9:v.ownBlock=some g9\/g9=(wS.alloc ob).heap.size) :
  SfAt w9 (fun b=>TB lo M3 b/\some b≠some g9) (S.app N) (xs++ds):=by
 have hs:=hc.size
 have hsA:(wS.alloc ob).heap.size=wS.heap.size+1:=by simp
 have hs9:=hg9.size
 refine SfAt.app (hS.keep (fun b hb hlt=>⟨?_,(hc.kp h1 h2 b hb.1 hlt).2,?_⟩) (by omega)) (hN.keep (fun b hb hlt=>⟨?_,⟨by have:=hb.1;omega,hb.2⟩,?_⟩) (by omega))
 ·rw [hg9.block b (by omega) hb.2,Below.heap_alloc wS ob b (by omega),(hc.kp h1 h2 b hb.1 hlt).1]
 ·rcases h9 with h9 | h9
  ·rw [<- h9];exact hb.2
  ·simp;omega
 ·have:=hb.1
  rw [hg9.block b (by omega) (fun e=>by have:=(hown.lt b e.symm).2;omega),Below.heap_alloc wS ob b (by omega)]
 ·have:=hb.1
  rcases h9 with h9 | h9
  ·have:=(hown.lt g9 h9).2;simp;omega
  ·simp;omega
theorem MkAt.bud {w:World} {gc gm:Nat} {M:Mk} (h:MkAt w gc gm M) (z:Int):MkAt (w.setCell ⟨gm,4,none⟩ (.int .i64 z)) gc gm { M with bud:=z } :=
 have hg:=grownBy_set w gm 4 (.int .i64 z)
 {cod:=h.cod.keep fun k hk=>heap_setCell_other w ⟨gm,4,none⟩ k _ (by have:=h.lt;show k≠gm;omega)
  lt:=h.lt
  row:=heap_setCell_same _ gm 4 _ _ (.int .i64 z) h.row
  gl:=own_grown h.gl hg (by omega)
  fn:=own_grown h.fn hg (by omega)
  lo:=own_grown h.lo hg (by omega)
  gok:=h.gok,fok:=h.fok,lok:=h.lok,gn:=h.gn,fn1:=h.fn1,fn2:=h.fn2,ln:=h.ln }
theorem Chg.bud {w:World} {gc gm:Nat} {M:Mk} (z:Int):Chg w (w.setCell ⟨gm,4,none⟩ (.int .i64 z)) gc gm M { M with bud:=z } :=
 ⟨rfl,rfl,rfl,by simp [World.setCell],fun k _ _ h2 _=>heap_setCell_other w ⟨gm,4,none⟩ k _ h2,fun k hk _=>hk,rfl,rfl,rfl,rfl⟩
def BkInv (gc gm deep:Nat) (M:Mk) (w:World) (v:Value) (k:Nat) (wr:World):Prop :=
 ∃ (S:Sf) (xs:List Value) (M':Mk),S.len=k/\wr.ownsRow w.heap.size 83 6 v k xs/\SfAt wr (fun b=>TB w.heap.size M' b/\some b≠v.ownBlock) S xs/\Chg w wr gc gm M M'/\MkAt wr gc gm M' /\
  0<=M'.bud/\M'.ls.length+M'.bud<=9/\S.wf/\(S.cst:Int)<=1300 * (M.bud - M'.bud)/\S.nst<=deep+1/\S.hgt<=3
set_option maxRecDepth 100000 in
set_option maxHeartbeats 8000000 in
theorem block_of (gc gm deep most:Nat) (hm:most<=9) (HS : ∀ M W,MkAt W gc gm M->0<=M.bud->M.ls.length+M.bud<=8->Calls Tryd.prog 31 #[.pointer (some ⟨gm,0,none⟩),.int .i64 (deep:Int)] W (StPost gc gm deep M W)) (M:Mk) (w:World) (h:MkAt w gc gm M) (h0:0<=M.bud) (h9:M.ls.length+M.bud<=9) :
  Calls Tryd.prog 20 #[.pointer (some ⟨gm,0,none⟩),.int .i64 (deep:Int),.int .i64 (most:Int)] w (BkPost gc gm deep M w):=by
 have HST:=Lib.hid HS
 have HM:=Lib.hid h
 obtain⟨i0,hi0,hz0,hz1,hz2⟩:=info_parts Tryd.infoStmt
 have HI:=Lib.hid hi0
 have HZ0:=Lib.hid hz0
 have HZ1:=Lib.hid hz1
 have HZ2:=Lib.hid hz2
 clear hi0 hz0 hz1 hz2 HS
 have HST0:Hid (BkInv gc gm deep M w (.slice none 0 0) 0 w):=Lib.hid ⟨.nil,[],M,rfl,World.ownsRow_nil _ _ _ _,rfl,Chg.of_below (Below.refl _ _),h,h0,h9,trivial,by simp [Sf.cst],by simp [Sf.nst],by simp [Sf.hgt]⟩
 clear h h0 h9
 go_enter Tryd.func20,Tryd.ntmps20
 go_upto_block 0 with fail
 go_wp2_with fail
 go_loopw [7,8] (fun v7 v8 wr => ∃ k:Nat,k<=most/\v8=.int .i64 k/\Hid (BkInv gc gm deep M w v7 k wr)) (fun _ v8 _=>most - (intOf v8).toNat)
 case atStart=>exact⟨0,by omega,rfl,HST0⟩
 case round =>
  clear HST0
  obtain⟨k,hk,rfl,HB⟩:=hrel
  obtain⟨S,xs,M1,hlen,hown,hS,hch,hmk,hb0,hb9,hw,hcst,hnst,hhgt⟩:=HB.out
  have c4:=cell_of_row _ _ 4 _ _ _ hmk.row
  have f4:=frozen_of_row _ gm 4 _ _ hmk.row
  have jm:=heap_lt hmk.row
  have HGM:Hid (gc<w.heap.size/\gm<w.heap.size):=Lib.hid (by have:=HM.out.lt2;omega)
  obtain⟨z,hz⟩ : ∃ z,M1.bud=z:=⟨_,rfl⟩
  rw [hz] at c4
  have hz0:0<=z:=by omega
  have hz9:z<=9:=by omega
  have HBZ:=Lib.hid hz
  have HLEN:=Lib.hid hlen
  have HOWN:=Lib.hid hown
  have HS:=Lib.hid hS
  have HCH:=Lib.hid hch
  have HMK:=Lib.hid hmk
  have HW:=Lib.hid hw
  have HN:=Lib.hid (And.intro hb9 (And.intro hcst (And.intro hnst hhgt)))
  clear hlen hown hS hch hmk hb0 hb9 hw hcst hnst hhgt hz
  by_cases hgo:k<most/\0<z
  ·obtain⟨hlt,hzp⟩:=hgo
   have dz:decide ((0:Int)<z)=true:=by rw [decide_eq_true_iff];exact hzp
   go_upto_region 6 with fail
   have HMB:=Lib.hid (HMK.out.bud (z - 1))
   have HCB:=Lib.hid (Chg.bud (w:=wr) (gc:=gc) (gm:=gm) (M:=M1) (z - 1))
   have HOB:=Lib.hid (HCB.out.tree HMK.out HOWN.out (.inr rfl) HGM.out.1 HGM.out.2)
   have HSB:Hid (SfAt (wr.setCell ⟨gm,4,none⟩ (.int .i64 (z - 1))) (fun b=>TB w.heap.size { M1 with bud:=z - 1 } b/\some b≠u7.ownBlock) S xs):=Lib.hid (HS.out.keep (fun b hb hlt=>⟨(HCB.out.kp HGM.out.1 HGM.out.2 b hb.1 hlt).1,hb⟩) HCB.out.size)
   have hcall:=HST.out _ _ HMB.out (show 0<=z - 1 by omega) (by show (M1.ls.length:Int)+(z - 1)<=8;have:=HN.out.1;have:=HBZ.out;omega)
   have HCL:=Lib.hid hcall
   clear hcall
   obtain⟨wB,hwB⟩ : ∃ wB,wr.setCell ⟨gm,4,none⟩ (.int .i64 (z - 1))=wB:=⟨_,rfl⟩
   rw [hwB] at HMB HCB HOB HSB HCL ⊢
   clear hwB c4 f4 jm
   go_wp2_with fail
   refine HCL.out.mono ?_
   rintro e wS ⟨ks,nm,xs2,th,el,slx,slt,sle,M3,rfl,hax,hst,hse,hch3,hmk3,hb30,hb39,hwf3,hcst3,hnst3,hhgt3⟩
   have HN2:=Lib.hid (SfAt.one (k:=ks) (ln:=0) (nm:=nm) hax hst hse)
   obtain⟨ax,cx,_,rfl,_⟩:=hax
   obtain⟨ath,cth,_,rfl,_⟩:=hst
   obtain⟨ael,cel,_,rfl,_⟩:=hse
   have HCH3:=Lib.hid hch3
   have HMK3:=Lib.hid hmk3
   have HG3:=Lib.hid (And.intro hb30 (And.intro hb39 (And.intro hwf3 (And.intro hcst3 (And.intro hnst3 hhgt3)))))
   have HOS:=Lib.hid (HCH3.out.tree HMB.out HOB.out (.inr rfl) HGM.out.1 HGM.out.2)
   clear hch3 hmk3 hb30 hb39 hwf3 hcst3 hnst3 hhgt3
   have HOA:=Lib.hid (HOS.out.alloc (.cells (stc ks 0 nm (.slice ax xs2.len cx) (.slice ath th.len cth) (.slice ael el.len cel)).toArray 83))
   have hsb:w.heap.size<=wS.heap.size+1:=by have:=HCH.out.size;have:=HCB.out.size;have:=HCH3.out.size;omega
   go_wp2_with (at_builtin;refine wpList_append_lies _ rfl _ _ _ rfl w.heap.size 83 i0 _ 6 104 Tryd.underlying64 HI.out HZ0.out HZ1.out HZ2.out rfl (by omega) _ _ _ rfl HOA.out ⟨wS.heap.size,0,none⟩ 1 1 (stc ks 0 nm (.slice ax xs2.len cx) (.slice ath th.len cth) (.slice ael el.len cel)) rfl rfl (World.news_of_block (cs:=(stc ks 0 nm (.slice ax xs2.len cx) (.slice ath th.len cth) (.slice ael el.len cel)).toArray) (t:=83) (fr:=(0,0)) (heap_alloc_new wS _)) (by simp [Value.oneCell']) (by omega) (by unfold maxLen;omega) (by omega) (by simp;omega) _ rfl ?_;intro g9 c9 w9 hown9 hgrow9 hor9 hlt9;have HO9:=Lib.hid hown9;have HG9:=Lib.hid hgrow9;have HR9:=Lib.hid hor9;clear hown9 hgrow9 hor9 hlt9)
   go_roundw
   case rel =>
    have hsz:w.heap.size<=wB.heap.size:=by have:=HCH.out.size;have:=HCB.out.size;omega
    refine⟨k+1,by omega,by go_num,Lib.hid ⟨S.app (oneS ks 0 nm xs2 th el),xs++stc ks 0 nm (.slice ax xs2.len cx) (.slice ath th.len cth) (.slice ael el.len cel),M3,by rw [Sf.len_app,HLEN.out];rfl,HO9.out,?_,?_,?_,HG3.out.1,HG3.out.2.1,Sf.wf_app HW.out HG3.out.2.2.1,?_,?_,?_⟩⟩
    ·exact sf_push HSB.out HOB.out HCH3.out HGM.out.1 HGM.out.2 hsz HN2.out HG9.out HR9.out
    ·exact(((HCH.out.trans HCB.out).trans HCH3.out).trans (Chg.of_below (below_alloc _ _))).own HG9.out (fun q hq=>(HOA.out.lt q hq).1)
    ·exact(HMK3.out.below (below_alloc _ _)).tree HG9.out (fun q hq=>⟨by have:=(HOA.out.lt q hq).1;have:=HGM.out.1;omega,TreeB.of_own HOA.out (.inr rfl) hq⟩)
    ·have h1:=HN.out.2.1
     have h2:=HG3.out.2.2.2.1
     have h3:=HBZ.out
     rw [Sf.cst_app]
     omega
    ·have h1:=HN.out.2.2.1
     have h2:=HG3.out.2.2.2.2.1
     rw [Sf.nst_app];omega
    ·have h1:=HN.out.2.2.2
     have h2:=HG3.out.2.2.2.2.2
     rw [Sf.hgt_app];omega
   case measure=>simp [intOf];omega
  ·have HFN:Hid (BkPost gc gm deep M w (.returned u7) wr):=Lib.hid ⟨S,u7,xs,M1,rfl,by rw [HLEN.out];exact HOWN.out,HS.out,HCH.out,HMK.out,by rw [HBZ.out];exact hz0,HN.out.1,HW.out,HN.out.2.1,HN.out.2.2.1,HN.out.2.2.2⟩
   by_cases hlt:k<most
   ·have dz:decide ((0:Int)<z)=false:=by rw [decide_eq_false_iff_not];exact fun h=>hgo ⟨hlt,h⟩
    go_wp2_with fail
    refine bodyPost_ret (v:=u7) (by simp [results,Tryd.results20,go_sem]) rfl ?_
    exact HFN.out
   ·obtain rfl:k=most:=by omega
    go_wp2_with fail
    refine bodyPost_ret (v:=u7) (by simp [results,Tryd.results20,go_sem]) rfl ?_
    exact HFN.out
theorem sts_of_own {w:World} {gc gm base:Nat} {M:Mk} {S:Sf} {sl:Value} {xs:List Value} (ho:w.ownsRow base 83 6 sl S.len xs) (hS:SfAt w (fun b=>TB base M b/\some b≠sl.ownBlock) S xs) (hM:MkAt w gc gm M):StsAt w (TB base M) S sl :=
 StsAt.of_own (e:=83) (size:=6) ho (hS.keep (fun b hb _=>⟨rfl,hb.1⟩) (Nat.le_refl _)) (fun b hb=>⟨(ho.lt b hb).1,fun e=>(TreeB.of_own ho (.inr rfl) hb).ne_own hM.lo ⟨by decide,by decide⟩ e.symm⟩)
theorem args_block {w:World} {P:Nat->Prop} {h:Hd} {ar:Fo} {sl:Value} {g:Nat} (hg:w.heap[g]?=some (.cells (hdc h sl).toArray 40 (0,0))) (ha:ArgsAt w P ar sl) (hP:P g):ArgsAt w P (one1 h ar) (.slice (some ⟨g,0,none⟩) 1 1) :=
 ⟨some ⟨g,0,none⟩,1,hdc h sl,rfl,Nat.le_refl _,by simp [maxLen],(fun e=>nomatch e),fun _=>⟨g,0,rfl,hP,heap_lt hg,fun j u hj=>by
  rw [Nat.zero_add,cell_of_row w g j _ _ _ hg,List.getElem?_toArray];exact hj⟩,ArgsAt.one ha⟩
theorem ls_hold {wx:World} {gc gm:Nat} {M:Mk} (hM:MkAt wx gc gm M) (hn:0<M.ls.length) : ∃ bl cl,M.vl=.slice (some ⟨bl,0,none⟩) M.ls.length cl/\M.ls.length<=cl/\cl<=9223372036854775807/\gm<bl/\bl<wx.heap.size /\
  ∀ W,wx.grownBy W (some gc)->W.cell? ⟨gm,0,none⟩=some (.pointer (some ⟨gc,0,none⟩))/\W.cell? ⟨gm,3,none⟩=some (.slice (some ⟨bl,0,none⟩) M.ls.length cl) /\ ∀ j x,M.ls[j]?=some x->W.cell? ⟨bl,j,none⟩=some (.string (st x)):=by
 have hne:strs M.ls≠[]:=fun e=>by have:=congrArg List.length e;simp at this;rw [this] at hn;simp at hn
 obtain⟨g,cap,hv,hb,hl,h1,h2,_,hc⟩:=own_block hM.lo hne
 have hrow:=hM.row
 rw [hv] at hrow
 have hlt:=hM.lt
 refine⟨g,cap,hv,h1,by have:=h2;unfold maxLen at this;omega,by omega,hl,fun W hW=>⟨hW.cell (cell_of_row _ _ 0 _ _ _ hrow) (by simp;omega),hW.cell (cell_of_row _ _ 3 _ _ _ hrow) (by simp;omega),fun j x hj=>?_⟩⟩
 have hs:(strs M.ls)[j]?=some (.string (st x)):=by unfold strs;rw [List.getElem?_map,hj];rfl
 exact hW.cell (hc j _ hs) (by simp;omega)
end Go.Proofs.YtpcdinelpfbpfaaDoor
