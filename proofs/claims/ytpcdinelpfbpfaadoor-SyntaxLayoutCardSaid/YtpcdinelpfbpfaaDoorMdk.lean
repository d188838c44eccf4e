/-
  WALK of loop, where block is known. (Filled in from a template of this repo, printed by mk_dtk.py.)
  WALK of stmt, and the recursion of stmt, loop and block. (Filled in from a template of this repo, printed by mk_dtl.py.)
-/
import Derived.Test.YtpcdinelpfbpfaaDoorMdb
namespace Go.Proofs.YtpcdinelpfbpfaaDoor
open Go.ChangeShapes Go.WideShapes Go.ChangeAt Go.RowKit
set_option linter.unusedVariables false
set_option linter.unusedSimpArgs false

theorem good_one {deep:Nat} {M M1:Mk} {k:Int} {nm:Bt} {hd:Hd} {ar:Fo} {th el:Sf} (hS:okS k nm (one1 hd ar) th el) (hE:goodE 2 hd ar) (hb0:0<=M1.bud) (hb9:M1.ls.length+M1.bud<=9) (ht:th.wf) (he:el.wf)
  (hc:(th.cst:Int)+el.cst<=301+1300 * (M.bud - M1.bud)) (hn:th.nst<=deep) (hn2:el.nst<=deep) (hh:th.hgt<=3) (hh2:el.hgt<=3):goodS deep M M1 k nm (one1 hd ar) th el:=by
 obtain⟨e1,e2,e3,e4,e5⟩:=hE
 have hb:bnd 2=849:=rfl
 refine⟨hb0,hb9,⟨hS,rfl,⟨e1,e2,e3,trivial⟩,ht,he,trivial⟩,?_,?_,?_⟩
 ·show ((150+(own hd ar.len+ar.cst+0)+th.cst+el.cst+0:Nat):Int)<=_
  omega
 ·show max (max th.nst el.nst+1) 0<=_
  omega
 ·show max (max (max (ar.dep+1) 0) (max th.hgt el.hgt)) 0<=3
  omega
theorem StW.setTree {w:World} {gc gm:Nat} {M M':Mk} {g k:Nat} {wx:World} (h:StW w gc gm M M' g wx) (hk:TreeB wx k) (hg:g<k) (o:Nat) (v:Value):StW w gc gm M M' g (wx.setCell ⟨k,o,none⟩ v) :=
 ⟨h.eg,(heap_setCell_other wx ⟨k,o,none⟩ g v (by show g≠k;omega)).trans h.row,h.mkr.tree (grownBy_set wx k o v) (fun q hq=>by injection hq with hq;subst hq;exact⟨by have:=h.lc;omega,hk⟩),h.chg.own (grownBy_set wx k o v) (fun q hq=>by injection hq with hq;have:=h.eg;omega),h.lc,h.lm⟩
theorem StW.setTree6 {w:World} {gc gm:Nat} {M M':Mk} {g k:Nat} {wx:World} (h:StW w gc gm M M' g wx) (hk:TreeB wx k) (hg:g<k) (v0 v1 v2 v3 v4 v5:Value):StW w gc gm M M' g (set6 wx k v0 v1 v2 v3 v4 v5) :=
 ⟨h.eg,(other_set6 g (by omega)).trans h.row,h.mkr.tree (grownBy_set6 wx k v0 v1 v2 v3 v4 v5) (fun q hq=>by injection hq with hq;subst hq;exact⟨by have:=h.lc;omega,hk⟩),h.chg.own (grownBy_set6 wx k v0 v1 v2 v3 v4 v5) (fun q hq=>by injection hq with hq;have:=h.eg;omega),h.lc,h.lm⟩
theorem Chg.treeb {w w':World} {gc gm k:Nat} {M M':Mk} (h:Chg w w' gc gm M M') (hM:MkAt w gc gm M) (hk:TreeB w k) (h1:gc<k) (h2:gm<k):w'.heap[k]?=w.heap[k]?:=by
 obtain⟨cs,t,fr,e1,e2⟩:=hk
 exact h.block k (heap_lt e1) (by omega) (by omega) (fun e=>(TreeB.ne_own ⟨cs,t,fr,e1,e2⟩ hM.lo ⟨by decide,by decide⟩) e.symm)
abbrev srow (k:Int) (nm:Bt) (slx slt sle:Value):Obj:=.cells #[.int .i64 k,.int .i64 0,.string (st nm),slx,slt,sle] 83 (0,0)
theorem step_row {w w':World} {gc gm k:Nat} {M M':Mk} {ob:Obj} (hc:Chg w w' gc gm M M') (hM:MkAt w gc gm M) (hr:w.heap[k]?=some ob) (ht:TreeB w k) (h1:gc<k) (h2:gm<k):w'.heap[k]?=some ob:=(hc.treeb hM ht h1 h2).trans hr
abbrev nrow (nm:Bt):Obj:=.cells #[.int .i64 13,.int .i64 0,.int .i64 0,.int .i64 0,.string (st nm),.slice none 0 0] 40 (0,0)
abbrev mrow (gc:Nat) (M:Mk):Obj:=.cells #[.pointer (some ⟨gc,0,none⟩),M.va,M.vb,M.vl,.int .i64 M.bud] 70 (0,0)
def pairF (nm:Bt) (z:Int):Fo:=.cons ⟨13,0,0,0,nm⟩ .nil (one1 ⟨1,0,z,0,[]⟩ .nil)
theorem pair_at (w:World) (nm:Bt) (z:Int):FoAt w (fun _=>False) (pairF nm z) (hdc ⟨13,0,0,0,nm⟩ (.slice none 0 0)++hdc ⟨1,0,z,0,[]⟩ (.slice none 0 0)) :=
 FoAt.app (F:=one1 ⟨13,0,0,0,nm⟩ .nil) (ArgsAt.one (ArgsAt.nil _ _)) (ArgsAt.one (ArgsAt.nil _ _))
theorem StW.own {w:World} {gc gm:Nat} {M M':Mk} {g:Nat} {wx wy:World} {r:Option Nat} (h:StW w gc gm M M' g wx) (hg:wx.grownBy wy r) (hr : ∀ k,r=some k->g<k/\TreeB wx k):StW w gc gm M M' g wy :=
 ⟨h.eg,(hg.block g h.lts (fun e=>by have:=(hr g e.symm).1;omega)).trans h.row,h.mkr.tree hg (fun k hk=>⟨by have:=(hr k hk).1;have:=h.lc;omega,(hr k hk).2⟩),h.chg.own hg (fun k hk=>by have:=(hr k hk).1;have:=h.eg;omega),h.lc,h.lm⟩
theorem sf_push2 {wS w9:World} {lo lb g9 n e:Nat} {M3:Mk} {v:Value} {S N:Sf} {xs ds:List Value} {ob:Obj} (hS:SfAt wS (fun b=>TB lo M3 b/\some b≠v.ownBlock) S xs) (hown:wS.ownsRow lo e 6 v n xs) (hlb : ∀ q,v.ownBlock=some q->q<lb) (hlo:lo<=lb)
  (hN:SfAt wS (TB lb M3) N ds) (hg9:(wS.alloc ob).grownBy w9 v.ownBlock) (h9:v.ownBlock=some g9\/g9=(wS.alloc ob).heap.size) :
  SfAt w9 (fun b=>TB lo M3 b/\some b≠some g9) (S.app N) (xs++ds):=by
 have hsA:(wS.alloc ob).heap.size=wS.heap.size+1:=by simp
 have hs9:=hg9.size
 refine SfAt.app (hS.keep (fun b hb hlt=>⟨?_,hb.1,?_⟩) (by omega)) (hN.keep (fun b hb hlt=>⟨?_,⟨by have:=hb.1;omega,hb.2⟩,?_⟩) (by omega))
 ·rw [hg9.block b (by omega) hb.2,Below.heap_alloc wS ob b (by omega)]
 ·rcases h9 with h9 | h9
  ·rw [<- h9];exact hb.2
  ·simp;omega
 ·have:=hb.1
  rw [hg9.block b (by omega) (fun e=>by have:=hlb b e.symm;omega),Below.heap_alloc wS ob b (by omega)]
 ·have:=hb.1
  rcases h9 with h9 | h9
  ·have:=hlb g9 h9;simp;omega
  ·simp;omega
theorem sf_len_cst (S:Sf):150 * S.len<=S.cst:=by
 induction S with
 | nil=>simp [Sf.len,Sf.cst]
 | cons k ln nm xs th el r _ _ ih=>simp only [Sf.len,Sf.cst];omega
theorem pair_good (nm:Bt) (z:Int) (hn:okN nm) (h0:0<=z) (h1:z<=9223372036854775807):(pairF nm z).wf/\(pairF nm z).cst=63/\(pairF nm z).dep=1 :=
 ⟨⟨ok_name hn,rfl,trivial,ok_num h0 h1,rfl,trivial,trivial⟩,rfl,rfl⟩
theorem good_while {deep:Nat} {M M1:Mk} {nm:Bt} {z:Int} {S:Sf} (hn:okN nm) (hz1:1<=z) (hz5:z<=5) (hb0:0<=M1.bud) (hb9:M1.ls.length+M1.bud<=9) (hw:S.wf) (hc:(S.cst:Int)<=1300 * (M.bud - M1.bud)) (hns:S.nst<=deep+1) (hh:S.hgt<=3) :
  goodS (deep+1) M M1 5 [] (one1 ⟨6,8,0,0,[]⟩ (pairF nm z)) (S.app (oneS 2 0 nm (one1 ⟨6,3,0,0,[]⟩ (pairF nm 1)) .nil .nil)) .nil:=by
 obtain⟨a1,a2,a3⟩:=pair_good nm z hn (by omega) (by omega)
 obtain⟨b1,b2,b3⟩:=pair_good nm 1 hn (by omega) (by omega)
 refine⟨hb0,hb9,⟨.inr (.inr (.inr (.inl ⟨rfl,rfl,rfl,rfl⟩))),rfl,⟨.inr (.inr ⟨rfl,rfl,.inr ⟨rfl,by decide,by decide,rfl⟩⟩),rfl,a1,trivial⟩,Sf.wf_app hw ⟨.inl ⟨.inr rfl,hn,rfl,rfl,rfl⟩,rfl,⟨.inr (.inr ⟨rfl,rfl,.inr ⟨rfl,by decide,by decide,rfl⟩⟩),rfl,b1,trivial⟩,trivial,trivial,trivial⟩,trivial,trivial⟩,?_,?_,?_⟩
 ·show ((150+(111+(pairF nm z).cst+0)+(S.app _).cst+0+0:Nat):Int)<=_
  rw [Sf.cst_app]
  show ((150+(111+(pairF nm z).cst+0)+(S.cst+(150+(111+(pairF nm 1).cst+0)+0+0+0))+0+0:Nat):Int)<=_
  omega
 ·show max (max (S.app _).nst 0+1) 0<=_
  rw [Sf.nst_app]
  show max (max (max S.nst (max (max 0 0+1) 0)) 0+1) 0<=_
  omega
 ·show max (max (max ((pairF nm z).dep+1) 0) (max (S.app _).hgt 0)) 0<=3
  rw [Sf.hgt_app]
  show max (max (max ((pairF nm z).dep+1) 0) (max (max S.hgt (max (max (max ((pairF nm 1).dep+1) 0) (max 0 0)) 0)) 0)) 0<=3
  omega
set_option maxRecDepth 100000 in
set_option maxHeartbeats 16000000 in
theorem loop_of (gc gm deep:Nat) (hdeep:deep<=1000) (HB : ∀ M W (most:Int),0<=most->most<=9->MkAt W gc gm M->0<=M.bud->M.ls.length+M.bud<=9->Calls Tryd.prog 20 #[.pointer (some ⟨gm,0,none⟩),.int .i64 (deep:Int),.int .i64 most] W (BkPost gc gm deep M W)) (M:Mk) (w:World) (h:MkAt w gc gm M) (h0:0<=M.bud) (h8:M.ls.length+M.bud<=8) :
  Calls Tryd.prog 48 #[.pointer (some ⟨gm,0,none⟩),.int .i64 ((deep:Int)+1)] w (StPost gc gm (deep+1) M w):=by
 have HBK:=Lib.hid HB
 have HM:=Lib.hid h
 obtain⟨i0,hi0,hz0,hz1,hz2⟩:=info_parts Tryd.infoStmt
 have HI:=Lib.hid hi0
 have HZ0:=Lib.hid hz0
 have HZ1:=Lib.hid hz1
 have HZ2:=Lib.hid hz2
 clear hi0 hz0 hz1 hz2
 have HH:=Lib.hid (And.intro h0 h8)
 have hx:=StW.start h
 have HEX:=Lib.hid (fun W (hW:MkAt W gc gm M)=>expr_any gc gm 2 M (by omega) W hW)
 have HPK:=Lib.hid (fun W (hW:MkAt W gc gm M)=>pick_any gc gm M false W hW)
 clear HB h0 h8
 go_enter Tryd.func48,Tryd.ntmps48
 go_upto_region 1 with fail
 obtain⟨w1,hw1⟩ : ∃ w1,w.alloc zst=w1:=⟨_,rfl⟩
 rw [hw1] at hx ⊢
 obtain⟨g,hg⟩ : ∃ g,w.heap.size=g:=⟨_,rfl⟩
 rw [hg] at hx ⊢
 have HX:=Lib.hid hx
 clear hw1 hx h hg
 go_wp2_with fail
 refine(HPK.out _ HX.out.mkr).mono ?_
 rintro e w2 ⟨nm0,ok0,rfl,hpk,hcod,hg⟩
 have HX2:=Lib.hid (HX.out.grown hg hcod)
 have HOK0:Hid (ok0=true->okN nm0):=Lib.hid (fun h=>(hpk h).nm HM.out)
 clear hpk hcod hg HX
 clear w1
 have HC:Hid (∀ wx,StW w gc gm M M g wx->wx.cell? ⟨gm,0,none⟩=some (.pointer (some ⟨gc,0,none⟩))/\wx.cell? ⟨gm,3,none⟩=some M.vl/\gm<wx.heap.size):=Lib.hid (fun wx h=>⟨cell_of_row _ _ 0 _ _ _ h.mkr.row,cell_of_row _ _ 3 _ _ _ h.mkr.row,heap_lt h.mkr.row⟩)
 obtain⟨al,cl,hvl,_,hlc1,hlc2,_⟩:=LsAt.of_own HM.out.lo
 have hln:=HM.out.ln
 rw [hvl] at HC
 have HVL:=Lib.hid hvl
 obtain⟨n,hn⟩ : ∃ n,M.ls.length=n:=⟨_,rfl⟩
 rw [hn] at HC hlc1 hln
 have HN:=Lib.hid hn
 clear hvl hn
 go_upto_region 2 with fail
 go_cut [28] from 15 to 28 (fun v28 wx => ∃ b28,v28=.bool b28/\Hid ((b28=true->0<n)/\StW w gc gm M M g wx))
 case first =>
  obtain⟨c0,c3,jm⟩:=HC.out _ HX2.out
  by_cases hn0:n=0
  ·subst hn0
   go_wp2_with fail
   go_meet
   exact⟨false,rfl,Lib.hid ⟨(fun h=>nomatch h),HX2.out⟩⟩
  ·have dn:decide ((0:Int)<(n:Int))=true:=by rw [decide_eq_true_iff];omega
   go_wp2_with fail
   refine(Next_any gc 3 (by omega) _ HX2.out.mkr.cod).mono ?_
   rintro e w3 ⟨y,rfl,y0,y1,hcod,hg⟩
   have HX3:=Lib.hid (HX2.out.grown hg hcod)
   clear hcod hg
   obtain⟨b3,hb3⟩ : ∃ b,decide (0<y)=b:=⟨_,rfl⟩
   go_wp2_with fail
   go_meet
   exact⟨b3,by rw [<- hb3],Lib.hid ⟨fun _=>by omega,HX3.out⟩⟩
 case rest =>
 clear HX2
 clear w2
 obtain⟨b28,rfl,HX2⟩:=hcut
 go_upto_if 28 with fail
 go_cut [5,6] from 29 to 44 (fun v5 v6 wx => ∃ (nm:Bt) (ok:Bool),v5=.string (st nm)/\v6=.bool ok/\Hid ((ok=true->okN nm)/\StW w gc gm M M g wx))
 case first =>
  cases b28
  ·go_wp2_with fail
   go_meet
   exact⟨nm0,ok0,rfl,rfl,Lib.hid ⟨HOK0.out,HX2.out.2⟩⟩
  ·have hnp:0<n:=HX2.out.1 rfl
   obtain⟨bl,cl',hvl,hl1,hl2,hb1,hb2,hhold⟩:=ls_hold HX2.out.2.mkr (by rw [HN.out];exact hnp)
   rw [HN.out] at hvl hl1 hhold
   have HRW:=Lib.hid hhold
   clear hvl hhold hlc1 hlc2 HC
   go_upto_region 3 with fail
   refine wp_region_held_drew (S:=(fun w'=>w'.cell? ⟨gm,0,none⟩=some (.pointer (some ⟨gc,0,none⟩))/\w'.cell? ⟨gm,3,none⟩=some (.slice (some ⟨bl,0,none⟩) n cl') /\ ∀ j x,M.ls[j]?=some x->w'.cell? ⟨bl,j,none⟩=some (.string (st x)))) (by kernel_rfl) (HRW.out _ (grownBy_drewN wc 1 _)) (fun hHeld=>?_)
   refine tkH 0 29 ?_
   refine tkH 1 30 ?_
   refine tkH 2 31 ?_
   refine tkH 3 32 ?_
   refine tkH 4 33 ?_
   refine tkH 5 34 ?_
   refine tkH 6 35 ?_
   refine tkH 7 36 ?_
   refine tkH 8 37 ?_
   refine tkH 9 38 ?_
   refine tkH 10 39 ?_
   refine tkH 11 40 ?_
   refine tkH 12 41 ?_
   refine rdH 13 fun K hK=>?_
   go_simp
   refine(Next_any gc n (by omega) _ HX2.out.2.mkr.cod.drew).mono ?_
   rintro e wy ⟨y,rfl,y0,y1,hcod,hg0⟩
   obtain⟨y,rfl⟩:=Int.eq_ofNat_of_zero_le y0
   have y2:y<n:=by omega
   have hg:=grownBy_trans (grownBy_drewN wc 1 (some gc)) hg0
   clear hg0
   have HX3:=Lib.hid (HX2.out.2.grown hg hcod)
   refine goH hK (HRW.out _ hg) fun hHeld=>?_
   clear hK K
   have hy3:(y:Int)<(n:Int):=by omega
   obtain⟨nm,hnm⟩ : ∃ nm,M.ls[y]?=some nm:=⟨_,List.getElem?_eq_getElem (by rw [HN.out];exact y2)⟩
   have HNM:Hid (okN nm):=Lib.hid (HX3.out.mkr.lok nm (List.mem_of_getElem? hnm))
   clear hg hcod y1
   refine tkH 14 43 ?_
   refine wpAnyH_takeD (i:=15) (d:=some 44) (v:=.string (st nm)) rfl (by kernel_rfl) (by kernel_rfl) (by kernel_rfl) (by kernel_rfl) (fun _ _ _ h=>h) (Or.inl ⟨by kernel_rfl,?_⟩) (by assumption) ?_
   ·(intro w hSw;have hcx:=hSw.2.2 y nm hnm;go_simp;try with_reducible rfl)
   (try simp only [Act.put,List.setIfInBounds_toArray,List.set_cons_zero,List.set_cons_succ])
   refine tkH 16 5 ?_
   refine tkH 17 6 ?_
   refine wpAnyH_done (by kernel_rfl) ?_ _
   go_wp2_with fail
   go_meet
   exact⟨nm,true,rfl,rfl,Lib.hid ⟨fun _=>HNM.out,HX3.out⟩⟩
 case rest =>
 clear HX2 HOK0
 obtain⟨nm,ok,rfl,rfl,HX2⟩:=hcut
 go_upto_region 4 with fail
 go_cut [54] from 45 to 54 (fun v54 wx => ∃ b54,v54=.bool b54/\Hid ((b54=false->okN nm)/\StW w gc gm M M g wx))
 case first =>
  cases ok
  ·go_wp2_with fail
   go_meet
   exact⟨true,rfl,Lib.hid ⟨(fun h=>nomatch h),HX2.out.2⟩⟩
  ·obtain⟨c0,c3,jm⟩:=HC.out _ HX2.out.2
   go_wp2_with fail
   refine(Next_any gc 8 (by omega) _ HX2.out.2.mkr.cod).mono ?_
   rintro e w3 ⟨y,rfl,y0,y1,hcod,hg⟩
   have HX3:=Lib.hid (HX2.out.2.grown hg hcod)
   clear hcod hg
   obtain⟨b7,hb7⟩ : ∃ b,(y==7)=b:=⟨_,rfl⟩
   go_wp2_with fail
   go_meet
   exact⟨b7,by rw [<- hb7],Lib.hid ⟨fun _=>HX2.out.1 (by first | rfl | trivial),HX3.out⟩⟩
 case rest =>
 clear HX2
 obtain⟨b54,rfl,HX2⟩:=hcut
 cases b54
 ·have HNM:Hid (okN nm):=Lib.hid (HX2.out.1 (by first | rfl | trivial))
  have hb8:=below_alloc wc (.cells #[.int .i64 13,.int .i64 0,.int .i64 0,.int .i64 0,.string (st nm),.slice none 0 0] 40)
  have hr8:=heap_alloc_new wc (.cells #[.int .i64 13,.int .i64 0,.int .i64 0,.int .i64 0,.string (st nm),.slice none 0 0] 40)
  have HX8:=Lib.hid (HX2.out.2.below hb8)
  have HG8:Hid (g<wc.heap.size):=Lib.hid HX2.out.2.lts
  go_upto_region 9 with fail
  obtain⟨w8,hw8⟩ : ∃ w8,wc.alloc (.cells #[.int .i64 13,.int .i64 0,.int .i64 0,.int .i64 0,.string (st nm),.slice none 0 0] 40)=w8:=⟨_,rfl⟩
  obtain⟨g8,hg8⟩ : ∃ g8,wc.heap.size=g8:=⟨_,rfl⟩
  rw [hw8] at hr8 HX8 ⊢
  rw [hg8] at hr8 HG8 ⊢
  have H8:=Lib.hid hr8
  clear hw8 hg8 hb8 hr8 HX2
  clear wc
  have HLC:Hid (gc<g/\gm<g):=Lib.hid ⟨HX8.out.lc,HX8.out.lm⟩
  go_cut [9] from 72 to 82 (fun v9 wx => ∃ (g9 gq:Nat) (z:Int),v9=.pointer (some ⟨g9,0,none⟩)/\1<=z/\z<=5/\Hid (StW w gc gm M M g wx/\wx.heap[g8]?=some (nrow nm)/\wx.heap[g9]?=some (srow 5 [] (.slice (some ⟨gq,0,none⟩) 1 1) (.slice none 0 0) (.slice none 0 0))/\ArgsAt wx (fun b=>TB (g+1) M b/\b≠g9) (one1 ⟨6,8,0,0,[]⟩ (pairF nm z)) (.slice (some ⟨gq,0,none⟩) 1 1)/\g8<g9))
  case first =>
   refine wp_region_held_drew (S:=(fun w'=>w'.heap[gm]?=some (mrow gc M)/\w'.heap[g8]?=some (nrow nm))) (by kernel_rfl) ⟨HX8.out.mkr.row,H8.out⟩ (fun hHeld=>?_)
   refine wpAnyH_takeD (i:=0) (d:=some 72) (v:=?_) rfl (by kernel_rfl) (by kernel_rfl) (by kernel_rfl) (by kernel_rfl) (fun _ _ _ h=>h) (Or.inl ⟨by kernel_rfl,?_⟩) (by assumption) ?_
   rotate_left
   ·(intro w hSw;obtain⟨p0,p1,p2,p3,p4,p5⟩:=cells6 hSw.2;(try dsimp only at hSw);go_simp;try with_reducible rfl)
   (try simp only [Act.put,List.setIfInBounds_toArray,List.set_cons_zero,List.set_cons_succ])
   refine tkH 1 73 ?_
   refine tkH 2 74 ?_
   refine tkH 3 75 ?_
   refine wpAnyH_takeD (i:=4) (d:=some 76) (v:=?_) rfl (by kernel_rfl) (by kernel_rfl) (by kernel_rfl) (by kernel_rfl) (fun _ _ _ h=>h) (Or.inl ⟨by kernel_rfl,?_⟩) (by assumption) ?_
   rotate_left
   ·(intro w hSw;have c0:=cell_of_row _ _ 0 _ _ _ hSw.1;(try dsimp only at hSw);go_simp;try with_reducible rfl)
   (try simp only [Act.put,List.setIfInBounds_toArray,List.set_cons_zero,List.set_cons_succ])
   have HX0:=Lib.hid (HX8.out.grown (grownBy_drewN w8 1 (some gc)) HX8.out.mkr.cod.drew)
   have H80:Hid (w8.drew.heap[g8]?=some (nrow nm)):=H8
   obtain⟨w0,hw0⟩ : ∃ wx,w8.drew=wx:=⟨_,rfl⟩
   rw [show w8.drewN 1=w0 from hw0] at HX0
   rw [hw0] at H80 hHeld ⊢
   clear hw0
   refine wpAnyH_ready (rs:=[5,11]) (by kernel_rfl) (by simp) ?_
   refine AllReadyH.cons rfl (fun K hK=>?_) (AllReadyH.cons rfl (fun K hK=>?_) AllReadyH.nil)
   ·go_simp
    refine(Next_any gc 5 (by omega) _ HX0.out.mkr.cod).mono ?_
    rintro e w1 ⟨z,rfl,z0,z1,hcod,hg⟩
    have z2:z<5:=by omega
    have HX1:=Lib.hid (HX0.out.grown hg hcod)
    have H81:=Lib.hid ((hg.block g8 (heap_lt H80.out) (by simp;have:=HG8.out;have:=HLC.out;omega)).trans H80.out)
    refine goH hK ⟨HX1.out.mkr.row,H81.out⟩ fun hHeld=>?_
    clear hK K hcod hg z1
    have hwz:IntKind.i64.wrap (1+z)=1+z:=by unfold IntKind.wrap;simp [IntKind.signed,IntKind.bits];omega
    refine tkH 6 78 ?_
    refine tkH 7 79 ?_
    refine wpAnyH_ready (rs:=[8,11]) (by kernel_rfl) (by simp) ?_
    refine AllReadyH.cons rfl (fun K hK=>?_) (AllReadyH.cons rfl (fun K hK=>?_) AllReadyH.nil)
    ·go_simp
     have hb:=below_alloc w1 (.cells (hdc ⟨13,0,0,0,nm⟩ (.slice none 0 0)++hdc ⟨1,0,1+z,0,[]⟩ (.slice none 0 0)).toArray 40)
     have HX2:=Lib.hid (HX1.out.below hb)
     have H82:=Lib.hid ((hb.block g8 (heap_lt H81.out)).trans H81.out)
     have HA2:=Lib.hid (args_made (Q:=TB (g+1) M) (pair_at w1 nm (1+z)) (by simp [pairF,Fo.len,maxLen]) (fun b hb2 _=>absurd hb2 id) (TB.of HX1.out.mkr (by have:=HX1.out.lts;omega) _ (Nat.le_refl _)))
     refine goH hK ⟨HX2.out.mkr.row,H82.out⟩ fun hHeld=>?_
     clear hK K
     obtain⟨w2,hw⟩ : ∃ wx,w1.alloc (.cells (hdc ⟨13,0,0,0,nm⟩ (.slice none 0 0)++hdc ⟨1,0,1+z,0,[]⟩ (.slice none 0 0)).toArray 40)=wx:=⟨_,rfl⟩
     obtain⟨gp,hgp⟩ : ∃ gp,w1.heap.size=gp:=⟨_,rfl⟩
     have hw2:=hw
     simp only [List.cons_append,List.nil_append] at hw2
     (try rw [hw2])
     rw [hw] at HX2 H82 HA2
     (try rw [hw] at hHeld)
     (try rw [hw2] at hHeld)
     rw [hgp] at HA2 ⊢
     clear hw hw2 hgp hb
     refine wpAnyH_ready (rs:=[9,11]) (by kernel_rfl) (by simp) ?_
     refine AllReadyH.cons rfl (fun K hK=>?_) (AllReadyH.cons rfl (fun K hK=>?_) AllReadyH.nil)
     ·go_simp
      refine(node_any _ _ _ _ _ _).mono ?_
      rintro e w3 ⟨rfl,hb⟩
      have HX3:=Lib.hid (HX2.out.below hb)
      have H83:=Lib.hid ((hb.block g8 (heap_lt H82.out)).trans H82.out)
      have HA3:=Lib.hid (HA2.out.keep (Q:=TB (g+1) M) (fun b hb2 hlt=>⟨hb.block b hlt,hb2⟩) hb.size)
      refine goH hK ⟨HX3.out.mkr.row,H83.out⟩ fun hHeld=>?_
      clear hK K hb
      refine wpAnyH_ready (rs:=[10,11]) (by kernel_rfl) (by simp) ?_
      refine AllReadyH.cons rfl (fun K hK=>?_) (AllReadyH.cons rfl (fun K hK=>?_) AllReadyH.nil)
      ·go_simp
       refine(one_any _ _ ⟨6,8,0,0,[]⟩ _ _ _ _).mono ?_
       rintro e w4 ⟨gq,rfl,hgq,hrq,hb⟩
       have HX4:=Lib.hid (HX3.out.below hb)
       have H84:=Lib.hid ((hb.block g8 (heap_lt H83.out)).trans H83.out)
       have HA4:=Lib.hid (args_block (P:=TB (g+1) M) hrq (HA3.out.keep (Q:=TB (g+1) M) (fun b hb2 hlt=>⟨hb.block b hlt,hb2⟩) hb.size) (TB.of HX3.out.mkr (by have:=HX3.out.lts;omega) _ hgq))
       refine goH hK ⟨HX4.out.mkr.row,H84.out⟩ fun hHeld=>?_
       clear hK K hb hgq hrq
       refine rdH 11 fun K hK=>?_
       ·go_simp
        have hb:=below_alloc w4 (.cells #[.int .i64 0,.int .i64 0,.string { data := #[] },.slice none 0 0,.slice none 0 0,.slice none 0 0] 83)
        have hr:=heap_alloc_new w4 (.cells #[.int .i64 0,.int .i64 0,.string { data := #[] },.slice none 0 0,.slice none 0 0,.slice none 0 0] 83)
        have HX5:=Lib.hid (HX4.out.below hb)
        have H85:=Lib.hid ((hb.block g8 (heap_lt H84.out)).trans H84.out)
        have HG9:Hid (g<w4.heap.size/\g8<w4.heap.size):=Lib.hid ⟨HX4.out.lts,heap_lt H84.out⟩
        have HA5:=Lib.hid (HA4.out.keep (Q:=fun b=>TB (g+1) M b/\b≠w4.heap.size) (fun b hb2 hlt=>⟨hb.block b hlt,hb2,by omega⟩) hb.size)
        refine goH hK ⟨HX5.out.mkr.row,H85.out⟩ fun hHeld=>?_
        clear hK K
        obtain⟨w5,hw⟩ : ∃ wx,w4.alloc (.cells #[.int .i64 0,.int .i64 0,.string { data := #[] },.slice none 0 0,.slice none 0 0,.slice none 0 0] 83)=wx:=⟨_,rfl⟩
        obtain⟨g9,hg9⟩ : ∃ g9,w4.heap.size=g9:=⟨_,rfl⟩
        rw [hw] at hr HX5 H85 hHeld HA5 ⊢
        rw [hg9] at hr HG9 HA5 ⊢
        have H95:=Lib.hid hr
        clear hw hg9 hb hr
        obtain⟨p0,p1,p2,p3,p4,p5⟩:=cells6 H95.out
        have s0:=frozen_of_row _ g9 0 _ _ H95.out
        have s1:=frozen_of_row _ g9 1 _ _ H95.out
        have s2:=frozen_of_row _ g9 2 _ _ H95.out
        have s3:=frozen_of_row _ g9 3 _ _ H95.out
        have s4:=frozen_of_row _ g9 4 _ _ H95.out
        have s5:=frozen_of_row _ g9 5 _ _ H95.out
        have jl:=heap_lt H95.out
        refine rdH 12 fun K hK=>?_
        go_simp
        have HXF:=HX5.out.setTree6 ⟨_,_,_,H95.out,.inr rfl⟩ HG9.out.1 (.int .i64 5) (.int .i64 0) (.string (st [])) (.slice (some ⟨gq,0,none⟩) 1 1) (.slice none 0 0) (.slice none 0 0)
        refine goH hK ⟨HXF.mkr.row,(other_set6 g8 (by have:=HG9.out;omega)).trans H85.out⟩ fun hHeld=>?_
        clear hK K
        refine wpAnyH_done (by kernel_rfl) ?_ _
        go_wp2_with fail
        go_meet
        exact⟨g9,gq,1+z,rfl,by omega,by omega,Lib.hid ⟨HXF,(other_set6 g8 (by have:=HG9.out;omega)).trans H85.out,heap_set6 H95.out,HA5.out.keep (fun b hb _=>⟨other_set6 b hb.2,hb⟩) (by rw [size_set6];exact Nat.le_refl _),HG9.out.2⟩⟩
      ·go_simp
       have hb:=below_alloc w3 (.cells #[.int .i64 0,.int .i64 0,.string { data := #[] },.slice none 0 0,.slice none 0 0,.slice none 0 0] 83)
       have hr:=heap_alloc_new w3 (.cells #[.int .i64 0,.int .i64 0,.string { data := #[] },.slice none 0 0,.slice none 0 0,.slice none 0 0] 83)
       have HX6:=Lib.hid (HX3.out.below hb)
       have H86:=Lib.hid ((hb.block g8 (heap_lt H83.out)).trans H83.out)
       have HG9:Hid (g<w3.heap.size/\g8<w3.heap.size):=Lib.hid ⟨HX3.out.lts,heap_lt H83.out⟩
       have HA6:=Lib.hid (HA3.out.keep (Q:=fun b=>TB (g+1) M b/\b≠w3.heap.size) (fun b hb2 hlt=>⟨hb.block b hlt,hb2,by omega⟩) hb.size)
       refine goH hK ⟨HX6.out.mkr.row,H86.out⟩ fun hHeld=>?_
       clear hK K
       obtain⟨w6,hw⟩ : ∃ wx,w3.alloc (.cells #[.int .i64 0,.int .i64 0,.string { data := #[] },.slice none 0 0,.slice none 0 0,.slice none 0 0] 83)=wx:=⟨_,rfl⟩
       obtain⟨g9,hg9⟩ : ∃ g9,w3.heap.size=g9:=⟨_,rfl⟩
       rw [hw] at hr HX6 H86 hHeld HA6 ⊢
       rw [hg9] at hr HG9 HA6 ⊢
       have H96:=Lib.hid hr
       clear hw hg9 hb hr
       refine rdH 10 fun K hK=>?_
       ·go_simp
        refine(one_any _ _ ⟨6,8,0,0,[]⟩ _ _ _ _).mono ?_
        rintro e w7 ⟨gq,rfl,hgq,hrq,hb⟩
        have HX7:=Lib.hid (HX6.out.below hb)
        have H87:=Lib.hid ((hb.block g8 (heap_lt H86.out)).trans H86.out)
        have H97:=Lib.hid ((hb.block g9 (heap_lt H96.out)).trans H96.out)
        have HA7:=Lib.hid (args_block (P:=fun b=>TB (g+1) M b/\b≠g9) hrq (HA6.out.keep (Q:=fun b=>TB (g+1) M b/\b≠g9) (fun b hb2 hlt=>⟨hb.block b hlt,hb2⟩) hb.size) ⟨TB.of HX6.out.mkr (by have:=HX6.out.lts;omega) _ hgq,by have:=heap_lt H96.out;omega⟩)
        refine goH hK ⟨HX7.out.mkr.row,H87.out⟩ fun hHeld=>?_
        clear hK K hb hgq hrq
        obtain⟨p0,p1,p2,p3,p4,p5⟩:=cells6 H97.out
        have s0:=frozen_of_row _ g9 0 _ _ H97.out
        have s1:=frozen_of_row _ g9 1 _ _ H97.out
        have s2:=frozen_of_row _ g9 2 _ _ H97.out
        have s3:=frozen_of_row _ g9 3 _ _ H97.out
        have s4:=frozen_of_row _ g9 4 _ _ H97.out
        have s5:=frozen_of_row _ g9 5 _ _ H97.out
        have jl:=heap_lt H97.out
        refine rdH 12 fun K hK=>?_
        go_simp
        have HXF:=HX7.out.setTree6 ⟨_,_,_,H97.out,.inr rfl⟩ HG9.out.1 (.int .i64 5) (.int .i64 0) (.string (st [])) (.slice (some ⟨gq,0,none⟩) 1 1) (.slice none 0 0) (.slice none 0 0)
        refine goH hK ⟨HXF.mkr.row,(other_set6 g8 (by have:=HG9.out;omega)).trans H87.out⟩ fun hHeld=>?_
        clear hK K
        refine wpAnyH_done (by kernel_rfl) ?_ _
        go_wp2_with fail
        go_meet
        exact⟨g9,gq,1+z,rfl,by omega,by omega,Lib.hid ⟨HXF,(other_set6 g8 (by have:=HG9.out;omega)).trans H87.out,heap_set6 H97.out,HA7.out.keep (fun b hb _=>⟨other_set6 b hb.2,hb⟩) (by rw [size_set6];exact Nat.le_refl _),HG9.out.2⟩⟩
     ·go_simp
      have hb:=below_alloc w2 (.cells #[.int .i64 0,.int .i64 0,.string { data := #[] },.slice none 0 0,.slice none 0 0,.slice none 0 0] 83)
      have hr:=heap_alloc_new w2 (.cells #[.int .i64 0,.int .i64 0,.string { data := #[] },.slice none 0 0,.slice none 0 0,.slice none 0 0] 83)
      have HX8:=Lib.hid (HX2.out.below hb)
      have H88:=Lib.hid ((hb.block g8 (heap_lt H82.out)).trans H82.out)
      have HG9:Hid (g<w2.heap.size/\g8<w2.heap.size):=Lib.hid ⟨HX2.out.lts,heap_lt H82.out⟩
      have HA8:=Lib.hid (HA2.out.keep (Q:=fun b=>TB (g+1) M b/\b≠w2.heap.size) (fun b hb2 hlt=>⟨hb.block b hlt,hb2,by omega⟩) hb.size)
      refine goH hK ⟨HX8.out.mkr.row,H88.out⟩ fun hHeld=>?_
      clear hK K
      obtain⟨w8,hw⟩ : ∃ wx,w2.alloc (.cells #[.int .i64 0,.int .i64 0,.string { data := #[] },.slice none 0 0,.slice none 0 0,.slice none 0 0] 83)=wx:=⟨_,rfl⟩
      obtain⟨g9,hg9⟩ : ∃ g9,w2.heap.size=g9:=⟨_,rfl⟩
      rw [hw] at hr HX8 H88 hHeld HA8 ⊢
      rw [hg9] at hr HG9 HA8 ⊢
      have H98:=Lib.hid hr
      clear hw hg9 hb hr
      refine rdH 9 fun K hK=>?_
      ·go_simp
       refine(node_any _ _ _ _ _ _).mono ?_
       rintro e w9 ⟨rfl,hb⟩
       have HX9:=Lib.hid (HX8.out.below hb)
       have H89:=Lib.hid ((hb.block g8 (heap_lt H88.out)).trans H88.out)
       have H99:=Lib.hid ((hb.block g9 (heap_lt H98.out)).trans H98.out)
       have HA9:=Lib.hid (HA8.out.keep (Q:=fun b=>TB (g+1) M b/\b≠g9) (fun b hb2 hlt=>⟨hb.block b hlt,hb2⟩) hb.size)
       refine goH hK ⟨HX9.out.mkr.row,H89.out⟩ fun hHeld=>?_
       clear hK K hb
       refine rdH 10 fun K hK=>?_
       ·go_simp
        refine(one_any _ _ ⟨6,8,0,0,[]⟩ _ _ _ _).mono ?_
        rintro e w10 ⟨gq,rfl,hgq,hrq,hb⟩
        have HX10:=Lib.hid (HX9.out.below hb)
        have H810:=Lib.hid ((hb.block g8 (heap_lt H89.out)).trans H89.out)
        have H910:=Lib.hid ((hb.block g9 (heap_lt H99.out)).trans H99.out)
        have HA10:=Lib.hid (args_block (P:=fun b=>TB (g+1) M b/\b≠g9) hrq (HA9.out.keep (Q:=fun b=>TB (g+1) M b/\b≠g9) (fun b hb2 hlt=>⟨hb.block b hlt,hb2⟩) hb.size) ⟨TB.of HX9.out.mkr (by have:=HX9.out.lts;omega) _ hgq,by have:=heap_lt H99.out;omega⟩)
        refine goH hK ⟨HX10.out.mkr.row,H810.out⟩ fun hHeld=>?_
        clear hK K hb hgq hrq
        obtain⟨p0,p1,p2,p3,p4,p5⟩:=cells6 H910.out
        have s0:=frozen_of_row _ g9 0 _ _ H910.out
        have s1:=frozen_of_row _ g9 1 _ _ H910.out
        have s2:=frozen_of_row _ g9 2 _ _ H910.out
        have s3:=frozen_of_row _ g9 3 _ _ H910.out
        have s4:=frozen_of_row _ g9 4 _ _ H910.out
        have s5:=frozen_of_row _ g9 5 _ _ H910.out
        have jl:=heap_lt H910.out
        refine rdH 12 fun K hK=>?_
        go_simp
        have HXF:=HX10.out.setTree6 ⟨_,_,_,H910.out,.inr rfl⟩ HG9.out.1 (.int .i64 5) (.int .i64 0) (.string (st [])) (.slice (some ⟨gq,0,none⟩) 1 1) (.slice none 0 0) (.slice none 0 0)
        refine goH hK ⟨HXF.mkr.row,(other_set6 g8 (by have:=HG9.out;omega)).trans H810.out⟩ fun hHeld=>?_
        clear hK K
        refine wpAnyH_done (by kernel_rfl) ?_ _
        go_wp2_with fail
        go_meet
        exact⟨g9,gq,1+z,rfl,by omega,by omega,Lib.hid ⟨HXF,(other_set6 g8 (by have:=HG9.out;omega)).trans H810.out,heap_set6 H910.out,HA10.out.keep (fun b hb _=>⟨other_set6 b hb.2,hb⟩) (by rw [size_set6];exact Nat.le_refl _),HG9.out.2⟩⟩
    ·go_simp
     have hb:=below_alloc w1 (.cells #[.int .i64 0,.int .i64 0,.string { data := #[] },.slice none 0 0,.slice none 0 0,.slice none 0 0] 83)
     have hr:=heap_alloc_new w1 (.cells #[.int .i64 0,.int .i64 0,.string { data := #[] },.slice none 0 0,.slice none 0 0,.slice none 0 0] 83)
     have HX11:=Lib.hid (HX1.out.below hb)
     have H811:=Lib.hid ((hb.block g8 (heap_lt H81.out)).trans H81.out)
     have HG9:Hid (g<w1.heap.size/\g8<w1.heap.size):=Lib.hid ⟨HX1.out.lts,heap_lt H81.out⟩
     refine goH hK ⟨HX11.out.mkr.row,H811.out⟩ fun hHeld=>?_
     clear hK K
     obtain⟨w11,hw⟩ : ∃ wx,w1.alloc (.cells #[.int .i64 0,.int .i64 0,.string { data := #[] },.slice none 0 0,.slice none 0 0,.slice none 0 0] 83)=wx:=⟨_,rfl⟩
     obtain⟨g9,hg9⟩ : ∃ g9,w1.heap.size=g9:=⟨_,rfl⟩
     rw [hw] at hr HX11 H811 hHeld ⊢
     rw [hg9] at hr HG9 ⊢
     have H911:=Lib.hid hr
     clear hw hg9 hb hr
     refine rdH 8 fun K hK=>?_
     ·go_simp
      have hb:=below_alloc w11 (.cells (hdc ⟨13,0,0,0,nm⟩ (.slice none 0 0)++hdc ⟨1,0,1+z,0,[]⟩ (.slice none 0 0)).toArray 40)
      have HX12:=Lib.hid (HX11.out.below hb)
      have H812:=Lib.hid ((hb.block g8 (heap_lt H811.out)).trans H811.out)
      have H912:=Lib.hid ((hb.block g9 (heap_lt H911.out)).trans H911.out)
      have HA12:=Lib.hid (args_made (Q:=fun b=>TB (g+1) M b/\b≠g9) (pair_at w11 nm (1+z)) (by simp [pairF,Fo.len,maxLen]) (fun b hb2 _=>absurd hb2 id) ⟨TB.of HX11.out.mkr (by have:=HX11.out.lts;omega) _ (Nat.le_refl _),by have:=heap_lt H911.out;omega⟩)
      refine goH hK ⟨HX12.out.mkr.row,H812.out⟩ fun hHeld=>?_
      clear hK K
      obtain⟨w12,hw⟩ : ∃ wx,w11.alloc (.cells (hdc ⟨13,0,0,0,nm⟩ (.slice none 0 0)++hdc ⟨1,0,1+z,0,[]⟩ (.slice none 0 0)).toArray 40)=wx:=⟨_,rfl⟩
      obtain⟨gp,hgp⟩ : ∃ gp,w11.heap.size=gp:=⟨_,rfl⟩
      have hw2:=hw
      simp only [List.cons_append,List.nil_append] at hw2
      (try rw [hw2])
      rw [hw] at HX12 H812 HA12 H912
      (try rw [hw] at hHeld)
      (try rw [hw2] at hHeld)
      rw [hgp] at HA12 ⊢
      clear hw hw2 hgp hb
      refine rdH 9 fun K hK=>?_
      ·go_simp
       refine(node_any _ _ _ _ _ _).mono ?_
       rintro e w13 ⟨rfl,hb⟩
       have HX13:=Lib.hid (HX12.out.below hb)
       have H813:=Lib.hid ((hb.block g8 (heap_lt H812.out)).trans H812.out)
       have H913:=Lib.hid ((hb.block g9 (heap_lt H912.out)).trans H912.out)
       have HA13:=Lib.hid (HA12.out.keep (Q:=fun b=>TB (g+1) M b/\b≠g9) (fun b hb2 hlt=>⟨hb.block b hlt,hb2⟩) hb.size)
       refine goH hK ⟨HX13.out.mkr.row,H813.out⟩ fun hHeld=>?_
       clear hK K hb
       refine rdH 10 fun K hK=>?_
       ·go_simp
        refine(one_any _ _ ⟨6,8,0,0,[]⟩ _ _ _ _).mono ?_
        rintro e w14 ⟨gq,rfl,hgq,hrq,hb⟩
        have HX14:=Lib.hid (HX13.out.below hb)
        have H814:=Lib.hid ((hb.block g8 (heap_lt H813.out)).trans H813.out)
        have H914:=Lib.hid ((hb.block g9 (heap_lt H913.out)).trans H913.out)
        have HA14:=Lib.hid (args_block (P:=fun b=>TB (g+1) M b/\b≠g9) hrq (HA13.out.keep (Q:=fun b=>TB (g+1) M b/\b≠g9) (fun b hb2 hlt=>⟨hb.block b hlt,hb2⟩) hb.size) ⟨TB.of HX13.out.mkr (by have:=HX13.out.lts;omega) _ hgq,by have:=heap_lt H913.out;omega⟩)
        refine goH hK ⟨HX14.out.mkr.row,H814.out⟩ fun hHeld=>?_
        clear hK K hb hgq hrq
        obtain⟨p0,p1,p2,p3,p4,p5⟩:=cells6 H914.out
        have s0:=frozen_of_row _ g9 0 _ _ H914.out
        have s1:=frozen_of_row _ g9 1 _ _ H914.out
        have s2:=frozen_of_row _ g9 2 _ _ H914.out
        have s3:=frozen_of_row _ g9 3 _ _ H914.out
        have s4:=frozen_of_row _ g9 4 _ _ H914.out
        have s5:=frozen_of_row _ g9 5 _ _ H914.out
        have jl:=heap_lt H914.out
        refine rdH 12 fun K hK=>?_
        go_simp
        have HXF:=HX14.out.setTree6 ⟨_,_,_,H914.out,.inr rfl⟩ HG9.out.1 (.int .i64 5) (.int .i64 0) (.string (st [])) (.slice (some ⟨gq,0,none⟩) 1 1) (.slice none 0 0) (.slice none 0 0)
        refine goH hK ⟨HXF.mkr.row,(other_set6 g8 (by have:=HG9.out;omega)).trans H814.out⟩ fun hHeld=>?_
        clear hK K
        refine wpAnyH_done (by kernel_rfl) ?_ _
        go_wp2_with fail
        go_meet
        exact⟨g9,gq,1+z,rfl,by omega,by omega,Lib.hid ⟨HXF,(other_set6 g8 (by have:=HG9.out;omega)).trans H814.out,heap_set6 H914.out,HA14.out.keep (fun b hb _=>⟨other_set6 b hb.2,hb⟩) (by rw [size_set6];exact Nat.le_refl _),HG9.out.2⟩⟩
   ·go_simp
    have hb:=below_alloc w0 (.cells #[.int .i64 0,.int .i64 0,.string { data := #[] },.slice none 0 0,.slice none 0 0,.slice none 0 0] 83)
    have hr:=heap_alloc_new w0 (.cells #[.int .i64 0,.int .i64 0,.string { data := #[] },.slice none 0 0,.slice none 0 0,.slice none 0 0] 83)
    have HX15:=Lib.hid (HX0.out.below hb)
    have H815:=Lib.hid ((hb.block g8 (heap_lt H80.out)).trans H80.out)
    have HG9:Hid (g<w0.heap.size/\g8<w0.heap.size):=Lib.hid ⟨HX0.out.lts,heap_lt H80.out⟩
    refine goH hK ⟨HX15.out.mkr.row,H815.out⟩ fun hHeld=>?_
    clear hK K
    obtain⟨w15,hw⟩ : ∃ wx,w0.alloc (.cells #[.int .i64 0,.int .i64 0,.string { data := #[] },.slice none 0 0,.slice none 0 0,.slice none 0 0] 83)=wx:=⟨_,rfl⟩
    obtain⟨g9,hg9⟩ : ∃ g9,w0.heap.size=g9:=⟨_,rfl⟩
    rw [hw] at hr HX15 H815 hHeld ⊢
    rw [hg9] at hr HG9 ⊢
    have H915:=Lib.hid hr
    clear hw hg9 hb hr
    refine rdH 5 fun K hK=>?_
    ·go_simp
     refine(Next_any gc 5 (by omega) _ HX15.out.mkr.cod).mono ?_
     rintro e w16 ⟨z,rfl,z0,z1,hcod,hg⟩
     have z2:z<5:=by omega
     have HX16:=Lib.hid (HX15.out.grown hg hcod)
     have H816:=Lib.hid ((hg.block g8 (heap_lt H815.out) (by simp;have:=HG8.out;have:=HLC.out;omega)).trans H815.out)
     have H916:=Lib.hid ((hg.block g9 (heap_lt H915.out) (by simp;have:=HG9.out;have:=HLC.out;omega)).trans H915.out)
     refine goH hK ⟨HX16.out.mkr.row,H816.out⟩ fun hHeld=>?_
     clear hK K hcod hg z1
     have hwz:IntKind.i64.wrap (1+z)=1+z:=by unfold IntKind.wrap;simp [IntKind.signed,IntKind.bits];omega
     refine tkH 6 78 ?_
     refine tkH 7 79 ?_
     refine rdH 8 fun K hK=>?_
     ·go_simp
      have hb:=below_alloc w16 (.cells (hdc ⟨13,0,0,0,nm⟩ (.slice none 0 0)++hdc ⟨1,0,1+z,0,[]⟩ (.slice none 0 0)).toArray 40)
      have HX17:=Lib.hid (HX16.out.below hb)
      have H817:=Lib.hid ((hb.block g8 (heap_lt H816.out)).trans H816.out)
      have H917:=Lib.hid ((hb.block g9 (heap_lt H916.out)).trans H916.out)
      have HA17:=Lib.hid (args_made (Q:=fun b=>TB (g+1) M b/\b≠g9) (pair_at w16 nm (1+z)) (by simp [pairF,Fo.len,maxLen]) (fun b hb2 _=>absurd hb2 id) ⟨TB.of HX16.out.mkr (by have:=HX16.out.lts;omega) _ (Nat.le_refl _),by have:=heap_lt H916.out;omega⟩)
      refine goH hK ⟨HX17.out.mkr.row,H817.out⟩ fun hHeld=>?_
      clear hK K
      obtain⟨w17,hw⟩ : ∃ wx,w16.alloc (.cells (hdc ⟨13,0,0,0,nm⟩ (.slice none 0 0)++hdc ⟨1,0,1+z,0,[]⟩ (.slice none 0 0)).toArray 40)=wx:=⟨_,rfl⟩
      obtain⟨gp,hgp⟩ : ∃ gp,w16.heap.size=gp:=⟨_,rfl⟩
      have hw2:=hw
      simp only [List.cons_append,List.nil_append] at hw2
      (try rw [hw2])
      rw [hw] at HX17 H817 HA17 H917
      (try rw [hw] at hHeld)
      (try rw [hw2] at hHeld)
      rw [hgp] at HA17 ⊢
      clear hw hw2 hgp hb
      refine rdH 9 fun K hK=>?_
      ·go_simp
       refine(node_any _ _ _ _ _ _).mono ?_
       rintro e w18 ⟨rfl,hb⟩
       have HX18:=Lib.hid (HX17.out.below hb)
       have H818:=Lib.hid ((hb.block g8 (heap_lt H817.out)).trans H817.out)
       have H918:=Lib.hid ((hb.block g9 (heap_lt H917.out)).trans H917.out)
       have HA18:=Lib.hid (HA17.out.keep (Q:=fun b=>TB (g+1) M b/\b≠g9) (fun b hb2 hlt=>⟨hb.block b hlt,hb2⟩) hb.size)
       refine goH hK ⟨HX18.out.mkr.row,H818.out⟩ fun hHeld=>?_
       clear hK K hb
       refine rdH 10 fun K hK=>?_
       ·go_simp
        refine(one_any _ _ ⟨6,8,0,0,[]⟩ _ _ _ _).mono ?_
        rintro e w19 ⟨gq,rfl,hgq,hrq,hb⟩
        have HX19:=Lib.hid (HX18.out.below hb)
        have H819:=Lib.hid ((hb.block g8 (heap_lt H818.out)).trans H818.out)
        have H919:=Lib.hid ((hb.block g9 (heap_lt H918.out)).trans H918.out)
        have HA19:=Lib.hid (args_block (P:=fun b=>TB (g+1) M b/\b≠g9) hrq (HA18.out.keep (Q:=fun b=>TB (g+1) M b/\b≠g9) (fun b hb2 hlt=>⟨hb.block b hlt,hb2⟩) hb.size) ⟨TB.of HX18.out.mkr (by have:=HX18.out.lts;omega) _ hgq,by have:=heap_lt H918.out;omega⟩)
        refine goH hK ⟨HX19.out.mkr.row,H819.out⟩ fun hHeld=>?_
        clear hK K hb hgq hrq
        obtain⟨p0,p1,p2,p3,p4,p5⟩:=cells6 H919.out
        have s0:=frozen_of_row _ g9 0 _ _ H919.out
        have s1:=frozen_of_row _ g9 1 _ _ H919.out
        have s2:=frozen_of_row _ g9 2 _ _ H919.out
        have s3:=frozen_of_row _ g9 3 _ _ H919.out
        have s4:=frozen_of_row _ g9 4 _ _ H919.out
        have s5:=frozen_of_row _ g9 5 _ _ H919.out
        have jl:=heap_lt H919.out
        refine rdH 12 fun K hK=>?_
        go_simp
        have HXF:=HX19.out.setTree6 ⟨_,_,_,H919.out,.inr rfl⟩ HG9.out.1 (.int .i64 5) (.int .i64 0) (.string (st [])) (.slice (some ⟨gq,0,none⟩) 1 1) (.slice none 0 0) (.slice none 0 0)
        refine goH hK ⟨HXF.mkr.row,(other_set6 g8 (by have:=HG9.out;omega)).trans H819.out⟩ fun hHeld=>?_
        clear hK K
        refine wpAnyH_done (by kernel_rfl) ?_ _
        go_wp2_with fail
        go_meet
        exact⟨g9,gq,1+z,rfl,by omega,by omega,Lib.hid ⟨HXF,(other_set6 g8 (by have:=HG9.out;omega)).trans H819.out,heap_set6 H919.out,HA19.out.keep (fun b hb _=>⟨other_set6 b hb.2,hb⟩) (by rw [size_set6];exact Nat.le_refl _),HG9.out.2⟩⟩
  case rest =>
   obtain⟨g9,gq,z,rfl,hz1,hz5,HX9⟩:=hcut
   clear HX8 H8
   clear w8
   obtain⟨c0,c3,jm⟩:=HC.out _ HX9.out.1
   go_wp2_with fail
   refine(Next_any gc 3 (by omega) _ HX9.out.1.mkr.cod).mono ?_
   rintro e wN ⟨y,rfl,y0,y1,hcod,hg⟩
   have y2:y<3:=by omega
   have HXN:=Lib.hid (HX9.out.1.grown hg hcod)
   have HG9:Hid (g<g8/\g8<g9/\g9<wN.heap.size):=Lib.hid ⟨HG8.out,HX9.out.2.2.2.2,by have:=heap_lt HX9.out.2.2.1;have:=hg.size;omega⟩
   have H8N:=Lib.hid ((hg.block g8 (heap_lt HX9.out.2.1) (by simp;have:=HLC.out;have:=HG9.out;omega)).trans HX9.out.2.1)
   have H9N:=Lib.hid ((hg.block g9 (heap_lt HX9.out.2.2.1) (by simp;have:=HLC.out;have:=HG9.out;omega)).trans HX9.out.2.2.1)
   have HAN:Hid (ArgsAt wN (fun b=>TB (g+1) M b/\b≠g9/\b<wN.heap.size) (one1 ⟨6,8,0,0,[]⟩ (pairF nm z)) (.slice (some ⟨gq,0,none⟩) 1 1)):=Lib.hid (HX9.out.2.2.2.1.keep (fun b hb hlt=>⟨hg.block b hlt (by simp;have:=hb.1.1;have:=HLC.out;omega),hb.1,hb.2,by have:=hg.size;omega⟩) hg.size)
   clear hcod hg c0 c3 jm HX9 y1
   have hcall:=HBK.out M wN y (by omega) (by omega) HXN.out.mkr HH.out.1 (by have:=HH.out.2;omega)
   have HCL:=Lib.hid hcall
   clear hcall
   go_wp2_with fail
   refine HCL.out.mono ?_
   rintro e wB ⟨S,sl,xs,M1,rfl,hown,hS,hch,hmk,hb0,hb9,hw,hcst,hnst,hhgt⟩
   have HXB:=Lib.hid (HXN.out.step hch hmk)
   have H8B:=Lib.hid (step_row hch HXN.out.mkr H8N.out ⟨_,_,_,H8N.out,.inl rfl⟩ (by have:=HLC.out;have:=HG9.out;omega) (by have:=HLC.out;have:=HG9.out;omega))
   have H9B:=Lib.hid (step_row hch HXN.out.mkr H9N.out ⟨_,_,_,H9N.out,.inr rfl⟩ (by have:=HLC.out;have:=HG9.out;omega) (by have:=HLC.out;have:=HG9.out;omega))
   obtain⟨lb,hlb⟩ : ∃ lb,wN.heap.size=lb:=⟨_,rfl⟩
   have HAB:Hid (ArgsAt wB (fun b=>TB (g+1) M1 b/\b≠g9/\b<lb) (one1 ⟨6,8,0,0,[]⟩ (pairF nm z)) (.slice (some ⟨gq,0,none⟩) 1 1)):=Lib.hid (HAN.out.keep (fun b hb hlt=>⟨(hch.kp (lo:=g+1) (by have:=HLC.out;omega) (by have:=HLC.out;omega) b hb.1 hlt).1,(hch.kp (lo:=g+1) (by have:=HLC.out;omega) (by have:=HLC.out;omega) b hb.1 hlt).2,hb.2.1,by omega⟩) hch.size)
   rw [hlb] at hown hS HG9
   have HOB:=Lib.hid hown
   have HSB:=Lib.hid hS
   have HSN:Hid (S.len<=1300):=Lib.hid (by have:=sf_len_cst S;have:=HH.out;omega)
   have HGD:=Lib.hid (good_while (deep:=deep) (M:=M) (M1:=M1) (S:=S) HNM.out hz1 hz5 hb0 hb9 hw hcst hnst hhgt)
   obtain⟨asl,csl,rfl,hS1,hS2,hS3,-,-⟩:=Cells.of_own hown
   have HLB:Hid (lb<=wB.heap.size):=Lib.hid (by have:=hch.size;omega)
   clear hown hS hch hmk hb0 hb9 hw hcst hnst hhgt HXN H8N H9N HAN HCL hlb hS1
   clear wN
   have j4:=frozen_of_row _ g9 4 _ _ H9B.out
   have k4:=cell_of_row _ _ 4 _ _ _ H9B.out
   have jg9:=heap_lt H9B.out
   go_upto_region 11 with fail
   have HXS:=Lib.hid (HXB.out.setTree ⟨_,_,_,H9B.out,.inr rfl⟩ (by have:=HG9.out;omega) 4 (.slice asl S.len csl))
   have H8S:=Lib.hid ((heap_setCell_other wB ⟨g9,4,none⟩ g8 (.slice asl S.len csl) (by have:=HG9.out;show g8≠g9;omega)).trans H8B.out)
   have H9S:Hid ((wB.setCell ⟨g9,4,none⟩ (.slice asl S.len csl)).heap[g9]?=some (srow 5 [] (.slice (some ⟨gq,0,none⟩) 1 1) (.slice asl S.len csl) (.slice none 0 0))):=Lib.hid (heap_setCell_same _ g9 4 _ _ (.slice asl S.len csl) H9B.out)
   have HAS:=Lib.hid (HAB.out.keep (w':=wB.setCell ⟨g9,4,none⟩ (.slice asl S.len csl)) (Q:=fun b=>TB (g+1) M1 b/\b≠g9/\b<lb) (fun b hb _=>⟨heap_setCell_other wB ⟨g9,4,none⟩ b _ hb.2.1,hb⟩) (by simp [World.setCell]))
   have HSS:=Lib.hid (HSB.out.keep (w':=wB.setCell ⟨g9,4,none⟩ (.slice asl S.len csl)) (Q:=fun b=>TB lb M1 b/\some b≠(Value.slice asl S.len csl).ownBlock) (fun b hb _=>⟨heap_setCell_other wB ⟨g9,4,none⟩ b _ (by have:=hb.1.1;have:=HG9.out;show b≠g9;omega),hb⟩) (by simp [World.setCell]))
   have HOS:=Lib.hid (own_same (w':=wB.setCell ⟨g9,4,none⟩ (.slice asl S.len csl)) HOB.out (fun q hq=>heap_setCell_other wB ⟨g9,4,none⟩ q _ (by have:=(HOB.out.lt q hq).1;have:=HG9.out;show q≠g9;omega)))
   have HLS:Hid (lb<=(wB.setCell ⟨g9,4,none⟩ (.slice asl S.len csl)).heap.size /\ ∀ q,(Value.slice asl S.len csl).ownBlock=some q->q<(wB.setCell ⟨g9,4,none⟩ (.slice asl S.len csl)).heap.size):=Lib.hid ⟨by simp [World.setCell];exact HLB.out,fun q hq=>(HOS.out.lt q hq).2⟩
   obtain⟨wS,hwS⟩ : ∃ wS,wB.setCell ⟨g9,4,none⟩ (.slice asl S.len csl)=wS:=⟨_,rfl⟩
   rw [hwS] at HXS H8S H9S HAS HSS HOS HLS ⊢
   clear hwS j4 k4 jg9 HXB H8B H9B HAB HOB HSB HLB
   clear wB
   go_cut [] from 93 to 103 (fun wx => ∃ (a11:Option Addr) (c11:Nat),Hid (StW w gc gm M M1 g wx/\wx.heap[g9]?=some (srow 5 [] (.slice (some ⟨gq,0,none⟩) 1 1) (.slice a11 (S.len+1) c11) (.slice none 0 0))/\ArgsAt wx (TB (g+1) M1) (one1 ⟨6,8,0,0,[]⟩ (pairF nm z)) (.slice (some ⟨gq,0,none⟩) 1 1)/\StsAt wx (TB (g+1) M1) (S.app (oneS 2 0 nm (one1 ⟨6,3,0,0,[]⟩ (pairF nm 1)) .nil .nil)) (.slice a11 (S.len+1) c11)))
   case first =>
    refine wp_region_held_drew (S:=(fun w'=>w'.heap[g8]?=some (nrow nm))) (by kernel_rfl) H8S.out (fun hHeld=>?_)
    refine tkH 0 93 ?_
    refine tkH 2 95 ?_
    refine wpAnyH_takeD (i:=3) (d:=some 96) (v:=?_) rfl (by kernel_rfl) (by kernel_rfl) (by kernel_rfl) (by kernel_rfl) (fun _ _ _ h=>h) (Or.inl ⟨by kernel_rfl,?_⟩) (by assumption) ?_
    rotate_left
    ·(intro w hSw;obtain⟨p0,p1,p2,p3,p4,p5⟩:=cells6 hSw;(try dsimp only at hSw);go_simp;try with_reducible rfl)
    (try simp only [Act.put,List.setIfInBounds_toArray,List.set_cons_zero,List.set_cons_succ])
    refine tkH 4 97 ?_
    have HX0:=Lib.hid (HXS.out.grown (grownBy_drewN wS 1 (some gc)) HXS.out.mkr.cod.drew)
    have H80:Hid (wS.drew.heap[g8]?=some (nrow nm)):=H8S
    have H90:Hid (wS.drew.heap[g9]?=some (srow 5 [] (.slice (some ⟨gq,0,none⟩) 1 1) (.slice asl S.len csl) (.slice none 0 0))):=H9S
    have HA0:=Lib.hid (HAS.out.keep (w':=wS.drew) (Q:=fun b=>TB (g+1) M1 b/\b≠g9/\b<lb) (fun b hb _=>⟨rfl,hb⟩) (Nat.le_refl _))
    have HS0:=Lib.hid (HSS.out.keep (w':=wS.drew) (Q:=fun b=>TB lb M1 b/\some b≠(Value.slice asl S.len csl).ownBlock) (fun b hb _=>⟨rfl,hb⟩) (Nat.le_refl _))
    have HO0:=Lib.hid (own_same (w':=wS.drew) HOS.out (fun q _=>rfl))
    have HVB:Hid (∀ b,wS.heap.size<=b->some b≠M1.vl.ownBlock):=Lib.hid (fun b hb e=>by have:=(HXS.out.mkr.lo.lt b e.symm).2;omega)
    have HW0:Hid (wS.heap.size<=wS.drew.heap.size):=Lib.hid (Nat.le_refl _)
    have HSL:Hid (S.len+1<=maxLen/\(S.len+1) * 104<=140737488355328):=Lib.hid (by have:=HSN.out;unfold maxLen;omega)
    obtain⟨lw,hlw⟩ : ∃ lw,wS.heap.size=lw:=⟨_,rfl⟩
    obtain⟨w0,hw0⟩ : ∃ wx,wS.drew=wx:=⟨_,rfl⟩
    rw [show wS.drewN 1=w0 from hw0] at HX0
    rw [hw0] at H80 H90 HA0 HS0 HO0 HW0 hHeld ⊢
    rw [hlw] at HVB HW0 HLS
    clear hw0 hlw
    refine wpAnyH_ready (rs:=[1,5]) (by kernel_rfl) (by simp) ?_
    refine AllReadyH.cons rfl (fun K hK=>?_) (AllReadyH.cons rfl (fun K hK=>?_) AllReadyH.nil)
    ·have p4:=cell_of_row _ _ 4 _ _ _ H90.out
     go_simp
     refine goH hK H80.out fun hHeld=>?_
     clear hK K p4
     refine rdH 5 fun K hK=>?_
     ·go_simp
      have hb:=below_alloc w0 (.cells (hdc ⟨13,0,0,0,nm⟩ (.slice none 0 0)++hdc ⟨1,0,1,0,[]⟩ (.slice none 0 0)).toArray 40)
      have HX20:=Lib.hid (HX0.out.below hb)
      have H820:=Lib.hid ((hb.block g8 (heap_lt H80.out)).trans H80.out)
      have H920:=Lib.hid ((hb.block g9 (heap_lt H90.out)).trans H90.out)
      have HA20:=Lib.hid (HA0.out.keep (Q:=fun b=>TB (g+1) M1 b/\b≠g9/\b<lb) (fun b hb2 hlt=>⟨hb.block b hlt,hb2⟩) hb.size)
      have HO20:=Lib.hid (own_same HO0.out (fun q hq=>hb.block q (HO0.out.lt q hq).2))
      have HS20:=Lib.hid (HS0.out.keep (Q:=fun b=>TB lb M1 b/\some b≠(Value.slice asl S.len csl).ownBlock) (fun b hb2 hlt=>⟨hb.block b hlt,hb2⟩) hb.size)
      have HW20:Hid (lw<=_):=Lib.hid (Nat.le_trans HW0.out hb.size)
      have HB20:=Lib.hid (args_made (Q:=fun b=>lw<=b) (pair_at w0 nm 1) (by simp [pairF,Fo.len,maxLen]) (fun b hb2 _=>absurd hb2 id) HW0.out)
      refine goH hK H820.out fun hHeld=>?_
      clear hK K
      obtain⟨w20,hw⟩ : ∃ wx,w0.alloc (.cells (hdc ⟨13,0,0,0,nm⟩ (.slice none 0 0)++hdc ⟨1,0,1,0,[]⟩ (.slice none 0 0)).toArray 40)=wx:=⟨_,rfl⟩
      obtain⟨gp,hgp⟩ : ∃ gp,w0.heap.size=gp:=⟨_,rfl⟩
      have hw2:=hw
      simp only [List.cons_append,List.nil_append] at hw2
      (try rw [hw2])
      rw [hw] at HX20 H820 H920 HA20 HO20 HS20 HW20 HB20
      (try rw [hw] at hHeld)
      (try rw [hw2] at hHeld)
      rw [hgp] at HB20 ⊢
      clear hw hw2 hgp hb
      refine rdH 6 fun K hK=>?_
      ·go_simp
       refine(node_any _ _ _ _ _ _).mono ?_
       rintro e w21 ⟨rfl,hb⟩
       have HX21:=Lib.hid (HX20.out.below hb)
       have H821:=Lib.hid ((hb.block g8 (heap_lt H820.out)).trans H820.out)
       have H921:=Lib.hid ((hb.block g9 (heap_lt H920.out)).trans H920.out)
       have HA21:=Lib.hid (HA20.out.keep (Q:=fun b=>TB (g+1) M1 b/\b≠g9/\b<lb) (fun b hb2 hlt=>⟨hb.block b hlt,hb2⟩) hb.size)
       have HO21:=Lib.hid (own_same HO20.out (fun q hq=>hb.block q (HO20.out.lt q hq).2))
       have HS21:=Lib.hid (HS20.out.keep (Q:=fun b=>TB lb M1 b/\some b≠(Value.slice asl S.len csl).ownBlock) (fun b hb2 hlt=>⟨hb.block b hlt,hb2⟩) hb.size)
       have HW21:Hid (lw<=_):=Lib.hid (Nat.le_trans HW20.out hb.size)
       have HB21:=Lib.hid (HB20.out.keep (Q:=fun b=>lw<=b) (fun b hb2 hlt=>⟨hb.block b hlt,hb2⟩) hb.size)
       refine goH hK H821.out fun hHeld=>?_
       clear hK K hb
       refine rdH 7 fun K hK=>?_
       ·go_simp
        refine(one_any _ _ ⟨6,3,0,0,[]⟩ _ _ _ _).mono ?_
        rintro e w22 ⟨gr,rfl,hgr,hrr,hb⟩
        have HX22:=Lib.hid (HX21.out.below hb)
        have H822:=Lib.hid ((hb.block g8 (heap_lt H821.out)).trans H821.out)
        have H922:=Lib.hid ((hb.block g9 (heap_lt H921.out)).trans H921.out)
        have HA22:=Lib.hid (HA21.out.keep (Q:=fun b=>TB (g+1) M1 b/\b≠g9/\b<lb) (fun b hb2 hlt=>⟨hb.block b hlt,hb2⟩) hb.size)
        have HO22:=Lib.hid (own_same HO21.out (fun q hq=>hb.block q (HO21.out.lt q hq).2))
        have HS22:=Lib.hid (HS21.out.keep (Q:=fun b=>TB lb M1 b/\some b≠(Value.slice asl S.len csl).ownBlock) (fun b hb2 hlt=>⟨hb.block b hlt,hb2⟩) hb.size)
        have HW22:Hid (lw<=_):=Lib.hid (Nat.le_trans HW21.out hb.size)
        have HB22:=Lib.hid (args_block (P:=fun b=>lw<=b) hrr (HB21.out.keep (Q:=fun b=>lw<=b) (fun b hb2 hlt=>⟨hb.block b hlt,hb2⟩) hb.size) (by have:=HW21.out;omega))
        refine goH hK H822.out fun hHeld=>?_
        clear hK K hb hgr hrr
        refine rdH 8 fun K hK=>?_
        ·go_simp
         have hb:=below_alloc w22 (.cells (stc 2 0 nm (.slice (some ⟨gr,0,none⟩) 1 1) (.slice none 0 0) (.slice none 0 0)).toArray 83)
         have HX23:=Lib.hid (HX22.out.below hb)
         have H823:=Lib.hid ((hb.block g8 (heap_lt H822.out)).trans H822.out)
         have H923:=Lib.hid ((hb.block g9 (heap_lt H922.out)).trans H922.out)
         have HA23:=Lib.hid (HA22.out.keep (Q:=fun b=>TB (g+1) M1 b/\b≠g9/\b<lb) (fun b hb2 hlt=>⟨hb.block b hlt,hb2⟩) hb.size)
         have HO23:=Lib.hid (own_same HO22.out (fun q hq=>hb.block q (HO22.out.lt q hq).2))
         have HNW23:=Lib.hid (heap_alloc_new w22 (.cells (stc 2 0 nm (.slice (some ⟨gr,0,none⟩) 1 1) (.slice none 0 0) (.slice none 0 0)).toArray 83))
         have HW23:Hid (lw<=_):=Lib.hid (Nat.le_trans HW22.out hb.size)
         refine goH hK H823.out fun hHeld=>?_
         clear hK K
         obtain⟨w23,hw⟩ : ∃ wx,w22.alloc (.cells (stc 2 0 nm (.slice (some ⟨gr,0,none⟩) 1 1) (.slice none 0 0) (.slice none 0 0)).toArray 83)=wx:=⟨_,rfl⟩
         obtain⟨gb,hgb⟩ : ∃ gb,w22.heap.size=gb:=⟨_,rfl⟩
         rw [hw] at HX23 H823 H923 HA23 HO23 HNW23 HW23
         (try rw [hw] at hHeld)
         (try rw [hw])
         rw [hgb] at HNW23 ⊢
         have HEQ:=Lib.hid hw
         have HSK:=HS22
         have HBK2:=HB22
         have HWK:=HW22
         have HOK:=HO22
         have HXK:=HX22
         have hgbs:gb+1=w23.heap.size:=by rw [<- hw,<- hgb];simp
         clear hw hgb hb
         refine rdH 9 fun K hK=>?_
         ·have hlbk:lb<=w23.heap.size:=by have:=HW23.out;have:=HLS.out.1;omega
          refine step_append_lies _ (by rfl) _ _ _ (by rfl) lb 83 i0 _ 6 104 Tryd.underlying64 HI.out HZ0.out HZ1.out HZ2.out rfl (by omega) _ _ _ (by rfl) HO23.out ⟨gb,0,none⟩ 1 1 (stc 2 0 nm (.slice (some ⟨gr,0,none⟩) 1 1) (.slice none 0 0) (.slice none 0 0)) (by rfl) (by rfl) (World.news_of_block (cs:=(stc 2 0 nm (.slice (some ⟨gr,0,none⟩) 1 1) (.slice none 0 0) (.slice none 0 0)).toArray) (t:=83) (fr:=(0,0)) HNW23.out) (by simp [Value.oneCell']) (by omega) HSL.out.1 HSL.out.2 hlbk _ rfl ?_
          intro g11 c11 wF hownF hgF horF hltF
          have HOF:=Lib.hid hownF
          have hown1 : ∀ q,(Value.slice asl S.len csl).ownBlock=some q->lb<=q/\q<lw:=fun q hq=>⟨(HO23.out.lt q hq).1,HLS.out.2 q hq⟩
          have HXF:=Lib.hid (HX23.out.own hgF (fun q hq=>⟨by have:=(hown1 q hq).1;have:=HG9.out;omega,TreeB.of_own HO23.out (.inr rfl) hq⟩))
          have H8F:=Lib.hid ((hgF.block g8 (heap_lt H823.out) (fun e=>by have:=(hown1 g8 e.symm).1;have:=HG9.out;omega)).trans H823.out)
          have H9F:=Lib.hid ((hgF.block g9 (heap_lt H923.out) (fun e=>by have:=(hown1 g9 e.symm).1;have:=HG9.out;omega)).trans H923.out)
          have HAF:=Lib.hid (HA23.out.keep (Q:=fun b=>TB (g+1) M1 b/\b≠g9) (fun b hb2 hlt=>⟨hgF.block b hlt (fun e=>by have:=(hown1 b e.symm).1;have:=hb2.2.2;omega),hb2.1,hb2.2.1⟩) hgF.size)
          have HSF:Hid (SfAt wF (fun b=>TB lb M1 b/\some b≠some g11) (S.app (oneS 2 0 nm (one1 ⟨6,3,0,0,[]⟩ (pairF nm 1)) .nil .nil)) (xs++stc 2 0 nm (.slice (some ⟨gr,0,none⟩) 1 1) (.slice none 0 0) (.slice none 0 0))):=Lib.hid (by
           rw [<- HEQ.out] at hgF horF
           exact sf_push2 HSK.out HOK.out (fun q hq=>(hown1 q hq).2) HLS.out.1 (SfAt.one (HBK2.out.keep (Q:=TB lw M1) (fun b hb2 _=>⟨rfl,hb2,fun e=>HVB.out b hb2 e⟩) (Nat.le_refl _)) (StsAt.nil _ _) (StsAt.nil _ _)) hgF horF)
          refine goH hK H8F.out fun hHeld=>?_
          clear hK K hownF hgF horF hltF hown1 hlbk
          refine tkH 10 103 ?_
          obtain⟨p0,p1,p2,p3,p4,p5⟩:=cells6 H9F.out
          have s4:=frozen_of_row _ g9 4 _ _ H9F.out
          have jl:=heap_lt H9F.out
          refine rdH 11 fun K hK=>?_
          go_simp
          refine goH hK ((heap_setCell_other wF ⟨g9,4,none⟩ g8 _ (by have:=HG9.out;show g8≠g9;omega)).trans H8F.out) fun hHeld=>?_
          clear hK K
          refine wpAnyH_done (by kernel_rfl) ?_ _
          go_wp2_with fail
          go_meet
          have hlen:(S.app (oneS 2 0 nm (one1 ⟨6,3,0,0,[]⟩ (pairF nm 1)) .nil .nil)).len=S.len+1:=by rw [Sf.len_app];rfl
          have hst:=sts_of_own (by rw [hlen];exact HOF.out) HSF.out HXF.out.mkr
          refine⟨some ⟨g11,0,none⟩,c11,Lib.hid ⟨HXF.out.setTree ⟨_,_,_,H9F.out,.inr rfl⟩ (by have:=HG9.out;omega) 4 _,heap_setCell_same _ g9 4 _ _ _ H9F.out,HAF.out.keep (fun b hb _=>⟨heap_setCell_other wF ⟨g9,4,none⟩ b _ hb.2,hb.1⟩) (by simp [World.setCell]),hst.keep (fun b hb _=>⟨heap_setCell_other wF ⟨g9,4,none⟩ b _ (by have:=hb.1;have:=HG9.out;show b≠g9;omega),⟨by have:=hb.1;have:=HG9.out;omega,hb.2⟩⟩) (by simp [World.setCell])⟩⟩
    ·go_simp
     have hb:=below_alloc w0 (.cells (hdc ⟨13,0,0,0,nm⟩ (.slice none 0 0)++hdc ⟨1,0,1,0,[]⟩ (.slice none 0 0)).toArray 40)
     have HX25:=Lib.hid (HX0.out.below hb)
     have H825:=Lib.hid ((hb.block g8 (heap_lt H80.out)).trans H80.out)
     have H925:=Lib.hid ((hb.block g9 (heap_lt H90.out)).trans H90.out)
     have HA25:=Lib.hid (HA0.out.keep (Q:=fun b=>TB (g+1) M1 b/\b≠g9/\b<lb) (fun b hb2 hlt=>⟨hb.block b hlt,hb2⟩) hb.size)
     have HO25:=Lib.hid (own_same HO0.out (fun q hq=>hb.block q (HO0.out.lt q hq).2))
     have HS25:=Lib.hid (HS0.out.keep (Q:=fun b=>TB lb M1 b/\some b≠(Value.slice asl S.len csl).ownBlock) (fun b hb2 hlt=>⟨hb.block b hlt,hb2⟩) hb.size)
     have HW25:Hid (lw<=_):=Lib.hid (Nat.le_trans HW0.out hb.size)
     have HB25:=Lib.hid (args_made (Q:=fun b=>lw<=b) (pair_at w0 nm 1) (by simp [pairF,Fo.len,maxLen]) (fun b hb2 _=>absurd hb2 id) HW0.out)
     refine goH hK H825.out fun hHeld=>?_
     clear hK K
     obtain⟨w25,hw⟩ : ∃ wx,w0.alloc (.cells (hdc ⟨13,0,0,0,nm⟩ (.slice none 0 0)++hdc ⟨1,0,1,0,[]⟩ (.slice none 0 0)).toArray 40)=wx:=⟨_,rfl⟩
     obtain⟨gp,hgp⟩ : ∃ gp,w0.heap.size=gp:=⟨_,rfl⟩
     have hw2:=hw
     simp only [List.cons_append,List.nil_append] at hw2
     (try rw [hw2])
     rw [hw] at HX25 H825 H925 HA25 HO25 HS25 HW25 HB25
     (try rw [hw] at hHeld)
     (try rw [hw2] at hHeld)
     rw [hgp] at HB25 ⊢
     clear hw hw2 hgp hb
     refine wpAnyH_ready (rs:=[1,6]) (by kernel_rfl) (by simp) ?_
     refine AllReadyH.cons rfl (fun K hK=>?_) (AllReadyH.cons rfl (fun K hK=>?_) AllReadyH.nil)
     ·have p4:=cell_of_row _ _ 4 _ _ _ H925.out
      go_simp
      refine goH hK H825.out fun hHeld=>?_
      clear hK K p4
      refine rdH 6 fun K hK=>?_
      ·go_simp
       refine(node_any _ _ _ _ _ _).mono ?_
       rintro e w26 ⟨rfl,hb⟩
       have HX26:=Lib.hid (HX25.out.below hb)
       have H826:=Lib.hid ((hb.block g8 (heap_lt H825.out)).trans H825.out)
       have H926:=Lib.hid ((hb.block g9 (heap_lt H925.out)).trans H925.out)
       have HA26:=Lib.hid (HA25.out.keep (Q:=fun b=>TB (g+1) M1 b/\b≠g9/\b<lb) (fun b hb2 hlt=>⟨hb.block b hlt,hb2⟩) hb.size)
       have HO26:=Lib.hid (own_same HO25.out (fun q hq=>hb.block q (HO25.out.lt q hq).2))
       have HS26:=Lib.hid (HS25.out.keep (Q:=fun b=>TB lb M1 b/\some b≠(Value.slice asl S.len csl).ownBlock) (fun b hb2 hlt=>⟨hb.block b hlt,hb2⟩) hb.size)
       have HW26:Hid (lw<=_):=Lib.hid (Nat.le_trans HW25.out hb.size)
       have HB26:=Lib.hid (HB25.out.keep (Q:=fun b=>lw<=b) (fun b hb2 hlt=>⟨hb.block b hlt,hb2⟩) hb.size)
       refine goH hK H826.out fun hHeld=>?_
       clear hK K hb
       refine rdH 7 fun K hK=>?_
       ·go_simp
        refine(one_any _ _ ⟨6,3,0,0,[]⟩ _ _ _ _).mono ?_
        rintro e w27 ⟨gr,rfl,hgr,hrr,hb⟩
        have HX27:=Lib.hid (HX26.out.below hb)
        have H827:=Lib.hid ((hb.block g8 (heap_lt H826.out)).trans H826.out)
        have H927:=Lib.hid ((hb.block g9 (heap_lt H926.out)).trans H926.out)
        have HA27:=Lib.hid (HA26.out.keep (Q:=fun b=>TB (g+1) M1 b/\b≠g9/\b<lb) (fun b hb2 hlt=>⟨hb.block b hlt,hb2⟩) hb.size)
        have HO27:=Lib.hid (own_same HO26.out (fun q hq=>hb.block q (HO26.out.lt q hq).2))
        have HS27:=Lib.hid (HS26.out.keep (Q:=fun b=>TB lb M1 b/\some b≠(Value.slice asl S.len csl).ownBlock) (fun b hb2 hlt=>⟨hb.block b hlt,hb2⟩) hb.size)
        have HW27:Hid (lw<=_):=Lib.hid (Nat.le_trans HW26.out hb.size)
        have HB27:=Lib.hid (args_block (P:=fun b=>lw<=b) hrr (HB26.out.keep (Q:=fun b=>lw<=b) (fun b hb2 hlt=>⟨hb.block b hlt,hb2⟩) hb.size) (by have:=HW26.out;omega))
        refine goH hK H827.out fun hHeld=>?_
        clear hK K hb hgr hrr
        refine rdH 8 fun K hK=>?_
        ·go_simp
         have hb:=below_alloc w27 (.cells (stc 2 0 nm (.slice (some ⟨gr,0,none⟩) 1 1) (.slice none 0 0) (.slice none 0 0)).toArray 83)
         have HX28:=Lib.hid (HX27.out.below hb)
         have H828:=Lib.hid ((hb.block g8 (heap_lt H827.out)).trans H827.out)
         have H928:=Lib.hid ((hb.block g9 (heap_lt H927.out)).trans H927.out)
         have HA28:=Lib.hid (HA27.out.keep (Q:=fun b=>TB (g+1) M1 b/\b≠g9/\b<lb) (fun b hb2 hlt=>⟨hb.block b hlt,hb2⟩) hb.size)
         have HO28:=Lib.hid (own_same HO27.out (fun q hq=>hb.block q (HO27.out.lt q hq).2))
         have HNW28:=Lib.hid (heap_alloc_new w27 (.cells (stc 2 0 nm (.slice (some ⟨gr,0,none⟩) 1 1) (.slice none 0 0) (.slice none 0 0)).toArray 83))
         have HW28:Hid (lw<=_):=Lib.hid (Nat.le_trans HW27.out hb.size)
         refine goH hK H828.out fun hHeld=>?_
         clear hK K
         obtain⟨w28,hw⟩ : ∃ wx,w27.alloc (.cells (stc 2 0 nm (.slice (some ⟨gr,0,none⟩) 1 1) (.slice none 0 0) (.slice none 0 0)).toArray 83)=wx:=⟨_,rfl⟩
         obtain⟨gb,hgb⟩ : ∃ gb,w27.heap.size=gb:=⟨_,rfl⟩
         rw [hw] at HX28 H828 H928 HA28 HO28 HNW28 HW28
         (try rw [hw] at hHeld)
         (try rw [hw])
         rw [hgb] at HNW28 ⊢
         have HEQ:=Lib.hid hw
         have HSK:=HS27
         have HBK2:=HB27
         have HWK:=HW27
         have HOK:=HO27
         have HXK:=HX27
         have hgbs:gb+1=w28.heap.size:=by rw [<- hw,<- hgb];simp
         clear hw hgb hb
         refine rdH 9 fun K hK=>?_
         ·have hlbk:lb<=w28.heap.size:=by have:=HW28.out;have:=HLS.out.1;omega
          refine step_append_lies _ (by rfl) _ _ _ (by rfl) lb 83 i0 _ 6 104 Tryd.underlying64 HI.out HZ0.out HZ1.out HZ2.out rfl (by omega) _ _ _ (by rfl) HO28.out ⟨gb,0,none⟩ 1 1 (stc 2 0 nm (.slice (some ⟨gr,0,none⟩) 1 1) (.slice none 0 0) (.slice none 0 0)) (by rfl) (by rfl) (World.news_of_block (cs:=(stc 2 0 nm (.slice (some ⟨gr,0,none⟩) 1 1) (.slice none 0 0) (.slice none 0 0)).toArray) (t:=83) (fr:=(0,0)) HNW28.out) (by simp [Value.oneCell']) (by omega) HSL.out.1 HSL.out.2 hlbk _ rfl ?_
          intro g11 c11 wF hownF hgF horF hltF
          have HOF:=Lib.hid hownF
          have hown1 : ∀ q,(Value.slice asl S.len csl).ownBlock=some q->lb<=q/\q<lw:=fun q hq=>⟨(HO28.out.lt q hq).1,HLS.out.2 q hq⟩
          have HXF:=Lib.hid (HX28.out.own hgF (fun q hq=>⟨by have:=(hown1 q hq).1;have:=HG9.out;omega,TreeB.of_own HO28.out (.inr rfl) hq⟩))
          have H8F:=Lib.hid ((hgF.block g8 (heap_lt H828.out) (fun e=>by have:=(hown1 g8 e.symm).1;have:=HG9.out;omega)).trans H828.out)
          have H9F:=Lib.hid ((hgF.block g9 (heap_lt H928.out) (fun e=>by have:=(hown1 g9 e.symm).1;have:=HG9.out;omega)).trans H928.out)
          have HAF:=Lib.hid (HA28.out.keep (Q:=fun b=>TB (g+1) M1 b/\b≠g9) (fun b hb2 hlt=>⟨hgF.block b hlt (fun e=>by have:=(hown1 b e.symm).1;have:=hb2.2.2;omega),hb2.1,hb2.2.1⟩) hgF.size)
          have HSF:Hid (SfAt wF (fun b=>TB lb M1 b/\some b≠some g11) (S.app (oneS 2 0 nm (one1 ⟨6,3,0,0,[]⟩ (pairF nm 1)) .nil .nil)) (xs++stc 2 0 nm (.slice (some ⟨gr,0,none⟩) 1 1) (.slice none 0 0) (.slice none 0 0))):=Lib.hid (by
           rw [<- HEQ.out] at hgF horF
           exact sf_push2 HSK.out HOK.out (fun q hq=>(hown1 q hq).2) HLS.out.1 (SfAt.one (HBK2.out.keep (Q:=TB lw M1) (fun b hb2 _=>⟨rfl,hb2,fun e=>HVB.out b hb2 e⟩) (Nat.le_refl _)) (StsAt.nil _ _) (StsAt.nil _ _)) hgF horF)
          refine goH hK H8F.out fun hHeld=>?_
          clear hK K hownF hgF horF hltF hown1 hlbk
          refine tkH 10 103 ?_
          obtain⟨p0,p1,p2,p3,p4,p5⟩:=cells6 H9F.out
          have s4:=frozen_of_row _ g9 4 _ _ H9F.out
          have jl:=heap_lt H9F.out
          refine rdH 11 fun K hK=>?_
          go_simp
          refine goH hK ((heap_setCell_other wF ⟨g9,4,none⟩ g8 _ (by have:=HG9.out;show g8≠g9;omega)).trans H8F.out) fun hHeld=>?_
          clear hK K
          refine wpAnyH_done (by kernel_rfl) ?_ _
          go_wp2_with fail
          go_meet
          have hlen:(S.app (oneS 2 0 nm (one1 ⟨6,3,0,0,[]⟩ (pairF nm 1)) .nil .nil)).len=S.len+1:=by rw [Sf.len_app];rfl
          have hst:=sts_of_own (by rw [hlen];exact HOF.out) HSF.out HXF.out.mkr
          refine⟨some ⟨g11,0,none⟩,c11,Lib.hid ⟨HXF.out.setTree ⟨_,_,_,H9F.out,.inr rfl⟩ (by have:=HG9.out;omega) 4 _,heap_setCell_same _ g9 4 _ _ _ H9F.out,HAF.out.keep (fun b hb _=>⟨heap_setCell_other wF ⟨g9,4,none⟩ b _ hb.2,hb.1⟩) (by simp [World.setCell]),hst.keep (fun b hb _=>⟨heap_setCell_other wF ⟨g9,4,none⟩ b _ (by have:=hb.1;have:=HG9.out;show b≠g9;omega),⟨by have:=hb.1;have:=HG9.out;omega,hb.2⟩⟩) (by simp [World.setCell])⟩⟩
     ·go_simp
      refine(node_any _ _ _ _ _ _).mono ?_
      rintro e w30 ⟨rfl,hb⟩
      have HX30:=Lib.hid (HX25.out.below hb)
      have H830:=Lib.hid ((hb.block g8 (heap_lt H825.out)).trans H825.out)
      have H930:=Lib.hid ((hb.block g9 (heap_lt H925.out)).trans H925.out)
      have HA30:=Lib.hid (HA25.out.keep (Q:=fun b=>TB (g+1) M1 b/\b≠g9/\b<lb) (fun b hb2 hlt=>⟨hb.block b hlt,hb2⟩) hb.size)
      have HO30:=Lib.hid (own_same HO25.out (fun q hq=>hb.block q (HO25.out.lt q hq).2))
      have HS30:=Lib.hid (HS25.out.keep (Q:=fun b=>TB lb M1 b/\some b≠(Value.slice asl S.len csl).ownBlock) (fun b hb2 hlt=>⟨hb.block b hlt,hb2⟩) hb.size)
      have HW30:Hid (lw<=_):=Lib.hid (Nat.le_trans HW25.out hb.size)
      have HB30:=Lib.hid (HB25.out.keep (Q:=fun b=>lw<=b) (fun b hb2 hlt=>⟨hb.block b hlt,hb2⟩) hb.size)
      refine goH hK H830.out fun hHeld=>?_
      clear hK K hb
      refine wpAnyH_ready (rs:=[1,7]) (by kernel_rfl) (by simp) ?_
      refine AllReadyH.cons rfl (fun K hK=>?_) (AllReadyH.cons rfl (fun K hK=>?_) AllReadyH.nil)
      ·have p4:=cell_of_row _ _ 4 _ _ _ H930.out
       go_simp
       refine goH hK H830.out fun hHeld=>?_
       clear hK K p4
       refine rdH 7 fun K hK=>?_
       ·go_simp
        refine(one_any _ _ ⟨6,3,0,0,[]⟩ _ _ _ _).mono ?_
        rintro e w31 ⟨gr,rfl,hgr,hrr,hb⟩
        have HX31:=Lib.hid (HX30.out.below hb)
        have H831:=Lib.hid ((hb.block g8 (heap_lt H830.out)).trans H830.out)
        have H931:=Lib.hid ((hb.block g9 (heap_lt H930.out)).trans H930.out)
        have HA31:=Lib.hid (HA30.out.keep (Q:=fun b=>TB (g+1) M1 b/\b≠g9/\b<lb) (fun b hb2 hlt=>⟨hb.block b hlt,hb2⟩) hb.size)
        have HO31:=Lib.hid (own_same HO30.out (fun q hq=>hb.block q (HO30.out.lt q hq).2))
        have HS31:=Lib.hid (HS30.out.keep (Q:=fun b=>TB lb M1 b/\some b≠(Value.slice asl S.len csl).ownBlock) (fun b hb2 hlt=>⟨hb.block b hlt,hb2⟩) hb.size)
        have HW31:Hid (lw<=_):=Lib.hid (Nat.le_trans HW30.out hb.size)
        have HB31:=Lib.hid (args_block (P:=fun b=>lw<=b) hrr (HB30.out.keep (Q:=fun b=>lw<=b) (fun b hb2 hlt=>⟨hb.block b hlt,hb2⟩) hb.size) (by have:=HW30.out;omega))
        refine goH hK H831.out fun hHeld=>?_
        clear hK K hb hgr hrr
        refine rdH 8 fun K hK=>?_
        ·go_simp
         have hb:=below_alloc w31 (.cells (stc 2 0 nm (.slice (some ⟨gr,0,none⟩) 1 1) (.slice none 0 0) (.slice none 0 0)).toArray 83)
         have HX32:=Lib.hid (HX31.out.below hb)
         have H832:=Lib.hid ((hb.block g8 (heap_lt H831.out)).trans H831.out)
         have H932:=Lib.hid ((hb.block g9 (heap_lt H931.out)).trans H931.out)
         have HA32:=Lib.hid (HA31.out.keep (Q:=fun b=>TB (g+1) M1 b/\b≠g9/\b<lb) (fun b hb2 hlt=>⟨hb.block b hlt,hb2⟩) hb.size)
         have HO32:=Lib.hid (own_same HO31.out (fun q hq=>hb.block q (HO31.out.lt q hq).2))
         have HNW32:=Lib.hid (heap_alloc_new w31 (.cells (stc 2 0 nm (.slice (some ⟨gr,0,none⟩) 1 1) (.slice none 0 0) (.slice none 0 0)).toArray 83))
         have HW32:Hid (lw<=_):=Lib.hid (Nat.le_trans HW31.out hb.size)
         refine goH hK H832.out fun hHeld=>?_
         clear hK K
         obtain⟨w32,hw⟩ : ∃ wx,w31.alloc (.cells (stc 2 0 nm (.slice (some ⟨gr,0,none⟩) 1 1) (.slice none 0 0) (.slice none 0 0)).toArray 83)=wx:=⟨_,rfl⟩
         obtain⟨gb,hgb⟩ : ∃ gb,w31.heap.size=gb:=⟨_,rfl⟩
         rw [hw] at HX32 H832 H932 HA32 HO32 HNW32 HW32
         (try rw [hw] at hHeld)
         (try rw [hw])
         rw [hgb] at HNW32 ⊢
         have HEQ:=Lib.hid hw
         have HSK:=HS31
         have HBK2:=HB31
         have HWK:=HW31
         have HOK:=HO31
         have HXK:=HX31
         have hgbs:gb+1=w32.heap.size:=by rw [<- hw,<- hgb];simp
         clear hw hgb hb
         refine rdH 9 fun K hK=>?_
         ·have hlbk:lb<=w32.heap.size:=by have:=HW32.out;have:=HLS.out.1;omega
          refine step_append_lies _ (by rfl) _ _ _ (by rfl) lb 83 i0 _ 6 104 Tryd.underlying64 HI.out HZ0.out HZ1.out HZ2.out rfl (by omega) _ _ _ (by rfl) HO32.out ⟨gb,0,none⟩ 1 1 (stc 2 0 nm (.slice (some ⟨gr,0,none⟩) 1 1) (.slice none 0 0) (.slice none 0 0)) (by rfl) (by rfl) (World.news_of_block (cs:=(stc 2 0 nm (.slice (some ⟨gr,0,none⟩) 1 1) (.slice none 0 0) (.slice none 0 0)).toArray) (t:=83) (fr:=(0,0)) HNW32.out) (by simp [Value.oneCell']) (by omega) HSL.out.1 HSL.out.2 hlbk _ rfl ?_
          intro g11 c11 wF hownF hgF horF hltF
          have HOF:=Lib.hid hownF
          have hown1 : ∀ q,(Value.slice asl S.len csl).ownBlock=some q->lb<=q/\q<lw:=fun q hq=>⟨(HO32.out.lt q hq).1,HLS.out.2 q hq⟩
          have HXF:=Lib.hid (HX32.out.own hgF (fun q hq=>⟨by have:=(hown1 q hq).1;have:=HG9.out;omega,TreeB.of_own HO32.out (.inr rfl) hq⟩))
          have H8F:=Lib.hid ((hgF.block g8 (heap_lt H832.out) (fun e=>by have:=(hown1 g8 e.symm).1;have:=HG9.out;omega)).trans H832.out)
          have H9F:=Lib.hid ((hgF.block g9 (heap_lt H932.out) (fun e=>by have:=(hown1 g9 e.symm).1;have:=HG9.out;omega)).trans H932.out)
          have HAF:=Lib.hid (HA32.out.keep (Q:=fun b=>TB (g+1) M1 b/\b≠g9) (fun b hb2 hlt=>⟨hgF.block b hlt (fun e=>by have:=(hown1 b e.symm).1;have:=hb2.2.2;omega),hb2.1,hb2.2.1⟩) hgF.size)
          have HSF:Hid (SfAt wF (fun b=>TB lb M1 b/\some b≠some g11) (S.app (oneS 2 0 nm (one1 ⟨6,3,0,0,[]⟩ (pairF nm 1)) .nil .nil)) (xs++stc 2 0 nm (.slice (some ⟨gr,0,none⟩) 1 1) (.slice none 0 0) (.slice none 0 0))):=Lib.hid (by
           rw [<- HEQ.out] at hgF horF
           exact sf_push2 HSK.out HOK.out (fun q hq=>(hown1 q hq).2) HLS.out.1 (SfAt.one (HBK2.out.keep (Q:=TB lw M1) (fun b hb2 _=>⟨rfl,hb2,fun e=>HVB.out b hb2 e⟩) (Nat.le_refl _)) (StsAt.nil _ _) (StsAt.nil _ _)) hgF horF)
          refine goH hK H8F.out fun hHeld=>?_
          clear hK K hownF hgF horF hltF hown1 hlbk
          refine tkH 10 103 ?_
          obtain⟨p0,p1,p2,p3,p4,p5⟩:=cells6 H9F.out
          have s4:=frozen_of_row _ g9 4 _ _ H9F.out
          have jl:=heap_lt H9F.out
          refine rdH 11 fun K hK=>?_
          go_simp
          refine goH hK ((heap_setCell_other wF ⟨g9,4,none⟩ g8 _ (by have:=HG9.out;show g8≠g9;omega)).trans H8F.out) fun hHeld=>?_
          clear hK K
          refine wpAnyH_done (by kernel_rfl) ?_ _
          go_wp2_with fail
          go_meet
          have hlen:(S.app (oneS 2 0 nm (one1 ⟨6,3,0,0,[]⟩ (pairF nm 1)) .nil .nil)).len=S.len+1:=by rw [Sf.len_app];rfl
          have hst:=sts_of_own (by rw [hlen];exact HOF.out) HSF.out HXF.out.mkr
          refine⟨some ⟨g11,0,none⟩,c11,Lib.hid ⟨HXF.out.setTree ⟨_,_,_,H9F.out,.inr rfl⟩ (by have:=HG9.out;omega) 4 _,heap_setCell_same _ g9 4 _ _ _ H9F.out,HAF.out.keep (fun b hb _=>⟨heap_setCell_other wF ⟨g9,4,none⟩ b _ hb.2,hb.1⟩) (by simp [World.setCell]),hst.keep (fun b hb _=>⟨heap_setCell_other wF ⟨g9,4,none⟩ b _ (by have:=hb.1;have:=HG9.out;show b≠g9;omega),⟨by have:=hb.1;have:=HG9.out;omega,hb.2⟩⟩) (by simp [World.setCell])⟩⟩
      ·go_simp
       refine(one_any _ _ ⟨6,3,0,0,[]⟩ _ _ _ _).mono ?_
       rintro e w34 ⟨gr,rfl,hgr,hrr,hb⟩
       have HX34:=Lib.hid (HX30.out.below hb)
       have H834:=Lib.hid ((hb.block g8 (heap_lt H830.out)).trans H830.out)
       have H934:=Lib.hid ((hb.block g9 (heap_lt H930.out)).trans H930.out)
       have HA34:=Lib.hid (HA30.out.keep (Q:=fun b=>TB (g+1) M1 b/\b≠g9/\b<lb) (fun b hb2 hlt=>⟨hb.block b hlt,hb2⟩) hb.size)
       have HO34:=Lib.hid (own_same HO30.out (fun q hq=>hb.block q (HO30.out.lt q hq).2))
       have HS34:=Lib.hid (HS30.out.keep (Q:=fun b=>TB lb M1 b/\some b≠(Value.slice asl S.len csl).ownBlock) (fun b hb2 hlt=>⟨hb.block b hlt,hb2⟩) hb.size)
       have HW34:Hid (lw<=_):=Lib.hid (Nat.le_trans HW30.out hb.size)
       have HB34:=Lib.hid (args_block (P:=fun b=>lw<=b) hrr (HB30.out.keep (Q:=fun b=>lw<=b) (fun b hb2 hlt=>⟨hb.block b hlt,hb2⟩) hb.size) (by have:=HW30.out;omega))
       refine goH hK H834.out fun hHeld=>?_
       clear hK K hb hgr hrr
       refine wpAnyH_ready (rs:=[1,8]) (by kernel_rfl) (by simp) ?_
       refine AllReadyH.cons rfl (fun K hK=>?_) (AllReadyH.cons rfl (fun K hK=>?_) AllReadyH.nil)
       ·have p4:=cell_of_row _ _ 4 _ _ _ H934.out
        go_simp
        refine goH hK H834.out fun hHeld=>?_
        clear hK K p4
        refine rdH 8 fun K hK=>?_
        ·go_simp
         have hb:=below_alloc w34 (.cells (stc 2 0 nm (.slice (some ⟨gr,0,none⟩) 1 1) (.slice none 0 0) (.slice none 0 0)).toArray 83)
         have HX35:=Lib.hid (HX34.out.below hb)
         have H835:=Lib.hid ((hb.block g8 (heap_lt H834.out)).trans H834.out)
         have H935:=Lib.hid ((hb.block g9 (heap_lt H934.out)).trans H934.out)
         have HA35:=Lib.hid (HA34.out.keep (Q:=fun b=>TB (g+1) M1 b/\b≠g9/\b<lb) (fun b hb2 hlt=>⟨hb.block b hlt,hb2⟩) hb.size)
         have HO35:=Lib.hid (own_same HO34.out (fun q hq=>hb.block q (HO34.out.lt q hq).2))
         have HNW35:=Lib.hid (heap_alloc_new w34 (.cells (stc 2 0 nm (.slice (some ⟨gr,0,none⟩) 1 1) (.slice none 0 0) (.slice none 0 0)).toArray 83))
         have HW35:Hid (lw<=_):=Lib.hid (Nat.le_trans HW34.out hb.size)
         refine goH hK H835.out fun hHeld=>?_
         clear hK K
         obtain⟨w35,hw⟩ : ∃ wx,w34.alloc (.cells (stc 2 0 nm (.slice (some ⟨gr,0,none⟩) 1 1) (.slice none 0 0) (.slice none 0 0)).toArray 83)=wx:=⟨_,rfl⟩
         obtain⟨gb,hgb⟩ : ∃ gb,w34.heap.size=gb:=⟨_,rfl⟩
         rw [hw] at HX35 H835 H935 HA35 HO35 HNW35 HW35
         (try rw [hw] at hHeld)
         (try rw [hw])
         rw [hgb] at HNW35 ⊢
         have HEQ:=Lib.hid hw
         have HSK:=HS34
         have HBK2:=HB34
         have HWK:=HW34
         have HOK:=HO34
         have HXK:=HX34
         have hgbs:gb+1=w35.heap.size:=by rw [<- hw,<- hgb];simp
         clear hw hgb hb
         refine rdH 9 fun K hK=>?_
         ·have hlbk:lb<=w35.heap.size:=by have:=HW35.out;have:=HLS.out.1;omega
          refine step_append_lies _ (by rfl) _ _ _ (by rfl) lb 83 i0 _ 6 104 Tryd.underlying64 HI.out HZ0.out HZ1.out HZ2.out rfl (by omega) _ _ _ (by rfl) HO35.out ⟨gb,0,none⟩ 1 1 (stc 2 0 nm (.slice (some ⟨gr,0,none⟩) 1 1) (.slice none 0 0) (.slice none 0 0)) (by rfl) (by rfl) (World.news_of_block (cs:=(stc 2 0 nm (.slice (some ⟨gr,0,none⟩) 1 1) (.slice none 0 0) (.slice none 0 0)).toArray) (t:=83) (fr:=(0,0)) HNW35.out) (by simp [Value.oneCell']) (by omega) HSL.out.1 HSL.out.2 hlbk _ rfl ?_
          intro g11 c11 wF hownF hgF horF hltF
          have HOF:=Lib.hid hownF
          have hown1 : ∀ q,(Value.slice asl S.len csl).ownBlock=some q->lb<=q/\q<lw:=fun q hq=>⟨(HO35.out.lt q hq).1,HLS.out.2 q hq⟩
          have HXF:=Lib.hid (HX35.out.own hgF (fun q hq=>⟨by have:=(hown1 q hq).1;have:=HG9.out;omega,TreeB.of_own HO35.out (.inr rfl) hq⟩))
          have H8F:=Lib.hid ((hgF.block g8 (heap_lt H835.out) (fun e=>by have:=(hown1 g8 e.symm).1;have:=HG9.out;omega)).trans H835.out)
          have H9F:=Lib.hid ((hgF.block g9 (heap_lt H935.out) (fun e=>by have:=(hown1 g9 e.symm).1;have:=HG9.out;omega)).trans H935.out)
          have HAF:=Lib.hid (HA35.out.keep (Q:=fun b=>TB (g+1) M1 b/\b≠g9) (fun b hb2 hlt=>⟨hgF.block b hlt (fun e=>by have:=(hown1 b e.symm).1;have:=hb2.2.2;omega),hb2.1,hb2.2.1⟩) hgF.size)
          have HSF:Hid (SfAt wF (fun b=>TB lb M1 b/\some b≠some g11) (S.app (oneS 2 0 nm (one1 ⟨6,3,0,0,[]⟩ (pairF nm 1)) .nil .nil)) (xs++stc 2 0 nm (.slice (some ⟨gr,0,none⟩) 1 1) (.slice none 0 0) (.slice none 0 0))):=Lib.hid (by
           rw [<- HEQ.out] at hgF horF
           exact sf_push2 HSK.out HOK.out (fun q hq=>(hown1 q hq).2) HLS.out.1 (SfAt.one (HBK2.out.keep (Q:=TB lw M1) (fun b hb2 _=>⟨rfl,hb2,fun e=>HVB.out b hb2 e⟩) (Nat.le_refl _)) (StsAt.nil _ _) (StsAt.nil _ _)) hgF horF)
          refine goH hK H8F.out fun hHeld=>?_
          clear hK K hownF hgF horF hltF hown1 hlbk
          refine tkH 10 103 ?_
          obtain⟨p0,p1,p2,p3,p4,p5⟩:=cells6 H9F.out
          have s4:=frozen_of_row _ g9 4 _ _ H9F.out
          have jl:=heap_lt H9F.out
          refine rdH 11 fun K hK=>?_
          go_simp
          refine goH hK ((heap_setCell_other wF ⟨g9,4,none⟩ g8 _ (by have:=HG9.out;show g8≠g9;omega)).trans H8F.out) fun hHeld=>?_
          clear hK K
          refine wpAnyH_done (by kernel_rfl) ?_ _
          go_wp2_with fail
          go_meet
          have hlen:(S.app (oneS 2 0 nm (one1 ⟨6,3,0,0,[]⟩ (pairF nm 1)) .nil .nil)).len=S.len+1:=by rw [Sf.len_app];rfl
          have hst:=sts_of_own (by rw [hlen];exact HOF.out) HSF.out HXF.out.mkr
          refine⟨some ⟨g11,0,none⟩,c11,Lib.hid ⟨HXF.out.setTree ⟨_,_,_,H9F.out,.inr rfl⟩ (by have:=HG9.out;omega) 4 _,heap_setCell_same _ g9 4 _ _ _ H9F.out,HAF.out.keep (fun b hb _=>⟨heap_setCell_other wF ⟨g9,4,none⟩ b _ hb.2,hb.1⟩) (by simp [World.setCell]),hst.keep (fun b hb _=>⟨heap_setCell_other wF ⟨g9,4,none⟩ b _ (by have:=hb.1;have:=HG9.out;show b≠g9;omega),⟨by have:=hb.1;have:=HG9.out;omega,hb.2⟩⟩) (by simp [World.setCell])⟩⟩
       ·go_simp
        have hb:=below_alloc w34 (.cells (stc 2 0 nm (.slice (some ⟨gr,0,none⟩) 1 1) (.slice none 0 0) (.slice none 0 0)).toArray 83)
        have HX37:=Lib.hid (HX34.out.below hb)
        have H837:=Lib.hid ((hb.block g8 (heap_lt H834.out)).trans H834.out)
        have H937:=Lib.hid ((hb.block g9 (heap_lt H934.out)).trans H934.out)
        have HA37:=Lib.hid (HA34.out.keep (Q:=fun b=>TB (g+1) M1 b/\b≠g9/\b<lb) (fun b hb2 hlt=>⟨hb.block b hlt,hb2⟩) hb.size)
        have HO37:=Lib.hid (own_same HO34.out (fun q hq=>hb.block q (HO34.out.lt q hq).2))
        have HNW37:=Lib.hid (heap_alloc_new w34 (.cells (stc 2 0 nm (.slice (some ⟨gr,0,none⟩) 1 1) (.slice none 0 0) (.slice none 0 0)).toArray 83))
        have HW37:Hid (lw<=_):=Lib.hid (Nat.le_trans HW34.out hb.size)
        refine goH hK H837.out fun hHeld=>?_
        clear hK K
        obtain⟨w37,hw⟩ : ∃ wx,w34.alloc (.cells (stc 2 0 nm (.slice (some ⟨gr,0,none⟩) 1 1) (.slice none 0 0) (.slice none 0 0)).toArray 83)=wx:=⟨_,rfl⟩
        obtain⟨gb,hgb⟩ : ∃ gb,w34.heap.size=gb:=⟨_,rfl⟩
        rw [hw] at HX37 H837 H937 HA37 HO37 HNW37 HW37
        (try rw [hw] at hHeld)
        (try rw [hw])
        rw [hgb] at HNW37 ⊢
        have HEQ:=Lib.hid hw
        have HSK:=HS34
        have HBK2:=HB34
        have HWK:=HW34
        have HOK:=HO34
        have HXK:=HX34
        have hgbs:gb+1=w37.heap.size:=by rw [<- hw,<- hgb];simp
        clear hw hgb hb
        refine rdH 1 fun K hK=>?_
        ·have p4:=cell_of_row _ _ 4 _ _ _ H937.out
         go_simp
         refine goH hK H837.out fun hHeld=>?_
         clear hK K p4
         refine rdH 9 fun K hK=>?_
         ·have hlbk:lb<=w37.heap.size:=by have:=HW37.out;have:=HLS.out.1;omega
          refine step_append_lies _ (by rfl) _ _ _ (by rfl) lb 83 i0 _ 6 104 Tryd.underlying64 HI.out HZ0.out HZ1.out HZ2.out rfl (by omega) _ _ _ (by rfl) HO37.out ⟨gb,0,none⟩ 1 1 (stc 2 0 nm (.slice (some ⟨gr,0,none⟩) 1 1) (.slice none 0 0) (.slice none 0 0)) (by rfl) (by rfl) (World.news_of_block (cs:=(stc 2 0 nm (.slice (some ⟨gr,0,none⟩) 1 1) (.slice none 0 0) (.slice none 0 0)).toArray) (t:=83) (fr:=(0,0)) HNW37.out) (by simp [Value.oneCell']) (by omega) HSL.out.1 HSL.out.2 hlbk _ rfl ?_
          intro g11 c11 wF hownF hgF horF hltF
          have HOF:=Lib.hid hownF
          have hown1 : ∀ q,(Value.slice asl S.len csl).ownBlock=some q->lb<=q/\q<lw:=fun q hq=>⟨(HO37.out.lt q hq).1,HLS.out.2 q hq⟩
          have HXF:=Lib.hid (HX37.out.own hgF (fun q hq=>⟨by have:=(hown1 q hq).1;have:=HG9.out;omega,TreeB.of_own HO37.out (.inr rfl) hq⟩))
          have H8F:=Lib.hid ((hgF.block g8 (heap_lt H837.out) (fun e=>by have:=(hown1 g8 e.symm).1;have:=HG9.out;omega)).trans H837.out)
          have H9F:=Lib.hid ((hgF.block g9 (heap_lt H937.out) (fun e=>by have:=(hown1 g9 e.symm).1;have:=HG9.out;omega)).trans H937.out)
          have HAF:=Lib.hid (HA37.out.keep (Q:=fun b=>TB (g+1) M1 b/\b≠g9) (fun b hb2 hlt=>⟨hgF.block b hlt (fun e=>by have:=(hown1 b e.symm).1;have:=hb2.2.2;omega),hb2.1,hb2.2.1⟩) hgF.size)
          have HSF:Hid (SfAt wF (fun b=>TB lb M1 b/\some b≠some g11) (S.app (oneS 2 0 nm (one1 ⟨6,3,0,0,[]⟩ (pairF nm 1)) .nil .nil)) (xs++stc 2 0 nm (.slice (some ⟨gr,0,none⟩) 1 1) (.slice none 0 0) (.slice none 0 0))):=Lib.hid (by
           rw [<- HEQ.out] at hgF horF
           exact sf_push2 HSK.out HOK.out (fun q hq=>(hown1 q hq).2) HLS.out.1 (SfAt.one (HBK2.out.keep (Q:=TB lw M1) (fun b hb2 _=>⟨rfl,hb2,fun e=>HVB.out b hb2 e⟩) (Nat.le_refl _)) (StsAt.nil _ _) (StsAt.nil _ _)) hgF horF)
          refine goH hK H8F.out fun hHeld=>?_
          clear hK K hownF hgF horF hltF hown1 hlbk
          refine tkH 10 103 ?_
          obtain⟨p0,p1,p2,p3,p4,p5⟩:=cells6 H9F.out
          have s4:=frozen_of_row _ g9 4 _ _ H9F.out
          have jl:=heap_lt H9F.out
          refine rdH 11 fun K hK=>?_
          go_simp
          refine goH hK ((heap_setCell_other wF ⟨g9,4,none⟩ g8 _ (by have:=HG9.out;show g8≠g9;omega)).trans H8F.out) fun hHeld=>?_
          clear hK K
          refine wpAnyH_done (by kernel_rfl) ?_ _
          go_wp2_with fail
          go_meet
          have hlen:(S.app (oneS 2 0 nm (one1 ⟨6,3,0,0,[]⟩ (pairF nm 1)) .nil .nil)).len=S.len+1:=by rw [Sf.len_app];rfl
          have hst:=sts_of_own (by rw [hlen];exact HOF.out) HSF.out HXF.out.mkr
          refine⟨some ⟨g11,0,none⟩,c11,Lib.hid ⟨HXF.out.setTree ⟨_,_,_,H9F.out,.inr rfl⟩ (by have:=HG9.out;omega) 4 _,heap_setCell_same _ g9 4 _ _ _ H9F.out,HAF.out.keep (fun b hb _=>⟨heap_setCell_other wF ⟨g9,4,none⟩ b _ hb.2,hb.1⟩) (by simp [World.setCell]),hst.keep (fun b hb _=>⟨heap_setCell_other wF ⟨g9,4,none⟩ b _ (by have:=hb.1;have:=HG9.out;show b≠g9;omega),⟨by have:=hb.1;have:=HG9.out;omega,hb.2⟩⟩) (by simp [World.setCell])⟩⟩
   case rest =>
    obtain⟨a11,c11,HZ⟩:=hcut
    clear HXS H8S H9S HAS HSS HOS HLS
    clear wS
    obtain⟨p0,p1,p2,p3,p4,p5⟩:=cells6 HZ.out.2.1
    obtain⟨jl,f0,f1,f2,f3,f4,f5,r0,r1,r2,r3,r4,r5⟩:=HZ.out.1.cells
    go_wp2_with fail
    obtain⟨q0,q1,q2,q3,q4,q5,HF⟩:=HZ.out.1.fin (deep:=deep+1) HZ.out.2.2.1 HZ.out.2.2.2 (StsAt.nil _ _) HGD.out _ rfl
    refine bodyPost_ret (v:=stv 5 0 [] (.slice (some ⟨gq,0,none⟩) 1 1) (.slice a11 (S.len+1) c11) (.slice none 0 0)) (by simp [results,Tryd.results48,go_sem,q0,q1,q2,q3,q4,q5]) rfl ?_
    exact HF.out
 ·go_wp2_with fail
  refine(HEX.out _ HX2.out.2.mkr).mono ?_
  intro e wE hpE
  obtain⟨hd,ar,aa,ka,rfl,HR⟩:=hpE.open
  clear hpE
  have HXE:=Lib.hid (HX2.out.2.grown HR.out.2.2.2 HR.out.2.2.1)
  have HLA:Hid (g<wc.heap.size):=Lib.hid HX2.out.2.lts
  go_wp2_with fail
  refine(one_any 5 _ hd aa ar.len ka _).mono ?_
  rintro e wO ⟨gq,rfl,hgq,hrq,hbO⟩
  have HXO:=Lib.hid (HXE.out.below hbO)
  have HAO:=Lib.hid (args_block (P:=fun b=>wc.heap.size<=b) hrq (HR.out.1.keep (fun b hb hlt=>⟨hbO.block b hlt,hb⟩) hbO.size) (by have:=HR.out.2.2.2.size;omega))
  have hbL:=below_alloc wO (.cells #[.int .i64 5,.int .i64 0,.string { data := #[] },.slice (some ⟨gq,0,none⟩) 1 1,.slice none 0 0,.slice none 0 0] 83)
  have hrL:=heap_alloc_new wO (.cells #[.int .i64 5,.int .i64 0,.string { data := #[] },.slice (some ⟨gq,0,none⟩) 1 1,.slice none 0 0,.slice none 0 0] 83)
  have HXL:=Lib.hid (HXO.out.below hbL)
  have HGL:Hid (g<wO.heap.size):=Lib.hid HXO.out.lts
  have HAL:Hid (ArgsAt (wO.alloc (.cells #[.int .i64 5,.int .i64 0,.string { data := #[] },.slice (some ⟨gq,0,none⟩) 1 1,.slice none 0 0,.slice none 0 0] 83)) (fun b=>TB (g+1) M b/\b≠wO.heap.size) (one1 hd ar) (.slice (some ⟨gq,0,none⟩) 1 1)):=Lib.hid (HAO.out.keep (fun b hb hlt=>⟨hbL.block b hlt,TB.of HX2.out.2.mkr (by have:=HLA.out;omega) b hb,by omega⟩) hbL.size)
  clear hgq hrq hbO hbL HXO HAO
  go_upto_region 6 with fail
  obtain⟨wL,hwL⟩ : ∃ wL,wO.alloc (.cells #[.int .i64 5,.int .i64 0,.string { data := #[] },.slice (some ⟨gq,0,none⟩) 1 1,.slice none 0 0,.slice none 0 0] 83)=wL:=⟨_,rfl⟩
  obtain⟨g7,hg7⟩ : ∃ g7,wO.heap.size=g7:=⟨_,rfl⟩
  rw [hwL] at hrL HXL HAL ⊢
  rw [hg7] at hrL HAL HGL ⊢
  have HRL:=Lib.hid hrL
  clear hwL hg7 hrL HXE
  clear wO
  obtain⟨c0,c3,jm⟩:=HC.out _ HXL.out
  go_wp2_with fail
  refine(Next_any gc 2 (by omega) _ HXL.out.mkr.cod).mono ?_
  rintro e wN ⟨z,rfl,z0,z1,hcod,hg⟩
  have z2:z<2:=by omega
  have HXN:=Lib.hid (HXL.out.grown hg hcod)
  have HLC:Hid (gc<g/\gm<g):=Lib.hid ⟨HXL.out.lc,HXL.out.lm⟩
  have HRN:Hid (wN.heap[g7]?=some (srow 5 [] (.slice (some ⟨gq,0,none⟩) 1 1) (.slice none 0 0) (.slice none 0 0))):=Lib.hid ((hg.block g7 (heap_lt HRL.out) (by simp;have:=HLC.out;have:=HGL.out;omega)).trans HRL.out)
  have HAN:=Lib.hid (HAL.out.keep (Q:=fun b=>TB (g+1) M b/\b≠g7) (fun b hb hlt=>⟨hg.block b hlt (by simp;have:=hb.1.1;have:=HLC.out;omega),hb⟩) hg.size)
  clear hcod hg c0 c3 jm HXL HRL HAL
  clear wL
  have hcall:=HBK.out M wN (1+z) (by omega) (by omega) HXN.out.mkr HH.out.1 (by have:=HH.out.2;omega)
  have HCL:=Lib.hid hcall
  clear hcall z1
  go_wp2_with fail
  refine HCL.out.mono ?_
  rintro e wB ⟨S,sl,xs,M1,rfl,hown,hS,hch,hmk,hb0,hb9,hw,hcst,hnst,hhgt⟩
  have HXB:=Lib.hid (HXN.out.step hch hmk)
  have HRB:=Lib.hid (step_row hch HXN.out.mkr HRN.out ⟨_,_,_,HRN.out,.inr rfl⟩ (by have:=HLC.out;have:=HGL.out;omega) (by have:=HLC.out;have:=HGL.out;omega))
  have HAB:Hid (ArgsAt wB (fun b=>TB (g+1) M1 b/\b≠g7) (one1 hd ar) (.slice (some ⟨gq,0,none⟩) 1 1)):=Lib.hid (HAN.out.keep (fun b hb hlt=>⟨(hch.kp (lo:=g+1) (by have:=HLC.out;omega) (by have:=HLC.out;omega) b hb.1 hlt).1,(hch.kp (lo:=g+1) (by have:=HLC.out;omega) (by have:=HLC.out;omega) b hb.1 hlt).2,hb.2⟩) hch.size)
  have hsts:=sts_of_own hown hS hmk
  have HGN:Hid (g7<wN.heap.size):=Lib.hid (heap_lt HRN.out)
  have HSB:Hid (StsAt wB (fun b=>TB (g+1) M1 b/\b≠g7) S sl):=Lib.hid (hsts.keep (fun b hb _=>⟨rfl,⟨by have:=hb.1;have:=HGN.out;have:=HGL.out;omega,hb.2⟩,by have:=hb.1;have:=HGN.out;omega⟩) (Nat.le_refl _))
  obtain⟨asl,csl,_,rfl,-⟩:=hsts
  have HGD:Hid (goodS (deep+1) M M1 5 [] (one1 hd ar) S .nil):=Lib.hid (good_one (.inr (.inr (.inr (.inl ⟨rfl,rfl,rfl,rfl⟩)))) HR.out.2.1 hb0 hb9 hw trivial (by simp only [Sf.cst];omega) hnst (by simp [Sf.nst]) hhgt (by simp [Sf.hgt]))
  clear hown hS hch hmk hb0 hb9 hw hcst hnst hhgt HXN HRN HAN HCL
  have j4:=frozen_of_row _ g7 4 _ _ HRB.out
  have k4:=cell_of_row _ _ 4 _ _ _ HRB.out
  have jg7:=heap_lt HRB.out
  go_upto_region 7 with fail
  have HXS:=Lib.hid (HXB.out.setTree ⟨_,_,_,HRB.out,.inr rfl⟩ HGL.out 4 (.slice asl S.len csl))
  have hrS:=heap_setCell_same _ g7 4 _ _ (.slice asl S.len csl) HRB.out
  have HRS:Hid ((wB.setCell ⟨g7,4,none⟩ (.slice asl S.len csl)).heap[g7]?=some (srow 5 [] (.slice (some ⟨gq,0,none⟩) 1 1) (.slice asl S.len csl) (.slice none 0 0))):=Lib.hid hrS
  have HAS:Hid (ArgsAt (wB.setCell ⟨g7,4,none⟩ (.slice asl S.len csl)) (TB (g+1) M1) (one1 hd ar) (.slice (some ⟨gq,0,none⟩) 1 1)):=Lib.hid (HAB.out.keep (fun b hb _=>⟨heap_setCell_other wB ⟨g7,4,none⟩ b _ hb.2,hb.1⟩) (by simp [World.setCell]))
  have HSS:Hid (StsAt (wB.setCell ⟨g7,4,none⟩ (.slice asl S.len csl)) (TB (g+1) M1) S (.slice asl S.len csl)):=Lib.hid (HSB.out.keep (fun b hb _=>⟨heap_setCell_other wB ⟨g7,4,none⟩ b _ hb.2,hb.1⟩) (by simp [World.setCell]))
  obtain⟨wS,hwS⟩ : ∃ wS,wB.setCell ⟨g7,4,none⟩ (.slice asl S.len csl)=wS:=⟨_,rfl⟩
  rw [hwS] at HXS HRS HAS HSS ⊢
  clear hwS hrS j4 k4 jg7 HXB HRB HAB HSB
  clear wB
  obtain⟨p0,p1,p2,p3,p4,p5⟩:=cells6 HRS.out
  obtain⟨jl,f0,f1,f2,f3,f4,f5,r0,r1,r2,r3,r4,r5⟩:=HXS.out.cells
  go_wp2_with fail
  obtain⟨q0,q1,q2,q3,q4,q5,HF⟩:=HXS.out.fin (deep:=deep+1) HAS.out HSS.out (StsAt.nil _ _) HGD.out _ rfl
  refine bodyPost_ret (v:=stv 5 0 [] (.slice (some ⟨gq,0,none⟩) 1 1) (.slice asl S.len csl) (.slice none 0 0)) (by simp [results,Tryd.results48,go_sem,q0,q1,q2,q3,q4,q5]) rfl ?_
  exact HF.out
end Go.Proofs.YtpcdinelpfbpfaaDoor
namespace Go.Proofs.YtpcdinelpfbpfaaDoor
open Go.ChangeShapes Go.WideShapes Go.ChangeAt Go.RowKit
set_option linter.unusedVariables false
set_option linter.unusedSimpArgs false

theorem info_of {P:Program} {t:TypeId} {z:Option Value} {s b:Nat} (h:(P.info? t).map (fun i=>(i.zero,i.size,i.bytes))=some (z,s,b)) : ∃ i,Hid (P.info? t=some i/\i.zero=z/\i.size=s/\i.bytes=b):=by
 cases hp:P.info? t with
 | none=>rw [hp] at h;cases h
 | some i =>
  rw [hp] at h
  simp at h
  exact⟨i,Lib.hid ⟨rfl,h.1,h.2.1,h.2.2⟩⟩
theorem good_plain {deep:Nat} {M:Mk} {k:Int} {nm:Bt} {hd:Hd} {ar:Fo} (hS:okS k nm (one1 hd ar) .nil .nil) (hE:goodE 2 hd ar) (hb0:0<=M.bud) (hb9:M.ls.length+M.bud<=8):goodS deep M M k nm (one1 hd ar) .nil .nil :=
 good_one hS hE hb0 (by omega) trivial trivial (by simp [Sf.cst]) (by simp [Sf.nst]) (by simp [Sf.nst]) (by simp [Sf.hgt]) (by simp [Sf.hgt])
theorem MkAt.local {w w9:World} {gc gm g9 c9:Nat} {M:Mk} {nm:Bt} {ob:Obj} (h:MkAt w gc gm M) (hn:okN nm) (hl:M.ls.length<=9) (hg:(w.alloc ob).grownBy w9 M.vl.ownBlock)
  (ho:w9.ownsRow (gm+1) 9 1 (.slice (some ⟨g9,0,none⟩) (M.ls.length+1) c9) (M.ls.length+1) (strs M.ls++[.string (st nm)])) (h9:M.vl.ownBlock=some g9\/g9=(w.alloc ob).heap.size) (hne : ∀ k,(M.va.ownBlock=some k\/M.vb.ownBlock=some k)->M.vl.ownBlock≠some k) :
  MkAt (w9.setCell ⟨gm,3,none⟩ (.slice (some ⟨g9,0,none⟩) (M.ls.length+1) c9)) gc gm { M with vl:=.slice (some ⟨g9,0,none⟩) (M.ls.length+1) c9,ls:=M.ls++[nm] } /\
  Chg w (w9.setCell ⟨gm,3,none⟩ (.slice (some ⟨g9,0,none⟩) (M.ls.length+1) c9)) gc gm M { M with vl:=.slice (some ⟨g9,0,none⟩) (M.ls.length+1) c9,ls:=M.ls++[nm] }:=by
 have hA:=below_alloc w ob
 have hsA:(w.alloc ob).heap.size=w.heap.size+1:=by simp
 have hvl : ∀ k,M.vl.ownBlock=some k->gm+1<=k/\k<w.heap.size:=fun k hk=>h.lo.lt k hk
 have hlt:=h.lt2
 have kp : ∀ k,k<w.heap.size->M.vl.ownBlock≠some k->w9.heap[k]?=w.heap[k]?:=fun k hk hne=>(hg.block k (by omega) (fun e=>hne e.symm)).trans (hA.block k hk)
 have hs9:=hg.size
 have hset:=grownBy_set w9 gm 3 (.slice (some ⟨g9,0,none⟩) (M.ls.length+1) c9)
 have own2 : ∀ {e k n:Nat} {u:Value} {l:List Value},(∀ q,u.ownBlock=some q->M.vl.ownBlock≠some q)->w.ownsRow (gm+1) e k u n l->(w9.setCell ⟨gm,3,none⟩ (.slice (some ⟨g9,0,none⟩) (M.ls.length+1) c9)).ownsRow (gm+1) e k u n l:=fun hq h1 =>
  own_grown (own_same h1 (fun q hq2=>kp q (h1.lt q hq2).2 (hq q hq2))) hset (by omega)
 refine⟨{ h with
  cod:=?_,row:=?_,gl:=own2 (fun q hq=>hne q (.inl hq)) h.gl,fn:=own2 (fun q hq=>hne q (.inr hq)) h.fn,lo:=?_,lok:=?_,ln:=?_ },?_⟩
 ·exact(h.cod.keep fun k hk=>kp k (by omega) (fun e=>by have:=hvl k e;omega)).keep fun k hk=>heap_setCell_other w9 ⟨gm,3,none⟩ k _ (by show k≠gm;omega)
 ·exact heap_setCell_same _ gm 3 _ _ _ ((kp gm hlt.2 (fun e=>by have:=hvl gm e;omega)).trans h.row)
 ·have:=own_grown ho hset (by omega)
  simpa [strs] using this
 ·intro l hl2
  rw [List.mem_append] at hl2
  rcases hl2 with hl2 | hl2
  ·exact h.lok l hl2
  ·simp at hl2;subst hl2;exact hn
 ·show (M.ls++[nm]).length<=10
  simp;omega
 ·refine⟨hg.os.trans hA.os,hg.tape.trans hA.tape,hg.output.trans hA.output,by simp [World.setCell];omega,fun k hk h1 h2 h3=>(heap_setCell_other w9 ⟨gm,3,none⟩ k _ h2).trans (kp k hk (fun e=>h3 e.symm)),fun k hk hlt2=>?_,rfl,rfl,rfl,rfl⟩
  have e1:g9=k:=by simpa [Value.ownBlock] using hk
  subst e1
  rcases h9 with h9 | h9
  ·exact h9
  ·omega
theorem own_ne {w:World} {b1 b2 e1 e2 k1 k2 n1 n2:Nat} {u v:Value} {l1 l2:List Value} (h1:w.ownsRow b1 e1 k1 u n1 l1) (h2:w.ownsRow b2 e2 k2 v n2 l2) (he:e1≠e2) : ∀ k,u.ownBlock=some k->v.ownBlock≠some k:=by
 intro k hk hv
 rcases h1.2 with⟨rfl,_⟩ | ⟨g,cap,cur,rfl,_,hg,_⟩
 ·cases hk
 rcases h2.2 with⟨rfl,_⟩ | ⟨g2,cap2,cur2,rfl,_,hg2,_⟩
 ·cases hv
 have a1:g=k:=by simpa [Value.ownBlock] using hk
 have a2:g2=k:=by simpa [Value.ownBlock] using hv
 subst a1 a2
 rw [hg] at hg2
 injection hg2 with hg2
 injection hg2 with _ hg2 _
 exact he hg2
theorem good_store {deep:Nat} {M:Mk} {nm:Bt} {h1 h2:Hd} {r1 r2:Fo} (hn:okN nm) (hE1:goodE 1 h1 r1) (hE2:goodE 2 h2 r2) (hb0:0<=M.bud) (hb9:M.ls.length+M.bud<=8):goodS deep M M 3 nm (.cons h1 r1 (one1 h2 r2)) .nil .nil:=by
 obtain⟨e1,e2,e3,e4,e5⟩:=hE1
 obtain⟨k1,k2,k3,k4,k5⟩:=hE2
 have hb1:bnd 1=246:=rfl
 have hb2:bnd 2=849:=rfl
 refine⟨hb0,by omega,⟨.inr (.inl ⟨rfl,hn,rfl,rfl,rfl⟩),rfl,⟨e1,e2,e3,k1,k2,k3,trivial⟩,trivial,trivial,trivial⟩,?_,?_,?_⟩
 ·show ((150+(own h1 r1.len+r1.cst+(own h2 r2.len+r2.cst+0))+0+0+0:Nat):Int)<=_
  omega
 ·show max (max 0 0+1) 0<=_
  omega
 ·show max (max (max (r1.dep+1) (max (r2.dep+1) 0)) (max 0 0)) 0<=3
  omega
set_option maxRecDepth 100000 in
set_option maxHeartbeats 16000000 in
theorem stmt_of (gc gm dp:Nat) (hdp:dp<=1000)
  (HB : ∀ deep:Nat,dp=deep+1 -> ∀ M W (most:Int),0<=most->most<=9->MkAt W gc gm M->0<=M.bud->M.ls.length+M.bud<=9->Calls Tryd.prog 20 #[.pointer (some ⟨gm,0,none⟩),.int .i64 (deep:Int),.int .i64 most] W (BkPost gc gm deep M W))
  (HP : ∀ deep:Nat,dp=deep+1 -> ∀ M W,MkAt W gc gm M->0<=M.bud->M.ls.length+M.bud<=8->Calls Tryd.prog 48 #[.pointer (some ⟨gm,0,none⟩),.int .i64 ((deep:Int)+1)] W (StPost gc gm (deep+1) M W))
  (M:Mk) (w:World) (h:MkAt w gc gm M) (h0:0<=M.bud) (h8:M.ls.length+M.bud<=8) :
  Calls Tryd.prog 31 #[.pointer (some ⟨gm,0,none⟩),.int .i64 (dp:Int)] w (StPost gc gm dp M w):=by
 have HBK:=Lib.hid HB
 have HLP:=Lib.hid HP
 have HM:=Lib.hid h
 have HH:=Lib.hid (And.intro h0 h8)
 have hx:=StW.start h
 have HEX:=Lib.hid (fun (d:Nat) (hd:d<=1000) W (hW:MkAt W gc gm M)=>expr_any gc gm d M hd W hW)
 have HCA:=Lib.hid (fun W (hW:MkAt W gc gm M)=>call2_any gc gm M W hW)
 have HPK:=Lib.hid (fun arr W (hW:MkAt W gc gm M)=>pick_any gc gm M arr W hW)
 have HFR:=Lib.hid (fun W (hW:MkAt W gc gm M)=>fresh_any gc gm M W hW)
 clear HB HP h0 h8
 go_enter Tryd.func31,Tryd.ntmps31
 go_upto_region 1 with fail
 obtain⟨w1,hw1⟩ : ∃ w1,w.alloc zst=w1:=⟨_,rfl⟩
 rw [hw1] at hx ⊢
 obtain⟨g,hg⟩ : ∃ g,w.heap.size=g:=⟨_,rfl⟩
 rw [hg] at hx ⊢
 have HX:=Lib.hid hx
 have HC:Hid (∀ wx,StW w gc gm M M g wx->wx.cell? ⟨gm,0,none⟩=some (.pointer (some ⟨gc,0,none⟩))/\wx.cell? ⟨gm,3,none⟩=some M.vl/\gm<wx.heap.size/\wx.frozen? ⟨gm,3,none⟩=false):=Lib.hid (fun wx h=>⟨cell_of_row _ _ 0 _ _ _ h.mkr.row,cell_of_row _ _ 3 _ _ _ h.mkr.row,heap_lt h.mkr.row,frozen_of_row _ gm 3 _ _ h.mkr.row⟩)
 have HLC:Hid (gc<g/\gm<g):=Lib.hid ⟨hx.lc,hx.lm⟩
 clear hw1 hx h hg
 obtain⟨c0,c3,jm,f3⟩:=HC.out _ HX.out
 go_wp2_with fail
 refine(Next_any gc 10 (by omega) _ HX.out.mkr.cod).mono ?_
 rintro e w2 ⟨y,rfl,y0,y1,hcod,hg⟩
 have HX2:=Lib.hid (HX.out.grown hg hcod)
 have y2:y<10:=by omega
 clear hcod hg HX c0 c3 jm f3 y1
 clear w1
 go_upto_block 0 with fail
 go_cut [6,7,8,9,10,11,12,13] from 20 to 140 (fun v6 v7 v8 v9 v10 v11 v12 v13 wx=>Hid (StW w gc gm M M g wx))
 case first =>
  by_cases e0:y=0
  ·subst e0
   clear y0 y2
   go_wp2_with fail
   refine(HFR.out _ HX2.out.mkr).mono ?_
   rintro e w3 ⟨hb3,nm,ok,rfl,hok⟩
   have HX3:=Lib.hid (HX2.out.below hb3)
   clear hb3
   cases ok
   ·go_wp2_with fail
    go_meet
    exact HX3
   have HNM:=Lib.hid (hok rfl)
   clear hok
   go_wp2_with fail
   refine(HEX.out 2 (by omega) _ HX3.out.mkr).mono ?_
   intro e w4 hp
   obtain⟨hd4,ar4,a4,k4,rfl,HR4⟩:=hp.open
   clear hp
   have HX4:=Lib.hid (HX3.out.grown HR4.out.2.2.2 HR4.out.2.2.1)
   go_wp2_with fail
   refine(one_any 1 _ hd4 a4 ar4.len k4 _).mono ?_
   rintro e w5 ⟨gq,rfl,hgq,hrq,hbO⟩
   have HX5:=Lib.hid (HX4.out.below hbO)
   have HA5:Hid (ArgsAt w5 (TB (g+1) M) (one1 hd4 ar4) (.slice (some ⟨gq,0,none⟩) 1 1)):=Lib.hid (args_block hrq (HR4.out.1.keep (fun b hb hlt=>⟨hbO.block b hlt,TB.of HX3.out.mkr HX3.out.lts b hb⟩) hbO.size) (TB.of HX3.out.mkr HX3.out.lts gq (by have:=HR4.out.2.2.2.size;omega)))
   clear hgq hrq hbO
   have hb6:=below_alloc w5 (.cells #[.int .i64 1,.int .i64 0,.string (st nm),.slice (some ⟨gq,0,none⟩) 1 1,.slice none 0 0,.slice none 0 0] 83)
   have hr6:=heap_alloc_new w5 (.cells #[.int .i64 1,.int .i64 0,.string (st nm),.slice (some ⟨gq,0,none⟩) 1 1,.slice none 0 0,.slice none 0 0] 83)
   have HX6:=Lib.hid (HX5.out.below hb6)
   have HG6:Hid (g<w5.heap.size):=Lib.hid HX5.out.lts
   have HA6:Hid (ArgsAt (w5.alloc (.cells #[.int .i64 1,.int .i64 0,.string (st nm),.slice (some ⟨gq,0,none⟩) 1 1,.slice none 0 0,.slice none 0 0] 83)) (TB (g+1) M) (one1 hd4 ar4) (.slice (some ⟨gq,0,none⟩) 1 1)):=Lib.hid (HA5.out.keep (fun b hb hlt=>⟨hb6.block b hlt,hb⟩) hb6.size)
   go_upto_region 8 with fail
   obtain⟨w6,hw6⟩ : ∃ wx,w5.alloc (.cells #[.int .i64 1,.int .i64 0,.string (st nm),.slice (some ⟨gq,0,none⟩) 1 1,.slice none 0 0,.slice none 0 0] 83)=wx:=⟨_,rfl⟩
   obtain⟨g8,hg8⟩ : ∃ gx,w5.heap.size=gx:=⟨_,rfl⟩
   rw [hw6] at hr6 HX6 HA6 ⊢
   rw [hg8] at hr6 HG6 ⊢
   have HR6:=Lib.hid hr6
   clear hb6 hr6 hw6 hg8 HX5 HA5 HX3 HX4
   obtain⟨al,cl,hvl,-,hlc1,hlc2,-⟩:=LsAt.of_own HX6.out.mkr.lo
   obtain⟨c0,c3,jm,f3⟩:=HC.out _ HX6.out
   have hvs:M.vl=.slice al M.ls.length cl:=hvl
   have HVL:=Lib.hid hvs
   rw [hvs] at c3
   clear hvl hvs
   have HOA:Hid ((w6.alloc (.cells #[.string (st nm)] 9)).ownsRow (gm+1) 9 1 (.slice al M.ls.length cl) M.ls.length (strs M.ls)):=Lib.hid (by rw [<- HVL.out];exact HX6.out.mkr.lo.alloc _)
   obtain⟨i0,HI⟩:=info_of Tryd.infoStr
   have hln:M.ls.length<=9:=by have:=HH.out;omega
   have hgm6:gm+1<=w6.heap.size+1:=by omega
   go_upto_region 9 with(at_builtin;refine wpList_append_lies _ rfl _ _ _ rfl (gm+1) 9 i0 _ 1 16 Tryd.underlying27 HI.out.1 HI.out.2.1 HI.out.2.2.1 HI.out.2.2.2 rfl (by omega) _ _ _ rfl HOA.out ⟨w6.heap.size,0,none⟩ 1 1 [.string (st nm)] rfl rfl (World.news_of_block (cs := #[.string (st nm)]) (t:=9) (fr:=(0,0)) (heap_alloc_new w6 _)) (by simp [Value.oneCell']) (by omega) (by unfold maxLen;omega) (by omega) (by simp;omega) _ rfl ?_;intro g9 c9 w9 hown9 hgrow9 hor9 hlt9;have hrow9:=(hgrow9.block gm (by simp;omega) (fun e=>by have:=(HOA.out.lt gm e.symm).1;omega)).trans ((Below.heap_alloc w6 _ gm jm).trans HX6.out.mkr.row);have k3:=cell_of_row _ _ 3 _ _ _ hrow9;have k3f:=frozen_of_row _ gm 3 _ _ hrow9;have k3j:=heap_lt hrow9;have HO9:=Lib.hid hown9;have HG9:=Lib.hid hgrow9;have HR9:=Lib.hid hor9;clear hown9 hgrow9 hor9 hlt9 hrow9)
   have hloc:=MkAt.local (nm:=nm) HX6.out.mkr HNM.out hln (by rw [HVL.out];exact HG9.out) HO9.out (by rw [HVL.out];exact HR9.out) (fun k hk=>by
    rcases hk with hk | hk
    ·exact own_ne HX6.out.mkr.gl HX6.out.mkr.lo (by decide) k hk
    ·exact own_ne HX6.out.mkr.fn HX6.out.mkr.lo (by decide) k hk)
   have HXL:=Lib.hid (HX6.out.step hloc.2 hloc.1)
   have HAL:=Lib.hid (HA6.out.chg hloc.2 (by have:=HLC.out;omega) (by have:=HLC.out;omega))
   have HRL:=Lib.hid (step_row hloc.2 HX6.out.mkr HR6.out ⟨_,_,_,HR6.out,.inr rfl⟩ (by have:=HLC.out;have:=HG6.out;omega) (by have:=HLC.out;have:=HG6.out;omega))
   obtain⟨wL,hwL⟩ : ∃ wx,w9.setCell ⟨gm,3,none⟩ (.slice (some ⟨g9,0,none⟩) (M.ls.length+1) c9)=wx:=⟨_,rfl⟩
   rw [hwL] at HXL HAL HRL ⊢
   clear hwL hloc k3 k3f k3j c0 c3 jm f3
   obtain⟨p0,p1,p2,p3,p4,p5⟩:=cells6 HRL.out
   obtain⟨jl,f0,f1,f2,f3,f4,f5,r0,r1,r2,r3,r4,r5⟩:=HXL.out.cells
   go_wp2_with fail
   obtain⟨q0,q1,q2,q3,q4,q5,HF⟩:=HXL.out.fin (deep:=dp) (k:=1) (nm:=nm) HAL.out (StsAt.nil _ _) (StsAt.nil _ _) (good_one (.inl ⟨.inl rfl,HNM.out,rfl,rfl,rfl⟩) HR4.out.2.1 HH.out.1 (by show (((M.ls++[nm]).length:Nat):Int)+M.bud<=9;have:=HH.out.2;simp;omega) trivial trivial (by show (((0:Nat):Int)+((0:Nat):Int))<=301+1300 * (M.bud - M.bud);omega) (by simp [Sf.nst]) (by simp [Sf.nst]) (by simp [Sf.hgt]) (by simp [Sf.hgt])) _ rfl
   refine bodyPost_ret (v:=stv 1 0 nm (.slice (some ⟨gq,0,none⟩) 1 1) (.slice none 0 0) (.slice none 0 0)) (by simp [results,Tryd.results31,go_sem,q0,q1,q2,q3,q4,q5]) rfl ?_
   exact HF.out
  by_cases e1:y=1
  ·subst e1
   clear y0 y2
   go_wp2_with fail
   refine(HFR.out _ HX2.out.mkr).mono ?_
   rintro e w3 ⟨hb3,nm,ok,rfl,hok⟩
   have HX3:=Lib.hid (HX2.out.below hb3)
   clear hb3
   cases ok
   ·go_wp2_with fail
    go_meet
    exact HX3
   have HNM:=Lib.hid (hok rfl)
   clear hok
   go_wp2_with fail
   refine(HEX.out 2 (by omega) _ HX3.out.mkr).mono ?_
   intro e w4 hp
   obtain⟨hd4,ar4,a4,k4,rfl,HR4⟩:=hp.open
   clear hp
   have HX4:=Lib.hid (HX3.out.grown HR4.out.2.2.2 HR4.out.2.2.1)
   go_wp2_with fail
   refine(one_any 1 _ hd4 a4 ar4.len k4 _).mono ?_
   rintro e w5 ⟨gq,rfl,hgq,hrq,hbO⟩
   have HX5:=Lib.hid (HX4.out.below hbO)
   have HA5:Hid (ArgsAt w5 (TB (g+1) M) (one1 hd4 ar4) (.slice (some ⟨gq,0,none⟩) 1 1)):=Lib.hid (args_block hrq (HR4.out.1.keep (fun b hb hlt=>⟨hbO.block b hlt,TB.of HX3.out.mkr HX3.out.lts b hb⟩) hbO.size) (TB.of HX3.out.mkr HX3.out.lts gq (by have:=HR4.out.2.2.2.size;omega)))
   clear hgq hrq hbO
   have hb6:=below_alloc w5 (.cells #[.int .i64 1,.int .i64 0,.string (st nm),.slice (some ⟨gq,0,none⟩) 1 1,.slice none 0 0,.slice none 0 0] 83)
   have hr6:=heap_alloc_new w5 (.cells #[.int .i64 1,.int .i64 0,.string (st nm),.slice (some ⟨gq,0,none⟩) 1 1,.slice none 0 0,.slice none 0 0] 83)
   have HX6:=Lib.hid (HX5.out.below hb6)
   have HG6:Hid (g<w5.heap.size):=Lib.hid HX5.out.lts
   have HA6:Hid (ArgsAt (w5.alloc (.cells #[.int .i64 1,.int .i64 0,.string (st nm),.slice (some ⟨gq,0,none⟩) 1 1,.slice none 0 0,.slice none 0 0] 83)) (TB (g+1) M) (one1 hd4 ar4) (.slice (some ⟨gq,0,none⟩) 1 1)):=Lib.hid (HA5.out.keep (fun b hb hlt=>⟨hb6.block b hlt,hb⟩) hb6.size)
   go_upto_region 8 with fail
   obtain⟨w6,hw6⟩ : ∃ wx,w5.alloc (.cells #[.int .i64 1,.int .i64 0,.string (st nm),.slice (some ⟨gq,0,none⟩) 1 1,.slice none 0 0,.slice none 0 0] 83)=wx:=⟨_,rfl⟩
   obtain⟨g8,hg8⟩ : ∃ gx,w5.heap.size=gx:=⟨_,rfl⟩
   rw [hw6] at hr6 HX6 HA6 ⊢
   rw [hg8] at hr6 HG6 ⊢
   have HR6:=Lib.hid hr6
   clear hb6 hr6 hw6 hg8 HX5 HA5 HX3 HX4
   obtain⟨al,cl,hvl,-,hlc1,hlc2,-⟩:=LsAt.of_own HX6.out.mkr.lo
   obtain⟨c0,c3,jm,f3⟩:=HC.out _ HX6.out
   have hvs:M.vl=.slice al M.ls.length cl:=hvl
   have HVL:=Lib.hid hvs
   rw [hvs] at c3
   clear hvl hvs
   have HOA:Hid ((w6.alloc (.cells #[.string (st nm)] 9)).ownsRow (gm+1) 9 1 (.slice al M.ls.length cl) M.ls.length (strs M.ls)):=Lib.hid (by rw [<- HVL.out];exact HX6.out.mkr.lo.alloc _)
   obtain⟨i0,HI⟩:=info_of Tryd.infoStr
   have hln:M.ls.length<=9:=by have:=HH.out;omega
   have hgm6:gm+1<=w6.heap.size+1:=by omega
   go_upto_region 9 with(at_builtin;refine wpList_append_lies _ rfl _ _ _ rfl (gm+1) 9 i0 _ 1 16 Tryd.underlying27 HI.out.1 HI.out.2.1 HI.out.2.2.1 HI.out.2.2.2 rfl (by omega) _ _ _ rfl HOA.out ⟨w6.heap.size,0,none⟩ 1 1 [.string (st nm)] rfl rfl (World.news_of_block (cs := #[.string (st nm)]) (t:=9) (fr:=(0,0)) (heap_alloc_new w6 _)) (by simp [Value.oneCell']) (by omega) (by unfold maxLen;omega) (by omega) (by simp;omega) _ rfl ?_;intro g9 c9 w9 hown9 hgrow9 hor9 hlt9;have hrow9:=(hgrow9.block gm (by simp;omega) (fun e=>by have:=(HOA.out.lt gm e.symm).1;omega)).trans ((Below.heap_alloc w6 _ gm jm).trans HX6.out.mkr.row);have k3:=cell_of_row _ _ 3 _ _ _ hrow9;have k3f:=frozen_of_row _ gm 3 _ _ hrow9;have k3j:=heap_lt hrow9;have HO9:=Lib.hid hown9;have HG9:=Lib.hid hgrow9;have HR9:=Lib.hid hor9;clear hown9 hgrow9 hor9 hlt9 hrow9)
   have hloc:=MkAt.local (nm:=nm) HX6.out.mkr HNM.out hln (by rw [HVL.out];exact HG9.out) HO9.out (by rw [HVL.out];exact HR9.out) (fun k hk=>by
    rcases hk with hk | hk
    ·exact own_ne HX6.out.mkr.gl HX6.out.mkr.lo (by decide) k hk
    ·exact own_ne HX6.out.mkr.fn HX6.out.mkr.lo (by decide) k hk)
   have HXL:=Lib.hid (HX6.out.step hloc.2 hloc.1)
   have HAL:=Lib.hid (HA6.out.chg hloc.2 (by have:=HLC.out;omega) (by have:=HLC.out;omega))
   have HRL:=Lib.hid (step_row hloc.2 HX6.out.mkr HR6.out ⟨_,_,_,HR6.out,.inr rfl⟩ (by have:=HLC.out;have:=HG6.out;omega) (by have:=HLC.out;have:=HG6.out;omega))
   obtain⟨wL,hwL⟩ : ∃ wx,w9.setCell ⟨gm,3,none⟩ (.slice (some ⟨g9,0,none⟩) (M.ls.length+1) c9)=wx:=⟨_,rfl⟩
   rw [hwL] at HXL HAL HRL ⊢
   clear hwL hloc k3 k3f k3j c0 c3 jm f3
   obtain⟨p0,p1,p2,p3,p4,p5⟩:=cells6 HRL.out
   obtain⟨jl,f0,f1,f2,f3,f4,f5,r0,r1,r2,r3,r4,r5⟩:=HXL.out.cells
   go_wp2_with fail
   obtain⟨q0,q1,q2,q3,q4,q5,HF⟩:=HXL.out.fin (deep:=dp) (k:=1) (nm:=nm) HAL.out (StsAt.nil _ _) (StsAt.nil _ _) (good_one (.inl ⟨.inl rfl,HNM.out,rfl,rfl,rfl⟩) HR4.out.2.1 HH.out.1 (by show (((M.ls++[nm]).length:Nat):Int)+M.bud<=9;have:=HH.out.2;simp;omega) trivial trivial (by show (((0:Nat):Int)+((0:Nat):Int))<=301+1300 * (M.bud - M.bud);omega) (by simp [Sf.nst]) (by simp [Sf.nst]) (by simp [Sf.hgt]) (by simp [Sf.hgt])) _ rfl
   refine bodyPost_ret (v:=stv 1 0 nm (.slice (some ⟨gq,0,none⟩) 1 1) (.slice none 0 0) (.slice none 0 0)) (by simp [results,Tryd.results31,go_sem,q0,q1,q2,q3,q4,q5]) rfl ?_
   exact HF.out
  by_cases e2:y=2
  ·subst e2
   clear y0 y2
   by_cases hn0:M.ls.length=0
   ·obtain⟨al,cl,hvl,-,-,-,-⟩:=LsAt.of_own HX2.out.mkr.lo
    obtain⟨c0,c3,jm,f3⟩:=HC.out _ HX2.out
    rw [hvl,hn0] at c3
    clear hvl hn0
    go_wp2_with fail
    go_meet
    exact HX2
   obtain⟨n,hn⟩ : ∃ n,M.ls.length=n:=⟨_,rfl⟩
   have hn1:n<=10:=by have:=HM.out.ln;omega
   obtain⟨bl,cl,hvl,hl1,hl2,hb1,hb2,hhold⟩:=ls_hold HX2.out.mkr (by omega)
   obtain⟨c0,c3,jm,f3⟩:=HC.out _ HX2.out
   rw [hvl] at c3
   rw [hn] at c3 hl1 hhold hn0
   have HN:=Lib.hid hn
   have HRW:=Lib.hid hhold
   have HBG:Hid (gm<bl/\bl<g):=Lib.hid ⟨hb1,by
    have:=(HM.out.lo.lt bl (by rw [hvl];rfl)).2
    have:=HX2.out.eg;omega⟩
   clear hvl hhold hn hb1 hb2
   have dn:decide ((0:Int)<(n:Int))=true:=by rw [decide_eq_true_iff];omega
   go_upto_region 12 with fail
   clear c0 c3 jm f3
   refine wp_region_held_drew (S:=(fun w'=>w'.cell? ⟨gm,0,none⟩=some (.pointer (some ⟨gc,0,none⟩))/\w'.cell? ⟨gm,3,none⟩=some (.slice (some ⟨bl,0,none⟩) n cl) /\ ∀ j x,M.ls[j]?=some x->w'.cell? ⟨bl,j,none⟩=some (.string (st x)))) (by kernel_rfl) (HRW.out _ (grownBy_drewN w2 1 _)) (fun hHeld=>?_)
   refine tkH 0 52 ?_
   refine tkH 1 53 ?_
   refine tkH 2 54 ?_
   refine tkH 3 55 ?_
   refine tkH 4 56 ?_
   refine tkH 5 57 ?_
   refine tkH 6 58 ?_
   refine tkH 7 59 ?_
   refine tkH 8 60 ?_
   refine tkH 9 61 ?_
   refine tkH 13 65 ?_
   refine rdH 10 fun K hK=>?_
   ·go_simp
    refine(Next_any gc n (by omega) _ HX2.out.mkr.cod.drew).mono ?_
    rintro e w3 ⟨z,rfl,z0,z1,hcod,hg0⟩
    obtain⟨z,rfl⟩:=Int.eq_ofNat_of_zero_le z0
    have z2:z<n:=by omega
    have z3:(z:Int)<(n:Int):=by omega
    obtain⟨nm,hnm⟩ : ∃ nm,M.ls[z]?=some nm:=⟨_,List.getElem?_eq_getElem (by rw [HN.out];exact z2)⟩
    have HNM:Hid (okN nm):=Lib.hid (HM.out.lok nm (List.mem_of_getElem? hnm))
    have hg:=grownBy_trans (grownBy_drewN w2 1 (some gc)) hg0
    have HX3:=Lib.hid (HX2.out.grown hg hcod)
    refine goH hK (HRW.out _ hg) fun hHeld=>?_
    clear hK K hg0 hcod z1
    refine tkH 11 63 ?_
    refine wpAnyH_takeD (i:=12) (d:=some 64) (v:=.string (st nm)) rfl (by kernel_rfl) (by kernel_rfl) (by kernel_rfl) (by kernel_rfl) (fun _ _ _ h=>h) (Or.inl ⟨by kernel_rfl,?_⟩) (by assumption) ?_
    ·(intro w hSw;have hcx:=hSw.2.2 z nm hnm;go_simp;try with_reducible rfl)
    (try simp only [Act.put,List.setIfInBounds_toArray,List.set_cons_zero,List.set_cons_succ])
    refine rdH 14 fun K hK=>?_
    go_simp
    refine(HEX.out 2 (by omega) _ HX3.out.mkr).mono ?_
    intro e w4 hp
    obtain⟨hd4,ar4,a4,k4,rfl,HR4⟩:=hp.open
    clear hp
    have HX4:=Lib.hid (HX3.out.grown HR4.out.2.2.2 HR4.out.2.2.1)
    have HA4:=Lib.hid (HR4.out.1.keep (Q:=TB (g+1) M) (fun b hb _=>⟨rfl,TB.of HX3.out.mkr HX3.out.lts b hb⟩) (Nat.le_refl _))
    have hgr4:=grownBy_trans hg HR4.out.2.2.2
    refine goH hK (HRW.out _ hgr4) fun hHeld=>?_
    clear hK K
    refine rdH 15 fun K hK=>?_
    go_simp
    refine(one_any _ _ hd4 a4 ar4.len k4 _).mono ?_
    rintro e w5 ⟨gq,rfl,hgq,hrq,hbO⟩
    have HX5:=Lib.hid (HX4.out.below hbO)
    have HA5:Hid (ArgsAt w5 (TB (g+1) M) (one1 hd4 ar4) (.slice (some ⟨gq,0,none⟩) 1 1)):=Lib.hid (args_block hrq (HA4.out.keep (fun b hb hlt=>⟨hbO.block b hlt,hb⟩) hbO.size) (TB.of HX4.out.mkr HX4.out.lts gq hgq))
    have hgr5:=grownBy_trans hgr4 (grownBy_of_below hbO (some gc))
    refine goH hK (HRW.out _ hgr5) fun hHeld=>?_
    clear hK K hgq hrq hbO
    obtain⟨jl,f0,f1,f2,f3,f4,f5,r0,r1,r2,r3,r4,r5⟩:=HX5.out.cells
    refine rdH 16 fun K hK=>?_
    go_simp
    refine goH hK ⟨cell_set6 (b:=g) (b':=gm) (by have:=HLC.out;omega) hHeld.1,cell_set6 (b:=g) (b':=gm) (by have:=HLC.out;omega) hHeld.2.1,fun j x hj=>cell_set6 (b:=g) (b':=bl) (by have:=HBG.out;omega) (hHeld.2.2 j x hj)⟩ fun hHeld=>?_
    clear hK K
    refine wpAnyH_done (by kernel_rfl) ?_ _
    go_wp2_with fail
    obtain⟨q0,q1,q2,q3,q4,q5,HF⟩:=HX5.out.fin (deep:=dp) (k:=2) (nm:=nm) HA5.out (StsAt.nil _ _) (StsAt.nil _ _) (good_plain (.inl ⟨.inr rfl,HNM.out,rfl,rfl,rfl⟩) HR4.out.2.1 HH.out.1 HH.out.2) _ rfl
    refine bodyPost_ret (v:=stv 2 0 nm (.slice (some ⟨gq,0,none⟩) 1 1) (.slice none 0 0) (.slice none 0 0)) (by simp [results,Tryd.results31,go_sem,q0,q1,q2,q3,q4,q5]) rfl ?_
    exact HF.out
  by_cases e3:y=3
  ·subst e3
   clear y0 y2
   go_wp2_with fail
   refine(HPK.out false _ HX2.out.mkr).mono ?_
   rintro e w3 ⟨nm,ok,rfl,hpk,hcod,hg⟩
   have HX3:=Lib.hid (HX2.out.grown hg hcod)
   cases ok
   ·clear hpk hg hcod
    go_wp2_with fail
    go_meet
    exact HX3
   have HNM:=Lib.hid ((hpk rfl).nm HM.out)
   clear hpk hg hcod
   go_wp2_with fail
   refine(HEX.out 2 (by omega) _ HX3.out.mkr).mono ?_
   intro e w4 hp
   obtain⟨hd4,ar4,a4,k4,rfl,HR4⟩:=hp.open
   clear hp
   have HX4:=Lib.hid (HX3.out.grown HR4.out.2.2.2 HR4.out.2.2.1)
   go_wp2_with fail
   refine(one_any 2 _ hd4 a4 ar4.len k4 _).mono ?_
   rintro e w5 ⟨gq,rfl,hgq,hrq,hbO⟩
   have HX5:=Lib.hid (HX4.out.below hbO)
   have HA5:Hid (ArgsAt w5 (TB (g+1) M) (one1 hd4 ar4) (.slice (some ⟨gq,0,none⟩) 1 1)):=Lib.hid (args_block hrq (HR4.out.1.keep (fun b hb hlt=>⟨hbO.block b hlt,TB.of HX3.out.mkr HX3.out.lts b hb⟩) hbO.size) (TB.of HX3.out.mkr HX3.out.lts gq (by have:=HR4.out.2.2.2.size;omega)))
   clear hgq hrq hbO
   obtain⟨jl,f0,f1,f2,f3,f4,f5,r0,r1,r2,r3,r4,r5⟩:=HX5.out.cells
   go_wp2_with fail
   obtain⟨q0,q1,q2,q3,q4,q5,HF⟩:=HX5.out.fin (deep:=dp) (k:=2) (nm:=nm) HA5.out (StsAt.nil _ _) (StsAt.nil _ _) (good_plain (.inl ⟨.inr rfl,HNM.out,rfl,rfl,rfl⟩) HR4.out.2.1 HH.out.1 HH.out.2) _ rfl
   refine bodyPost_ret (v:=stv 2 0 nm (.slice (some ⟨gq,0,none⟩) 1 1) (.slice none 0 0) (.slice none 0 0)) (by simp [results,Tryd.results31,go_sem,q0,q1,q2,q3,q4,q5]) rfl ?_
   exact HF.out
  by_cases e4:y=4
  ·subst e4
   clear y0 y2
   go_wp2_with fail
   refine(HPK.out true _ HX2.out.mkr).mono ?_
   rintro e w3 ⟨nm,ok,rfl,hpk,hcod,hg⟩
   have HX3:=Lib.hid (HX2.out.grown hg hcod)
   cases ok
   ·clear hpk hg hcod
    go_wp2_with fail
    go_meet
    exact HX3
   have HNM:=Lib.hid ((hpk rfl).nm HM.out)
   clear hpk hg hcod
   go_wp2_with fail
   refine(HEX.out 1 (by omega) _ HX3.out.mkr).mono ?_
   intro e w4 hp
   obtain⟨hd4,ar4,a4,k4,rfl,HR4⟩:=hp.open
   clear hp
   have HX4:=Lib.hid (HX3.out.grown HR4.out.2.2.2 HR4.out.2.2.1)
   go_wp2_with fail
   refine(HEX.out 2 (by omega) _ HX4.out.mkr).mono ?_
   intro e w5 hp
   obtain⟨hd5,ar5,a5,k5,rfl,HR5⟩:=hp.open
   clear hp
   have HX5:=Lib.hid (HX4.out.grown HR5.out.2.2.2 HR5.out.2.2.1)
   have HFA:Hid (FoAt w5 (TB (g+1) M) (.cons hd4 ar4 (one1 hd5 ar5)) (hdc hd4 (.slice a4 ar4.len k4)++hdc hd5 (.slice a5 ar5.len k5))):=Lib.hid (FoAt.app (F:=one1 hd4 ar4) (ArgsAt.one (HR4.out.1.keep (fun b hb hlt=>⟨HR5.out.2.2.2.block b hlt (by simp;have:=HLC.out;have:=HX3.out.lts;omega),TB.of HX3.out.mkr HX3.out.lts b hb⟩) HR5.out.2.2.2.size)) (ArgsAt.one (HR5.out.1.keep (fun b hb _=>⟨rfl,TB.of HX4.out.mkr HX4.out.lts b hb⟩) (Nat.le_refl _))))
   have HAN:=Lib.hid (args_made (Q:=TB (g+1) M) HFA.out (by simp [Fo.len,maxLen]) (fun b hb _=>hb) (TB.of HX5.out.mkr HX5.out.lts _ (Nat.le_refl _)))
   have HXN:=Lib.hid (HX5.out.below (below_alloc w5 (.cells (hdc hd4 (.slice a4 ar4.len k4)++hdc hd5 (.slice a5 ar5.len k5)).toArray 40)))
   have hg5:g<w5.heap.size:=HX5.out.lts
   obtain⟨jl,f0,f1,f2,f3,f4,f5,r0,r1,r2,r3,r4,r5⟩:=HX5.out.cells
   go_wp2_with fail
   obtain⟨q0,q1,q2,q3,q4,q5,HF⟩:=HXN.out.fin (deep:=dp) (k:=3) (nm:=nm) (slx:=.slice (some ⟨w5.heap.size,0,none⟩) 2 2) HAN.out (StsAt.nil _ _) (StsAt.nil _ _) (good_store HNM.out HR4.out.2.1 HR5.out.2.1 HH.out.1 HH.out.2) _ (set6_alloc _ hg5).symm
   simp only [List.cons_append,List.nil_append] at q0 q1 q2 q3 q4 q5
   refine bodyPost_ret (v:=stv 3 0 nm (.slice (some ⟨w5.heap.size,0,none⟩) 2 2) (.slice none 0 0) (.slice none 0 0)) (by simp [results,Tryd.results31,go_sem,q0,q1,q2,q3,q4,q5]) rfl ?_
   exact HF.out
  by_cases e5:y=5
  ·subst e5
   clear y0 y2
   by_cases hd0:dp=0
   ·have dd:decide ((0:Int)<(dp:Int))=false:=by rw [decide_eq_false_iff_not];omega
    go_wp2_with fail
    go_meet
    exact HX2
   obtain⟨deep,rfl⟩ : ∃ deep,dp=deep+1:=⟨dp - 1,by omega⟩
   have HBD:=Lib.hid (HBK.out deep rfl)
   have ec:(((deep+1:Nat)):Int)=(deep:Int)+1:=by omega
   have dd:decide ((0:Int)<(deep:Int)+1)=true:=by rw [decide_eq_true_iff];omega
   rw [ec]
   clear ec
   go_wp2_with fail
   refine(HEX.out 2 (by omega) _ HX2.out.mkr).mono ?_
   intro e w4 hp
   obtain⟨hd4,ar4,a4,k4,rfl,HR4⟩:=hp.open
   clear hp
   have HX4:=Lib.hid (HX2.out.grown HR4.out.2.2.2 HR4.out.2.2.1)
   go_wp2_with fail
   refine(one_any 4 _ hd4 a4 ar4.len k4 _).mono ?_
   rintro e w5 ⟨gq,rfl,hgq,hrq,hbO⟩
   have HX5:=Lib.hid (HX4.out.below hbO)
   have HA5:Hid (ArgsAt w5 (TB (g+1) M) (one1 hd4 ar4) (.slice (some ⟨gq,0,none⟩) 1 1)):=Lib.hid (args_block hrq (HR4.out.1.keep (fun b hb hlt=>⟨hbO.block b hlt,TB.of HX2.out.mkr HX2.out.lts b hb⟩) hbO.size) (TB.of HX2.out.mkr HX2.out.lts gq (by have:=HR4.out.2.2.2.size;omega)))
   clear hgq hrq hbO
   have hbL:=below_alloc w5 (.cells #[.int .i64 4,.int .i64 0,.string { data := #[] },.slice (some ⟨gq,0,none⟩) 1 1,.slice none 0 0,.slice none 0 0] 83)
   have hrL:=heap_alloc_new w5 (.cells #[.int .i64 4,.int .i64 0,.string { data := #[] },.slice (some ⟨gq,0,none⟩) 1 1,.slice none 0 0,.slice none 0 0] 83)
   have HXL:=Lib.hid (HX5.out.below hbL)
   have HGL:Hid (g<w5.heap.size):=Lib.hid HX5.out.lts
   have HAL:Hid (ArgsAt (w5.alloc (.cells #[.int .i64 4,.int .i64 0,.string { data := #[] },.slice (some ⟨gq,0,none⟩) 1 1,.slice none 0 0,.slice none 0 0] 83)) (fun b=>TB (g+1) M b/\b≠w5.heap.size) (one1 hd4 ar4) (.slice (some ⟨gq,0,none⟩) 1 1)):=Lib.hid (HA5.out.keep (fun b hb hlt=>⟨hbL.block b hlt,hb,by omega⟩) hbL.size)
   go_upto_region 25 with fail
   obtain⟨wL,hwL⟩ : ∃ wL,w5.alloc (.cells #[.int .i64 4,.int .i64 0,.string { data := #[] },.slice (some ⟨gq,0,none⟩) 1 1,.slice none 0 0,.slice none 0 0] 83)=wL:=⟨_,rfl⟩
   obtain⟨g7,hg7⟩ : ∃ g7,w5.heap.size=g7:=⟨_,rfl⟩
   rw [hwL] at hrL HXL HAL ⊢
   rw [hg7] at hrL HAL HGL ⊢
   have HRL:=Lib.hid hrL
   clear hwL hg7 hrL hbL HX4 HX5 HA5 HX2
   go_wp2_with fail
   refine(Next_any gc 2 (by omega) _ HXL.out.mkr.cod).mono ?_
   rintro e wN ⟨z,rfl,z0,z1,hcod,hg⟩
   have z2:z<2:=by omega
   have HXN:=Lib.hid (HXL.out.grown hg hcod)
   have HRN:Hid (wN.heap[g7]?=some (srow 4 [] (.slice (some ⟨gq,0,none⟩) 1 1) (.slice none 0 0) (.slice none 0 0))):=Lib.hid ((hg.block g7 (heap_lt HRL.out) (by simp;have:=HLC.out;have:=HGL.out;omega)).trans HRL.out)
   have HAN:=Lib.hid (HAL.out.keep (Q:=fun b=>TB (g+1) M b/\b≠g7) (fun b hb hlt=>⟨hg.block b hlt (by simp;have:=hb.1.1;have:=HLC.out;omega),hb⟩) hg.size)
   clear hcod hg HXL HRL HAL
   clear wL
   have hcall:=HBD.out M wN (1+z) (by omega) (by omega) HXN.out.mkr HH.out.1 (by have:=HH.out.2;omega)
   have HCL:=Lib.hid hcall
   clear hcall z1
   go_wp2_with fail
   refine HCL.out.mono ?_
   rintro e wB ⟨S,sl,xs,M1,rfl,hown,hS,hch,hmk,hb0,hb9,hw,hcst,hnst,hhgt⟩
   have HXB:=Lib.hid (HXN.out.step hch hmk)
   have HRB:=Lib.hid (step_row hch HXN.out.mkr HRN.out ⟨_,_,_,HRN.out,.inr rfl⟩ (by have:=HLC.out;have:=HGL.out;omega) (by have:=HLC.out;have:=HGL.out;omega))
   have HAB:Hid (ArgsAt wB (fun b=>TB (g+1) M1 b/\b≠g7) (one1 hd4 ar4) (.slice (some ⟨gq,0,none⟩) 1 1)):=Lib.hid (HAN.out.keep (fun b hb hlt=>⟨(hch.kp (lo:=g+1) (by have:=HLC.out;omega) (by have:=HLC.out;omega) b hb.1 hlt).1,(hch.kp (lo:=g+1) (by have:=HLC.out;omega) (by have:=HLC.out;omega) b hb.1 hlt).2,hb.2⟩) hch.size)
   have hsts:=sts_of_own hown hS hmk
   have HGN:Hid (g7<wN.heap.size):=Lib.hid (heap_lt HRN.out)
   have HSB:Hid (StsAt wB (fun b=>TB (g+1) M1 b/\b≠g7) S sl):=Lib.hid (hsts.keep (fun b hb _=>⟨rfl,⟨by have:=hb.1;have:=HGN.out;have:=HGL.out;omega,hb.2⟩,by have:=hb.1;have:=HGN.out;omega⟩) (Nat.le_refl _))
   obtain⟨asl,csl,_,rfl,-⟩:=hsts
   have HG1:=Lib.hid (And.intro hb0 (And.intro hb9 (And.intro hw (And.intro hcst (And.intro hnst hhgt)))))
   clear hown hS hch hmk hb0 hb9 hw hcst hnst hhgt HXN HRN HAN HCL
   have j4:=frozen_of_row _ g7 4 _ _ HRB.out
   have k4':=cell_of_row _ _ 4 _ _ _ HRB.out
   have jg7:=heap_lt HRB.out
   go_upto_region 26 with fail
   have HXS:=Lib.hid (HXB.out.setTree ⟨_,_,_,HRB.out,.inr rfl⟩ HGL.out 4 (.slice asl S.len csl))
   have HRS:Hid ((wB.setCell ⟨g7,4,none⟩ (.slice asl S.len csl)).heap[g7]?=some (srow 4 [] (.slice (some ⟨gq,0,none⟩) 1 1) (.slice asl S.len csl) (.slice none 0 0))):=Lib.hid (heap_setCell_same _ g7 4 _ _ (.slice asl S.len csl) HRB.out)
   have HAS:=Lib.hid (HAB.out.keep (w':=wB.setCell ⟨g7,4,none⟩ (.slice asl S.len csl)) (Q:=fun b=>TB (g+1) M1 b/\b≠g7) (fun b hb _=>⟨heap_setCell_other wB ⟨g7,4,none⟩ b _ hb.2,hb⟩) (by simp [World.setCell]))
   have HSS:=Lib.hid (HSB.out.keep (w':=wB.setCell ⟨g7,4,none⟩ (.slice asl S.len csl)) (Q:=fun b=>TB (g+1) M1 b/\b≠g7) (fun b hb _=>⟨heap_setCell_other wB ⟨g7,4,none⟩ b _ hb.2,hb⟩) (by simp [World.setCell]))
   obtain⟨wS,hwS⟩ : ∃ wS,wB.setCell ⟨g7,4,none⟩ (.slice asl S.len csl)=wS:=⟨_,rfl⟩
   rw [hwS] at HXS HRS HAS HSS ⊢
   clear hwS j4 k4' jg7 HXB HRB HAB HSB HGN
   clear wB
   go_wp2_with fail
   refine(Next_any gc 2 (by omega) _ HXS.out.mkr.cod).mono ?_
   rintro e wT ⟨y,rfl,y0,y1,hcod,hg⟩
   have HXT:=Lib.hid (HXS.out.grown hg hcod)
   have HRT:Hid (wT.heap[g7]?=some (srow 4 [] (.slice (some ⟨gq,0,none⟩) 1 1) (.slice asl S.len csl) (.slice none 0 0))):=Lib.hid ((hg.block g7 (heap_lt HRS.out) (by simp;have:=HLC.out;have:=HGL.out;omega)).trans HRS.out)
   have HAT:=Lib.hid (HAS.out.keep (Q:=fun b=>TB (g+1) M1 b/\b≠g7) (fun b hb hlt=>⟨hg.block b hlt (by simp;have:=hb.1.1;have:=HLC.out;omega),hb⟩) hg.size)
   have HST:=Lib.hid (HSS.out.keep (Q:=fun b=>TB (g+1) M1 b/\b≠g7) (fun b hb hlt=>⟨hg.block b hlt (by simp;have:=hb.1.1;have:=HLC.out;omega),hb⟩) hg.size)
   clear hcod hg HXS HRS HAS HSS
   clear wS
   obtain⟨b1,hb1⟩ : ∃ b,(y==1)=b:=⟨_,rfl⟩
   go_upto_if 113 with fail
   (try rw [hb1])
   clear hb1 y0 y1
   go_cut [] from 114 to 121 (fun wx => ∃ (M2:Mk) (E:Sf) (ae:Option Addr) (ce:Nat),Hid (StW w gc gm M M2 g wx/\wx.heap[g7]?=some (srow 4 [] (.slice (some ⟨gq,0,none⟩) 1 1) (.slice asl S.len csl) (.slice ae E.len ce))/\ArgsAt wx (TB (g+1) M2) (one1 hd4 ar4) (.slice (some ⟨gq,0,none⟩) 1 1)/\StsAt wx (TB (g+1) M2) S (.slice asl S.len csl)/\StsAt wx (TB (g+1) M2) E (.slice ae E.len ce)/\goodS (deep+1) M M2 4 [] (one1 hd4 ar4) S E))
   case first =>
    cases b1
    ·go_wp2_with fail
     go_meet
     exact⟨M1,.nil,none,0,Lib.hid ⟨HXT.out,HRT.out,HAT.out.keep (fun b hb _=>⟨rfl,hb.1⟩) (Nat.le_refl _),HST.out.keep (fun b hb _=>⟨rfl,hb.1⟩) (Nat.le_refl _),StsAt.nil _ _,good_one (.inr (.inr (.inl ⟨rfl,rfl,rfl⟩))) HR4.out.2.1 HG1.out.1 HG1.out.2.1 HG1.out.2.2.1 trivial (by have:=HG1.out.2.2.2.1;simp only [Sf.cst];omega) HG1.out.2.2.2.2.1 (by simp [Sf.nst]) HG1.out.2.2.2.2.2 (by simp [Sf.hgt])⟩⟩
    ·go_wp2_with fail
     refine(Next_any gc 2 (by omega) _ HXT.out.mkr.cod).mono ?_
     rintro e wU ⟨q,rfl,u0,u1,hcod,hg⟩
     have u2:q<2:=by omega
     have HXU:=Lib.hid (HXT.out.grown hg hcod)
     have HRU:Hid (wU.heap[g7]?=some (srow 4 [] (.slice (some ⟨gq,0,none⟩) 1 1) (.slice asl S.len csl) (.slice none 0 0))):=Lib.hid ((hg.block g7 (heap_lt HRT.out) (by simp;have:=HLC.out;have:=HGL.out;omega)).trans HRT.out)
     have HAU:=Lib.hid (HAT.out.keep (Q:=fun b=>TB (g+1) M1 b/\b≠g7) (fun b hb hlt=>⟨hg.block b hlt (by simp;have:=hb.1.1;have:=HLC.out;omega),hb⟩) hg.size)
     have HSU:=Lib.hid (HST.out.keep (Q:=fun b=>TB (g+1) M1 b/\b≠g7) (fun b hb hlt=>⟨hg.block b hlt (by simp;have:=hb.1.1;have:=HLC.out;omega),hb⟩) hg.size)
     clear hcod hg HXT HRT HAT HST
     clear wT
     have hcall:=HBD.out M1 wU (1+q) (by omega) (by omega) HXU.out.mkr HG1.out.1 HG1.out.2.1
     have HCL:=Lib.hid hcall
     clear hcall u1
     go_wp2_with fail
     refine HCL.out.mono ?_
     rintro e wB ⟨E,sl,xs2,M2,rfl,hown,hS,hch,hmk,hb0,hb9,hw,hcst,hnst,hhgt⟩
     have HXB:=Lib.hid (HXU.out.step hch hmk)
     have HRB:=Lib.hid (step_row hch HXU.out.mkr HRU.out ⟨_,_,_,HRU.out,.inr rfl⟩ (by have:=HLC.out;have:=HGL.out;omega) (by have:=HLC.out;have:=HGL.out;omega))
     have hkp:=hch.kp (lo:=g+1) (by have:=HLC.out;omega) (by have:=HLC.out;omega)
     have HAB:=Lib.hid (HAU.out.keep (Q:=fun b=>TB (g+1) M2 b/\b≠g7) (fun b hb hlt=>⟨(hkp b hb.1 hlt).1,(hkp b hb.1 hlt).2,hb.2⟩) hch.size)
     have HSB:=Lib.hid (HSU.out.keep (Q:=fun b=>TB (g+1) M2 b/\b≠g7) (fun b hb hlt=>⟨(hkp b hb.1 hlt).1,(hkp b hb.1 hlt).2,hb.2⟩) hch.size)
     have hsts:=sts_of_own hown hS hmk
     have HGU:Hid (g7<wU.heap.size):=Lib.hid (heap_lt HRU.out)
     have HEB:Hid (StsAt wB (fun b=>TB (g+1) M2 b/\b≠g7) E sl):=Lib.hid (hsts.keep (fun b hb _=>⟨rfl,⟨by have:=hb.1;have:=HGU.out;have:=HGL.out;omega,hb.2⟩,by have:=hb.1;have:=HGU.out;omega⟩) (Nat.le_refl _))
     obtain⟨ae,ce,_,rfl,-⟩:=hsts
     have HGD:Hid (goodS (deep+1) M M2 4 [] (one1 hd4 ar4) S E):=Lib.hid (good_one (.inr (.inr (.inl ⟨rfl,rfl,rfl⟩))) HR4.out.2.1 hb0 hb9 HG1.out.2.2.1 hw (by have:=HG1.out.2.2.2.1;omega) HG1.out.2.2.2.2.1 hnst HG1.out.2.2.2.2.2 hhgt)
     clear hown hS hch hmk hb0 hb9 hw hcst hnst hhgt HXU HRU HAU HSU HCL hkp
     have j4:=frozen_of_row _ g7 5 _ _ HRB.out
     have k4':=cell_of_row _ _ 5 _ _ _ HRB.out
     have jg7:=heap_lt HRB.out
     go_wp2_with fail
     go_meet
     exact⟨M2,E,ae,ce,Lib.hid ⟨HXB.out.setTree ⟨_,_,_,HRB.out,.inr rfl⟩ HGL.out 5 _,heap_setCell_same _ g7 5 _ _ _ HRB.out,HAB.out.keep (fun b hb _=>⟨heap_setCell_other wB ⟨g7,5,none⟩ b _ hb.2,hb.1⟩) (by simp [World.setCell]),HSB.out.keep (fun b hb _=>⟨heap_setCell_other wB ⟨g7,5,none⟩ b _ hb.2,hb.1⟩) (by simp [World.setCell]),HEB.out.keep (fun b hb _=>⟨heap_setCell_other wB ⟨g7,5,none⟩ b _ hb.2,hb.1⟩) (by simp [World.setCell]),HGD.out⟩⟩
   case rest =>
    obtain⟨M2,E,ae,ce,HZ⟩:=hcut
    clear HXT HRT HAT HST
    clear wT
    obtain⟨p0,p1,p2,p3,p4,p5⟩:=cells6 HZ.out.2.1
    obtain⟨jl,f0,f1,f2,f3,f4,f5,r0,r1,r2,r3,r4,r5⟩:=HZ.out.1.cells
    go_wp2_with fail
    obtain⟨q0,q1,q2,q3,q4,q5,HF⟩:=HZ.out.1.fin (deep:=deep+1) HZ.out.2.2.1 HZ.out.2.2.2.1 HZ.out.2.2.2.2.1 HZ.out.2.2.2.2.2 _ rfl
    refine bodyPost_ret (v:=stv 4 0 [] (.slice (some ⟨gq,0,none⟩) 1 1) (.slice asl S.len csl) (.slice ae E.len ce)) (by simp [results,Tryd.results31,go_sem,q0,q1,q2,q3,q4,q5]) rfl ?_
    exact HF.out
  by_cases e6:y=6
  ·subst e6
   clear y0 y2
   by_cases hd0:dp=0
   ·have dd:decide ((0:Int)<(dp:Int))=false:=by rw [decide_eq_false_iff_not];omega
    go_wp2_with fail
    go_meet
    exact HX2
   obtain⟨deep,rfl⟩ : ∃ deep,dp=deep+1:=⟨dp - 1,by omega⟩
   have HBD:=Lib.hid (HBK.out deep rfl)
   have ec:(((deep+1:Nat)):Int)=(deep:Int)+1:=by omega
   have dd:decide ((0:Int)<(deep:Int)+1)=true:=by rw [decide_eq_true_iff];omega
   rw [ec]
   clear ec
   go_wp2_with fail
   refine(HEX.out 2 (by omega) _ HX2.out.mkr).mono ?_
   intro e w4 hp
   obtain⟨hd4,ar4,a4,k4,rfl,HR4⟩:=hp.open
   clear hp
   have HX4:=Lib.hid (HX2.out.grown HR4.out.2.2.2 HR4.out.2.2.1)
   go_wp2_with fail
   refine(one_any 4 _ hd4 a4 ar4.len k4 _).mono ?_
   rintro e w5 ⟨gq,rfl,hgq,hrq,hbO⟩
   have HX5:=Lib.hid (HX4.out.below hbO)
   have HA5:Hid (ArgsAt w5 (TB (g+1) M) (one1 hd4 ar4) (.slice (some ⟨gq,0,none⟩) 1 1)):=Lib.hid (args_block hrq (HR4.out.1.keep (fun b hb hlt=>⟨hbO.block b hlt,TB.of HX2.out.mkr HX2.out.lts b hb⟩) hbO.size) (TB.of HX2.out.mkr HX2.out.lts gq (by have:=HR4.out.2.2.2.size;omega)))
   clear hgq hrq hbO
   have hbL:=below_alloc w5 (.cells #[.int .i64 4,.int .i64 0,.string { data := #[] },.slice (some ⟨gq,0,none⟩) 1 1,.slice none 0 0,.slice none 0 0] 83)
   have hrL:=heap_alloc_new w5 (.cells #[.int .i64 4,.int .i64 0,.string { data := #[] },.slice (some ⟨gq,0,none⟩) 1 1,.slice none 0 0,.slice none 0 0] 83)
   have HXL:=Lib.hid (HX5.out.below hbL)
   have HGL:Hid (g<w5.heap.size):=Lib.hid HX5.out.lts
   have HAL:Hid (ArgsAt (w5.alloc (.cells #[.int .i64 4,.int .i64 0,.string { data := #[] },.slice (some ⟨gq,0,none⟩) 1 1,.slice none 0 0,.slice none 0 0] 83)) (fun b=>TB (g+1) M b/\b≠w5.heap.size) (one1 hd4 ar4) (.slice (some ⟨gq,0,none⟩) 1 1)):=Lib.hid (HA5.out.keep (fun b hb hlt=>⟨hbL.block b hlt,hb,by omega⟩) hbL.size)
   go_upto_region 25 with fail
   obtain⟨wL,hwL⟩ : ∃ wL,w5.alloc (.cells #[.int .i64 4,.int .i64 0,.string { data := #[] },.slice (some ⟨gq,0,none⟩) 1 1,.slice none 0 0,.slice none 0 0] 83)=wL:=⟨_,rfl⟩
   obtain⟨g7,hg7⟩ : ∃ g7,w5.heap.size=g7:=⟨_,rfl⟩
   rw [hwL] at hrL HXL HAL ⊢
   rw [hg7] at hrL HAL HGL ⊢
   have HRL:=Lib.hid hrL
   clear hwL hg7 hrL hbL HX4 HX5 HA5 HX2
   go_wp2_with fail
   refine(Next_any gc 2 (by omega) _ HXL.out.mkr.cod).mono ?_
   rintro e wN ⟨z,rfl,z0,z1,hcod,hg⟩
   have z2:z<2:=by omega
   have HXN:=Lib.hid (HXL.out.grown hg hcod)
   have HRN:Hid (wN.heap[g7]?=some (srow 4 [] (.slice (some ⟨gq,0,none⟩) 1 1) (.slice none 0 0) (.slice none 0 0))):=Lib.hid ((hg.block g7 (heap_lt HRL.out) (by simp;have:=HLC.out;have:=HGL.out;omega)).trans HRL.out)
   have HAN:=Lib.hid (HAL.out.keep (Q:=fun b=>TB (g+1) M b/\b≠g7) (fun b hb hlt=>⟨hg.block b hlt (by simp;have:=hb.1.1;have:=HLC.out;omega),hb⟩) hg.size)
   clear hcod hg HXL HRL HAL
   clear wL
   have hcall:=HBD.out M wN (1+z) (by omega) (by omega) HXN.out.mkr HH.out.1 (by have:=HH.out.2;omega)
   have HCL:=Lib.hid hcall
   clear hcall z1
   go_wp2_with fail
   refine HCL.out.mono ?_
   rintro e wB ⟨S,sl,xs,M1,rfl,hown,hS,hch,hmk,hb0,hb9,hw,hcst,hnst,hhgt⟩
   have HXB:=Lib.hid (HXN.out.step hch hmk)
   have HRB:=Lib.hid (step_row hch HXN.out.mkr HRN.out ⟨_,_,_,HRN.out,.inr rfl⟩ (by have:=HLC.out;have:=HGL.out;omega) (by have:=HLC.out;have:=HGL.out;omega))
   have HAB:Hid (ArgsAt wB (fun b=>TB (g+1) M1 b/\b≠g7) (one1 hd4 ar4) (.slice (some ⟨gq,0,none⟩) 1 1)):=Lib.hid (HAN.out.keep (fun b hb hlt=>⟨(hch.kp (lo:=g+1) (by have:=HLC.out;omega) (by have:=HLC.out;omega) b hb.1 hlt).1,(hch.kp (lo:=g+1) (by have:=HLC.out;omega) (by have:=HLC.out;omega) b hb.1 hlt).2,hb.2⟩) hch.size)
   have hsts:=sts_of_own hown hS hmk
   have HGN:Hid (g7<wN.heap.size):=Lib.hid (heap_lt HRN.out)
   have HSB:Hid (StsAt wB (fun b=>TB (g+1) M1 b/\b≠g7) S sl):=Lib.hid (hsts.keep (fun b hb _=>⟨rfl,⟨by have:=hb.1;have:=HGN.out;have:=HGL.out;omega,hb.2⟩,by have:=hb.1;have:=HGN.out;omega⟩) (Nat.le_refl _))
   obtain⟨asl,csl,_,rfl,-⟩:=hsts
   have HG1:=Lib.hid (And.intro hb0 (And.intro hb9 (And.intro hw (And.intro hcst (And.intro hnst hhgt)))))
   clear hown hS hch hmk hb0 hb9 hw hcst hnst hhgt HXN HRN HAN HCL
   have j4:=frozen_of_row _ g7 4 _ _ HRB.out
   have k4':=cell_of_row _ _ 4 _ _ _ HRB.out
   have jg7:=heap_lt HRB.out
   go_upto_region 26 with fail
   have HXS:=Lib.hid (HXB.out.setTree ⟨_,_,_,HRB.out,.inr rfl⟩ HGL.out 4 (.slice asl S.len csl))
   have HRS:Hid ((wB.setCell ⟨g7,4,none⟩ (.slice asl S.len csl)).heap[g7]?=some (srow 4 [] (.slice (some ⟨gq,0,none⟩) 1 1) (.slice asl S.len csl) (.slice none 0 0))):=Lib.hid (heap_setCell_same _ g7 4 _ _ (.slice asl S.len csl) HRB.out)
   have HAS:=Lib.hid (HAB.out.keep (w':=wB.setCell ⟨g7,4,none⟩ (.slice asl S.len csl)) (Q:=fun b=>TB (g+1) M1 b/\b≠g7) (fun b hb _=>⟨heap_setCell_other wB ⟨g7,4,none⟩ b _ hb.2,hb⟩) (by simp [World.setCell]))
   have HSS:=Lib.hid (HSB.out.keep (w':=wB.setCell ⟨g7,4,none⟩ (.slice asl S.len csl)) (Q:=fun b=>TB (g+1) M1 b/\b≠g7) (fun b hb _=>⟨heap_setCell_other wB ⟨g7,4,none⟩ b _ hb.2,hb⟩) (by simp [World.setCell]))
   obtain⟨wS,hwS⟩ : ∃ wS,wB.setCell ⟨g7,4,none⟩ (.slice asl S.len csl)=wS:=⟨_,rfl⟩
   rw [hwS] at HXS HRS HAS HSS ⊢
   clear hwS j4 k4' jg7 HXB HRB HAB HSB HGN
   clear wB
   go_wp2_with fail
   refine(Next_any gc 2 (by omega) _ HXS.out.mkr.cod).mono ?_
   rintro e wT ⟨y,rfl,y0,y1,hcod,hg⟩
   have HXT:=Lib.hid (HXS.out.grown hg hcod)
   have HRT:Hid (wT.heap[g7]?=some (srow 4 [] (.slice (some ⟨gq,0,none⟩) 1 1) (.slice asl S.len csl) (.slice none 0 0))):=Lib.hid ((hg.block g7 (heap_lt HRS.out) (by simp;have:=HLC.out;have:=HGL.out;omega)).trans HRS.out)
   have HAT:=Lib.hid (HAS.out.keep (Q:=fun b=>TB (g+1) M1 b/\b≠g7) (fun b hb hlt=>⟨hg.block b hlt (by simp;have:=hb.1.1;have:=HLC.out;omega),hb⟩) hg.size)
   have HST:=Lib.hid (HSS.out.keep (Q:=fun b=>TB (g+1) M1 b/\b≠g7) (fun b hb hlt=>⟨hg.block b hlt (by simp;have:=hb.1.1;have:=HLC.out;omega),hb⟩) hg.size)
   clear hcod hg HXS HRS HAS HSS
   clear wS
   obtain⟨b1,hb1⟩ : ∃ b,(y==1)=b:=⟨_,rfl⟩
   go_upto_if 113 with fail
   (try rw [hb1])
   clear hb1 y0 y1
   go_cut [] from 114 to 121 (fun wx => ∃ (M2:Mk) (E:Sf) (ae:Option Addr) (ce:Nat),Hid (StW w gc gm M M2 g wx/\wx.heap[g7]?=some (srow 4 [] (.slice (some ⟨gq,0,none⟩) 1 1) (.slice asl S.len csl) (.slice ae E.len ce))/\ArgsAt wx (TB (g+1) M2) (one1 hd4 ar4) (.slice (some ⟨gq,0,none⟩) 1 1)/\StsAt wx (TB (g+1) M2) S (.slice asl S.len csl)/\StsAt wx (TB (g+1) M2) E (.slice ae E.len ce)/\goodS (deep+1) M M2 4 [] (one1 hd4 ar4) S E))
   case first =>
    cases b1
    ·go_wp2_with fail
     go_meet
     exact⟨M1,.nil,none,0,Lib.hid ⟨HXT.out,HRT.out,HAT.out.keep (fun b hb _=>⟨rfl,hb.1⟩) (Nat.le_refl _),HST.out.keep (fun b hb _=>⟨rfl,hb.1⟩) (Nat.le_refl _),StsAt.nil _ _,good_one (.inr (.inr (.inl ⟨rfl,rfl,rfl⟩))) HR4.out.2.1 HG1.out.1 HG1.out.2.1 HG1.out.2.2.1 trivial (by have:=HG1.out.2.2.2.1;simp only [Sf.cst];omega) HG1.out.2.2.2.2.1 (by simp [Sf.nst]) HG1.out.2.2.2.2.2 (by simp [Sf.hgt])⟩⟩
    ·go_wp2_with fail
     refine(Next_any gc 2 (by omega) _ HXT.out.mkr.cod).mono ?_
     rintro e wU ⟨q,rfl,u0,u1,hcod,hg⟩
     have u2:q<2:=by omega
     have HXU:=Lib.hid (HXT.out.grown hg hcod)
     have HRU:Hid (wU.heap[g7]?=some (srow 4 [] (.slice (some ⟨gq,0,none⟩) 1 1) (.slice asl S.len csl) (.slice none 0 0))):=Lib.hid ((hg.block g7 (heap_lt HRT.out) (by simp;have:=HLC.out;have:=HGL.out;omega)).trans HRT.out)
     have HAU:=Lib.hid (HAT.out.keep (Q:=fun b=>TB (g+1) M1 b/\b≠g7) (fun b hb hlt=>⟨hg.block b hlt (by simp;have:=hb.1.1;have:=HLC.out;omega),hb⟩) hg.size)
     have HSU:=Lib.hid (HST.out.keep (Q:=fun b=>TB (g+1) M1 b/\b≠g7) (fun b hb hlt=>⟨hg.block b hlt (by simp;have:=hb.1.1;have:=HLC.out;omega),hb⟩) hg.size)
     clear hcod hg HXT HRT HAT HST
     clear wT
     have hcall:=HBD.out M1 wU (1+q) (by omega) (by omega) HXU.out.mkr HG1.out.1 HG1.out.2.1
     have HCL:=Lib.hid hcall
     clear hcall u1
     go_wp2_with fail
     refine HCL.out.mono ?_
     rintro e wB ⟨E,sl,xs2,M2,rfl,hown,hS,hch,hmk,hb0,hb9,hw,hcst,hnst,hhgt⟩
     have HXB:=Lib.hid (HXU.out.step hch hmk)
     have HRB:=Lib.hid (step_row hch HXU.out.mkr HRU.out ⟨_,_,_,HRU.out,.inr rfl⟩ (by have:=HLC.out;have:=HGL.out;omega) (by have:=HLC.out;have:=HGL.out;omega))
     have hkp:=hch.kp (lo:=g+1) (by have:=HLC.out;omega) (by have:=HLC.out;omega)
     have HAB:=Lib.hid (HAU.out.keep (Q:=fun b=>TB (g+1) M2 b/\b≠g7) (fun b hb hlt=>⟨(hkp b hb.1 hlt).1,(hkp b hb.1 hlt).2,hb.2⟩) hch.size)
     have HSB:=Lib.hid (HSU.out.keep (Q:=fun b=>TB (g+1) M2 b/\b≠g7) (fun b hb hlt=>⟨(hkp b hb.1 hlt).1,(hkp b hb.1 hlt).2,hb.2⟩) hch.size)
     have hsts:=sts_of_own hown hS hmk
     have HGU:Hid (g7<wU.heap.size):=Lib.hid (heap_lt HRU.out)
     have HEB:Hid (StsAt wB (fun b=>TB (g+1) M2 b/\b≠g7) E sl):=Lib.hid (hsts.keep (fun b hb _=>⟨rfl,⟨by have:=hb.1;have:=HGU.out;have:=HGL.out;omega,hb.2⟩,by have:=hb.1;have:=HGU.out;omega⟩) (Nat.le_refl _))
     obtain⟨ae,ce,_,rfl,-⟩:=hsts
     have HGD:Hid (goodS (deep+1) M M2 4 [] (one1 hd4 ar4) S E):=Lib.hid (good_one (.inr (.inr (.inl ⟨rfl,rfl,rfl⟩))) HR4.out.2.1 hb0 hb9 HG1.out.2.2.1 hw (by have:=HG1.out.2.2.2.1;omega) HG1.out.2.2.2.2.1 hnst HG1.out.2.2.2.2.2 hhgt)
     clear hown hS hch hmk hb0 hb9 hw hcst hnst hhgt HXU HRU HAU HSU HCL hkp
     have j4:=frozen_of_row _ g7 5 _ _ HRB.out
     have k4':=cell_of_row _ _ 5 _ _ _ HRB.out
     have jg7:=heap_lt HRB.out
     go_wp2_with fail
     go_meet
     exact⟨M2,E,ae,ce,Lib.hid ⟨HXB.out.setTree ⟨_,_,_,HRB.out,.inr rfl⟩ HGL.out 5 _,heap_setCell_same _ g7 5 _ _ _ HRB.out,HAB.out.keep (fun b hb _=>⟨heap_setCell_other wB ⟨g7,5,none⟩ b _ hb.2,hb.1⟩) (by simp [World.setCell]),HSB.out.keep (fun b hb _=>⟨heap_setCell_other wB ⟨g7,5,none⟩ b _ hb.2,hb.1⟩) (by simp [World.setCell]),HEB.out.keep (fun b hb _=>⟨heap_setCell_other wB ⟨g7,5,none⟩ b _ hb.2,hb.1⟩) (by simp [World.setCell]),HGD.out⟩⟩
   case rest =>
    obtain⟨M2,E,ae,ce,HZ⟩:=hcut
    clear HXT HRT HAT HST
    clear wT
    obtain⟨p0,p1,p2,p3,p4,p5⟩:=cells6 HZ.out.2.1
    obtain⟨jl,f0,f1,f2,f3,f4,f5,r0,r1,r2,r3,r4,r5⟩:=HZ.out.1.cells
    go_wp2_with fail
    obtain⟨q0,q1,q2,q3,q4,q5,HF⟩:=HZ.out.1.fin (deep:=deep+1) HZ.out.2.2.1 HZ.out.2.2.2.1 HZ.out.2.2.2.2.1 HZ.out.2.2.2.2.2 _ rfl
    refine bodyPost_ret (v:=stv 4 0 [] (.slice (some ⟨gq,0,none⟩) 1 1) (.slice asl S.len csl) (.slice ae E.len ce)) (by simp [results,Tryd.results31,go_sem,q0,q1,q2,q3,q4,q5]) rfl ?_
    exact HF.out
  by_cases e7:y=7
  ·subst e7
   clear y0 y2
   by_cases hd0:dp=0
   ·have dd:decide ((0:Int)<(dp:Int))=false:=by rw [decide_eq_false_iff_not];omega
    go_wp2_with fail
    go_meet
    exact HX2
   obtain⟨deep,rfl⟩ : ∃ deep,dp=deep+1:=⟨dp - 1,by omega⟩
   have hcall:=HLP.out deep rfl M w2 HX2.out.mkr HH.out.1 HH.out.2
   have HCL:=Lib.hid hcall
   clear hcall
   have ec:(((deep+1:Nat)):Int)=(deep:Int)+1:=by omega
   have dd:decide ((0:Int)<(deep:Int)+1)=true:=by rw [decide_eq_true_iff];omega
   rw [ec]
   clear ec
   go_wp2_with fail
   refine HCL.out.mono ?_
   rintro e w3 ⟨k,nm,xs,th,el,slx,slt,sle,M1,rfl,hax,hst,hse,hch,hmk,hb0,hb9,hwf,hcst,hnst,hhgt⟩
   have HX3:=Lib.hid (HX2.out.step hch hmk)
   have hgw:=HX2.out.lts
   have HA3:=Lib.hid (hax.keep (Q:=TB (g+1) M1) (fun b hb _=>⟨rfl,by have:=hb.1;omega,hb.2⟩) (Nat.le_refl _))
   have HT3:=Lib.hid (hst.keep (Q:=TB (g+1) M1) (fun b hb _=>⟨rfl,by have:=hb.1;omega,hb.2⟩) (Nat.le_refl _))
   have HE3:=Lib.hid (hse.keep (Q:=TB (g+1) M1) (fun b hb _=>⟨rfl,by have:=hb.1;omega,hb.2⟩) (Nat.le_refl _))
   have HGD:Hid (goodS (deep+1) M M1 k nm xs th el):=Lib.hid ⟨hb0,hb9,hwf,hcst,hnst,hhgt⟩
   obtain⟨ax,cx,_,rfl,-⟩:=hax
   obtain⟨ath,cth,_,rfl,-⟩:=hst
   obtain⟨ael,cel,_,rfl,-⟩:=hse
   clear hch hmk hb0 hb9 hwf hcst hnst hhgt hgw HCL
   obtain⟨jl,f0,f1,f2,f3,f4,f5,r0,r1,r2,r3,r4,r5⟩:=HX3.out.cells
   go_wp2_with fail
   obtain⟨q0,q1,q2,q3,q4,q5,HF⟩:=HX3.out.fin (deep:=deep+1) HA3.out HT3.out HE3.out HGD.out _ rfl
   refine bodyPost_ret (v:=stv k 0 nm (.slice ax xs.len cx) (.slice ath th.len cth) (.slice ael el.len cel)) (by simp [results,Tryd.results31,go_sem,q0,q1,q2,q3,q4,q5]) rfl ?_
   exact HF.out
  by_cases e8:y=8
  ·subst e8
   clear y0 y2
   go_wp2_with fail
   refine(Next_any gc 3 (by omega) _ HX2.out.mkr.cod).mono ?_
   rintro e w3 ⟨z,rfl,z0,z1,hcod,hg⟩
   have HX3:=Lib.hid (HX2.out.grown hg hcod)
   clear hcod hg z0 z1
   by_cases hz:z=0
   ·subst hz
    go_wp2_with fail
    refine(HEX.out 2 (by omega) _ HX3.out.mkr).mono ?_
    intro e w4 hp
    obtain⟨hd4,ar4,a4,k4,rfl,HR4⟩:=hp.open
    clear hp
    have HX4:=Lib.hid (HX3.out.grown HR4.out.2.2.2 HR4.out.2.2.1)
    go_wp2_with fail
    refine(one_any 6 _ hd4 a4 ar4.len k4 _).mono ?_
    rintro e w5 ⟨gq,rfl,hgq,hrq,hbO⟩
    have HX5:=Lib.hid (HX4.out.below hbO)
    have HA5:Hid (ArgsAt w5 (TB (g+1) M) (one1 hd4 ar4) (.slice (some ⟨gq,0,none⟩) 1 1)):=Lib.hid (args_block hrq (HR4.out.1.keep (fun b hb hlt=>⟨hbO.block b hlt,TB.of HX3.out.mkr HX3.out.lts b hb⟩) hbO.size) (TB.of HX3.out.mkr HX3.out.lts gq (by have:=HR4.out.2.2.2.size;omega)))
    clear hgq hrq hbO
    obtain⟨jl,f0,f1,f2,f3,f4,f5,r0,r1,r2,r3,r4,r5⟩:=HX5.out.cells
    go_wp2_with fail
    obtain⟨q0,q1,q2,q3,q4,q5,HF⟩:=HX5.out.fin (deep:=dp) (k:=6) (nm:=[]) HA5.out (StsAt.nil _ _) (StsAt.nil _ _) (good_plain (.inr (.inr (.inr (.inr (.inl ⟨.inl rfl,rfl,rfl,rfl,rfl⟩))))) HR4.out.2.1 HH.out.1 HH.out.2) _ rfl
    refine bodyPost_ret (v:=stv 6 0 [] (.slice (some ⟨gq,0,none⟩) 1 1) (.slice none 0 0) (.slice none 0 0)) (by simp [results,Tryd.results31,go_sem,q0,q1,q2,q3,q4,q5]) rfl ?_
    exact HF.out
   ·have dz:(z==0)=false:=by rw [beq_eq_false_iff_ne];exact hz
    go_wp2_with fail
    refine(HCA.out _ HX3.out.mkr).mono ?_
    rintro e w4 ⟨hp,hkk⟩
    obtain⟨hd4,ar4,a4,k4,rfl,HR4⟩:=hp.open
    have HKD:Hid (hd4.k=9\/hd4.k=10):=Lib.hid (by
     obtain⟨h',sl',e1,hk⟩:=hkk
     injection e1 with e1
     injection e1 with e1
     simp at e1
     omega)
    clear hp hkk
    have HX4:=Lib.hid (HX3.out.grown HR4.out.2.2.2 HR4.out.2.2.1)
    go_wp2_with fail
    refine(one_any 8 _ hd4 a4 ar4.len k4 _).mono ?_
    rintro e w5 ⟨gq,rfl,hgq,hrq,hbO⟩
    have HX5:=Lib.hid (HX4.out.below hbO)
    have HA5:Hid (ArgsAt w5 (TB (g+1) M) (one1 hd4 ar4) (.slice (some ⟨gq,0,none⟩) 1 1)):=Lib.hid (args_block hrq (HR4.out.1.keep (fun b hb hlt=>⟨hbO.block b hlt,TB.of HX3.out.mkr HX3.out.lts b hb⟩) hbO.size) (TB.of HX3.out.mkr HX3.out.lts gq (by have:=HR4.out.2.2.2.size;omega)))
    clear hgq hrq hbO
    obtain⟨jl,f0,f1,f2,f3,f4,f5,r0,r1,r2,r3,r4,r5⟩:=HX5.out.cells
    go_wp2_with fail
    obtain⟨q0,q1,q2,q3,q4,q5,HF⟩:=HX5.out.fin (deep:=dp) (k:=8) (nm:=[]) HA5.out (StsAt.nil _ _) (StsAt.nil _ _) (good_plain (.inr (.inr (.inr (.inr (.inr ⟨rfl,rfl,rfl,rfl,hd4,ar4,rfl,HKD.out⟩))))) HR4.out.2.1 HH.out.1 HH.out.2) _ rfl
    refine bodyPost_ret (v:=stv 8 0 [] (.slice (some ⟨gq,0,none⟩) 1 1) (.slice none 0 0) (.slice none 0 0)) (by simp [results,Tryd.results31,go_sem,q0,q1,q2,q3,q4,q5]) rfl ?_
    exact HF.out
  have d0:(y==0)=false:=by rw [beq_eq_false_iff_ne];exact e0
  have d1:(y==1)=false:=by rw [beq_eq_false_iff_ne];exact e1
  have d2:(y==2)=false:=by rw [beq_eq_false_iff_ne];exact e2
  have d3:(y==3)=false:=by rw [beq_eq_false_iff_ne];exact e3
  have d4:(y==4)=false:=by rw [beq_eq_false_iff_ne];exact e4
  have d5:(y==5)=false:=by rw [beq_eq_false_iff_ne];exact e5
  have d6:(y==6)=false:=by rw [beq_eq_false_iff_ne];exact e6
  have d7:(y==7)=false:=by rw [beq_eq_false_iff_ne];exact e7
  have d8:(y==8)=false:=by rw [beq_eq_false_iff_ne];exact e8
  clear e0 e1 e2 e3 e4 e5 e6 e7 e8 y0 y2
  go_wp2_with fail
  go_meet
  exact HX2
 case rest =>
  have HX:=hcut
  clear HX2 hcut y0 y2
  go_wp2_with fail
  refine(HEX.out 2 (by omega) _ HX.out.mkr).mono ?_
  intro e w4 hp
  obtain⟨hd4,ar4,a4,k4,rfl,HR4⟩:=hp.open
  clear hp
  have HX4:=Lib.hid (HX.out.grown HR4.out.2.2.2 HR4.out.2.2.1)
  go_wp2_with fail
  refine(one_any 7 _ hd4 a4 ar4.len k4 _).mono ?_
  rintro e w5 ⟨gq,rfl,hgq,hrq,hbO⟩
  have HX5:=Lib.hid (HX4.out.below hbO)
  have HA5:Hid (ArgsAt w5 (TB (g+1) M) (one1 hd4 ar4) (.slice (some ⟨gq,0,none⟩) 1 1)):=Lib.hid (args_block hrq (HR4.out.1.keep (fun b hb hlt=>⟨hbO.block b hlt,TB.of HX.out.mkr HX.out.lts b hb⟩) hbO.size) (TB.of HX.out.mkr HX.out.lts gq (by have:=HR4.out.2.2.2.size;omega)))
  clear hgq hrq hbO
  obtain⟨jl,f0,f1,f2,f3,f4,f5,r0,r1,r2,r3,r4,r5⟩:=HX5.out.cells
  go_wp2_with fail
  obtain⟨q0,q1,q2,q3,q4,q5,HF⟩:=HX5.out.fin (deep:=dp) (k:=7) (nm:=[]) HA5.out (StsAt.nil _ _) (StsAt.nil _ _) (good_plain (.inr (.inr (.inr (.inr (.inl ⟨.inr rfl,rfl,rfl,rfl,rfl⟩))))) HR4.out.2.1 HH.out.1 HH.out.2) _ rfl
  refine bodyPost_ret (v:=stv 7 0 [] (.slice (some ⟨gq,0,none⟩) 1 1) (.slice none 0 0) (.slice none 0 0)) (by simp [results,Tryd.results31,go_sem,q0,q1,q2,q3,q4,q5]) rfl ?_
  exact HF.out

theorem maker_all (gc gm:Nat) (dp:Nat) (hdp:dp<=1000) :
  (∀ M W,MkAt W gc gm M->0<=M.bud->M.ls.length+M.bud<=8->Calls Tryd.prog 31 #[.pointer (some ⟨gm,0,none⟩),.int .i64 (dp:Int)] W (StPost gc gm dp M W)) /\
  (∀ M W (most:Int),0<=most->most<=9->MkAt W gc gm M->0<=M.bud->M.ls.length+M.bud<=9->Calls Tryd.prog 20 #[.pointer (some ⟨gm,0,none⟩),.int .i64 (dp:Int),.int .i64 most] W (BkPost gc gm dp M W)):=by
 induction dp with
 | zero =>
  have hs : ∀ M W,MkAt W gc gm M->0<=M.bud->M.ls.length+M.bud<=8->Calls Tryd.prog 31 #[.pointer (some ⟨gm,0,none⟩),.int .i64 ((0:Nat):Int)] W (StPost gc gm 0 M W):=fun M W hM h0 h8 =>
   stmt_of gc gm 0 (by omega) (fun deep h=>absurd h (by omega)) (fun deep h=>absurd h (by omega)) M W hM h0 h8
  refine⟨hs,fun M W most hm0 hm9 hM h0 h9=>?_⟩
  obtain⟨m,rfl⟩:=Int.eq_ofNat_of_zero_le hm0
  exact block_of gc gm 0 m (by omega) hs M W hM h0 h9
 | succ dp ih =>
  obtain⟨ih1,ih2⟩:=ih (by omega)
  have hs : ∀ M W,MkAt W gc gm M->0<=M.bud->M.ls.length+M.bud<=8->Calls Tryd.prog 31 #[.pointer (some ⟨gm,0,none⟩),.int .i64 ((dp+1:Nat):Int)] W (StPost gc gm (dp+1) M W):=fun M W hM h0 h8 =>
   stmt_of gc gm (dp+1) hdp (fun deep h=>by have e:deep=dp:=(by omega);subst e;exact ih2) (fun deep h=>by have e:deep=dp:=(by omega);subst e;exact fun M W hM h0 h8=>loop_of gc gm deep (by omega) ih2 M W hM h0 h8) M W hM h0 h8
  refine⟨hs,fun M W most hm0 hm9 hM h0 h9=>?_⟩
  obtain⟨m,rfl⟩:=Int.eq_ofNat_of_zero_le hm0
  exact block_of gc gm (dp+1) m (by omega) hs M W hM h0 h9
end Go.Proofs.YtpcdinelpfbpfaaDoor
