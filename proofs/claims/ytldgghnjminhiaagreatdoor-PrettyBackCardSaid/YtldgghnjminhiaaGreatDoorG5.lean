/-
  WORDS, PLAIN LAWS and WALKS (Mdk), pressed. (Filled in from templates of this repo.)
-/
import Derived.Test.YtldgghnjminhiaaGreatDoorG3
namespace Go.Proofs.YtldgghnjminhiaaGreatDoor
open Go Go.ChangeAt Go.ChangeShapes Go.RowKit Go.WideShapes
set_option linter.unusedVariables false
set_option linter.unusedSimpArgs false
set_option maxRecDepth 100000
set_option maxHeartbeats 16000000
theorem Js {deep:Nat} {M M1:Mk} {k:Int} {nm:Bt} {hd:Hd} {ar:Fo} {th el:Sf} (hS:okS k nm (Xb hd ar) th el) (hE:Zd 2 hd ar) (hb0:0<=M1.bud) (hb9:M1.ls.length+M1.bud<=9) (ht:th.wf) (he:el.wf)
  (hc:(th.cst:Int)+el.cst<=301+1300*(M.bud-M1.bud)) (hn:th.nst<=deep) (hn2:el.nst<=deep) (hh:th.hgt<=3) (hh2:el.hgt<=3):Kw deep M M1 k nm (Xb hd ar) th el:=by
 obtain⟨e1,e2,e3,e4,e5⟩:=hE
 have hb:bnd 2=849:=rfl
 refine⟨hb0,hb9,⟨hS,rfl,⟨e1,e2,e3,trivial⟩,ht,he,trivial⟩,?_,?_,?_⟩
 ·show ((150+(own hd ar.len+ar.cst+0)+th.cst+el.cst+0:Nat):Int)<=_
  omega
 ·show max (max th.nst el.nst+1) 0<=_
  omega
 show max (max (max (ar.dep+1) 0) (max th.hgt el.hgt)) 0<=3
 omega
theorem StW.setTree {w:World} {gc gm:Nat} {M M':Mk} {g k:Nat} {wx:World} (h:StW w gc gm M M' g wx) (hk:Jw wx k) (hg:g<k) (o:Nat) (v:Value):StW w gc gm M M' g (wx.setCell ⟨k,o,none⟩ v) :=
 ⟨h.eg,(heap_setCell_other wx ⟨k,o,none⟩ g v (by show g≠k;omega)).trans h.row,h.mkr.tree (Xu wx k o v) (λ q hq=>by injection hq with hq;subst hq;exact⟨by have:=h.lc;omega,hk⟩),h.chg.own (Xu wx k o v) (λ q hq=>by injection hq with hq;have:=h.eg;omega),h.lc,h.lm⟩
theorem StW.setTree6 {w:World} {gc gm:Nat} {M M':Mk} {g k:Nat} {wx:World} (h:StW w gc gm M M' g wx) (hk:Jw wx k) (hg:g<k) (v0 v1 v2 v3 v4 v5:Value):StW w gc gm M M' g (set6 wx k v0 v1 v2 v3 v4 v5) :=
 ⟨h.eg,(Yq g (by omega)).trans h.row,h.mkr.tree (Ux wx k v0 v1 v2 v3 v4 v5) (λ q hq=>by injection hq with hq;subst hq;exact⟨by have:=h.lc;omega,hk⟩),h.chg.own (Ux wx k v0 v1 v2 v3 v4 v5) (λ q hq=>by injection hq with hq;have:=h.eg;omega),h.lc,h.lm⟩
theorem Chg.treeb {w w':World} {gc gm k:Nat} {M M':Mk} (h:Chg w w' gc gm M M') (hM:Yg w gc gm M) (hk:Jw w k) (h1:gc<k) (h2:gm<k):w'.heap[k]?=w.heap[k]?:=by
 obtain⟨cs,t,fr,e1,e2⟩:=hk
 exact h.block k (Xv e1) (by omega) (by omega) (λ e=>(Jw.ne_own ⟨cs,t,fr,e1,e2⟩ hM.lo ⟨by decide,by decide⟩) e.symm)
abbrev Ks (k:Int) (nm:Bt) (slx slt sle:Value):Obj:=.cells #[.int .i64 k,.int .i64 0,.string (st nm),slx,slt,sle] 110 (0,0)
theorem Ju {w w':World} {gc gm k:Nat} {M M':Mk} {ob:Obj} (hc:Chg w w' gc gm M M') (hM:Yg w gc gm M) (hr:w.heap[k]?=some ob) (ht:Jw w k) (h1:gc<k) (h2:gm<k):w'.heap[k]?=some ob:=(hc.treeb hM ht h1 h2).trans hr
abbrev Iz (nm:Bt):Obj:=.cells #[.int .i64 13,.int .i64 0,.int .i64 0,.int .i64 0,.string (st nm),.slice none 0 0] 37 (0,0)
abbrev mrow (gc:Nat) (M:Mk):Obj:=.cells #[.pointer (some ⟨gc,0,none⟩),M.va,M.vb,M.vl,.int .i64 M.bud] 58 (0,0)
def Zf (nm:Bt) (z:Int):Fo:=.cons ⟨13,0,0,0,nm⟩ .nil (Xb ⟨1,0,z,0,[]⟩ .nil)
theorem Wd (w:World) (nm:Bt) (z:Int):Zb w (λ _=>False) (Zf nm z) (hdc ⟨13,0,0,0,nm⟩ (.slice none 0 0)++hdc ⟨1,0,z,0,[]⟩ (.slice none 0 0)) :=
 Zb.app (F:=Xb ⟨13,0,0,0,nm⟩ .nil) (Xk.one (Xk.nil _ _)) (Xk.one (Xk.nil _ _))
theorem StW.own {w:World} {gc gm:Nat} {M M':Mk} {g:Nat} {wx wy:World} {r:Option Nat} (h:StW w gc gm M M' g wx) (hg:wx.grownBy wy r) (hr:∀ k,r=some k->g<k/\Jw wx k):StW w gc gm M M' g wy :=
 ⟨h.eg,(hg.block g h.lts (λ e=>by have:=(hr g e.symm).1;omega)).trans h.row,h.mkr.tree hg (λ k hk=>⟨by have:=(hr k hk).1;have:=h.lc;omega,(hr k hk).2⟩),h.chg.own hg (λ k hk=>by have:=(hr k hk).1;have:=h.eg;omega),h.lc,h.lm⟩
theorem Kq {wS w9:World} {lo lb g9 n e:Nat} {M3:Mk} {v:Value} {S N:Sf} {xs ds:List Value} {ob:Obj} (hS:Zp wS (λ b=>TB lo M3 b/\some b≠v.ownBlock) S xs) (hjj:wS.ownsRow lo e 6 v n xs) (hlb:∀ q,v.ownBlock=some q->q<lb) (hlo:lo<=lb)
  (hN:Zp wS (TB lb M3) N ds) (hg9:(wS.alloc ob).grownBy w9 v.ownBlock) (h9:v.ownBlock=some g9\/g9=(wS.alloc ob).heap.size) :
  Zp w9 (λ b=>TB lo M3 b/\some b≠some g9) (S.app N) (xs++ds):=by
 have hsA:(wS.alloc ob).heap.size=wS.heap.size+1:=by simp
 have hs9:=hg9.size
 refine Zp.app (hS.keep (λ b hb hlt=>⟨?_,hb.1,?_⟩) (by omega)) (hN.keep (λ b hb hlt=>⟨?_,⟨by have:=hb.1;omega,hb.2⟩,?_⟩) (by omega))
 ·rw[hg9.block b (by omega) hb.2,Below.heap_alloc wS ob b (by omega)]
 ·rcases h9 with h9|h9
  ·rw[<- h9];exact hb.2
  simp;omega
 ·have:=hb.1
  rw[hg9.block b (by omega) (λ e=>by have:=hlb b e.symm;omega),Below.heap_alloc wS ob b (by omega)]
 have:=hb.1
 rcases h9 with h9|h9
 ·have:=hlb g9 h9;simp;omega
 simp;omega
theorem Ph (S:Sf):150*S.len<=S.cst:=by
 induction S with
 | nil=>simp[Sf.len,Sf.cst]
 | cons k ln nm xs th el r _ _ ih=>simp only[Sf.len,Sf.cst];omega
theorem Hr (nm:Bt) (z:Int) (hn:okN nm) (h0:0<=z) (h1:z<=9223372036854775807):(Zf nm z).wf/\(Zf nm z).cst=63/\(Zf nm z).dep=1 :=
 ⟨⟨En hn,rfl,trivial,Rz h0 h1,rfl,trivial,trivial⟩,rfl,rfl⟩
theorem Ry {deep:Nat} {M M1:Mk} {nm:Bt} {z:Int} {S:Sf} (hn:okN nm) (hz1:1<=z) (hz5:z<=5) (hb0:0<=M1.bud) (hb9:M1.ls.length+M1.bud<=9) (hw:S.wf) (hc:(S.cst:Int)<=1300*(M.bud-M1.bud)) (hns:S.nst<=deep+1) (hh:S.hgt<=3) :
  Kw (deep+1) M M1 5 [] (Xb ⟨6,8,0,0,[]⟩ (Zf nm z)) (S.app (Zq 2 0 nm (Xb ⟨6,3,0,0,[]⟩ (Zf nm 1)) .nil .nil)) .nil:=by
 obtain⟨a1,a2,a3⟩:=Hr nm z hn (by omega) (by omega)
 obtain⟨b1,b2,b3⟩:=Hr nm 1 hn (by omega) (by omega)
 refine⟨hb0,hb9,⟨.inr (.inr (.inr (.inl ⟨rfl,rfl,rfl,rfl⟩))),rfl,⟨.inr (.inr ⟨rfl,rfl,.inr ⟨rfl,by decide,by decide,rfl⟩⟩),rfl,a1,trivial⟩,Sf.wf_app hw ⟨.inl ⟨.inr rfl,hn,rfl,rfl,rfl⟩,rfl,⟨.inr (.inr ⟨rfl,rfl,.inr ⟨rfl,by decide,by decide,rfl⟩⟩),rfl,b1,trivial⟩,trivial,trivial,trivial⟩,trivial,trivial⟩,?_,?_,?_⟩
 ·show ((150+(111+(Zf nm z).cst+0)+(S.app _).cst+0+0:Nat):Int)<=_
  rw[Sf.cst_app]
  show ((150+(111+(Zf nm z).cst+0)+(S.cst+(150+(111+(Zf nm 1).cst+0)+0+0+0))+0+0:Nat):Int)<=_
  omega
 ·show max (max (S.app _).nst 0+1) 0<=_
  rw[Sf.nst_app]
  show max (max (max S.nst (max (max 0 0+1) 0)) 0+1) 0<=_
  omega
 show max (max (max ((Zf nm z).dep+1) 0) (max (S.app _).hgt 0)) 0<=3
 rw[Sf.hgt_app]
 show max (max (max ((Zf nm z).dep+1) 0) (max (max S.hgt (max (max (max ((Zf nm 1).dep+1) 0) (max 0 0)) 0)) 0)) 0<=3
 omega
theorem xqj (gc gm deep:Nat) (hdeep:deep<=1000) (HB:∀ M W (most:Int),0<=most->most<=9->Yg W gc gm M->0<=M.bud->M.ls.length+M.bud<=9->Calls Tryz.prog 34 #[.pointer (some ⟨gm,0,none⟩),.int .i64 (deep:Int),.int .i64 most] W (Hw gc gm deep M W)) (M:Mk) (w:World) (h:Yg w gc gm M) (h0:0<=M.bud) (h8:M.ls.length+M.bud<=8) :
  Calls Tryz.prog 122 #[.pointer (some ⟨gm,0,none⟩),.int .i64 ((deep:Int)+1)] w (Ku gc gm (deep+1) M w):=by
 have HBK:=Xj HB
 have HM:=Xj h
 obtain⟨i0,hi0,hz0,hz1,hz2⟩:=info_parts Tryz.infoStmt
 have HI:=Xj hi0
 have HZ0:=Xj hz0
 have HZ1:=Xj hz1
 have HZ2:=Xj hz2
 clear hi0 hz0 hz1 hz2
 have HH:=Xj (And.intro h0 h8)
 have hx:=StW.start h
 have HEX:=Xj (λ W (hW:Yg W gc gm M)=>Gf gc gm 2 M (by omega) W hW)
 have HPK:=Xj (λ W (hW:Yg W gc gm M)=>Wf gc gm M false W hW)
 clear HB h0 h8
 go_enter Tryz.func122,Tryz.ntmps122
 go_upto_region 1 with fail
 obtain⟨w1,hw1⟩:∃ w1,w.alloc zst=w1:=⟨_,rfl⟩
 rw[hw1] at hx ⊢
 obtain⟨g,hg⟩:∃ g,w.heap.size=g:=⟨_,rfl⟩
 rw[hg] at hx ⊢
 have HX:=Xj hx
 clear hw1 hx h hg
 go_wp2_with fail
 refine(HPK.o _ HX.o.mkr).mono ?_
 rintro e w2 ⟨nm0,ok0,rfl,hpk,hH,hg⟩
 have HX2:=Xj (HX.o.grown hg hH)
 have HOK0:Xq (ok0=true->okN nm0):=Xj (λ h=>(hpk h).nm HM.o)
 clear hpk hH hg HX
 clear w1
 have HC:Xq (∀ wx,StW w gc gm M M g wx->wx.cell? ⟨gm,0,none⟩=some (.pointer (some ⟨gc,0,none⟩))/\wx.cell? ⟨gm,3,none⟩=some M.vl/\gm<wx.heap.size):=Xj (λ wx h=>⟨cell_of_row _ _ 0 _ _ _ h.mkr.row,cell_of_row _ _ 3 _ _ _ h.mkr.row,Xv h.mkr.row⟩)
 obtain⟨al,cl,hvl,_,hzd,hvp,_⟩:=Ev.of_own HM.o.lo
 have hln:=HM.o.ln
 rw[hvl] at HC
 have HVL:=Xj hvl
 obtain⟨n,hn⟩:∃ n,M.ls.length=n:=⟨_,rfl⟩
 rw[hn] at HC hzd hln
 have HN:=Xj hn
 clear hvl hn
 go_upto_region 2 with fail
 go_cut [28] from 15 to 28 (λ v28 wx=>∃ b28,v28=.bool b28/\Xq ((b28=true->0<n)/\StW w gc gm M M g wx))
 case first =>
  obtain⟨c0,c3,jm⟩:=HC.o _ HX2.o
  by_cases hn0:n=0
  ·subst hn0
   go_wp2_with fail
   go_meet
   exact⟨false,rfl,Xj ⟨(λ h=>nomatch h),HX2.o⟩⟩
  have dn:decide ((0:Int)<(n:Int))=true:=by rw[decide_eq_true_iff];omega
  go_wp2_with fail
  refine(Yj gc 3 (by omega) _ HX2.o.mkr.cod).mono ?_
  rintro e w3 ⟨y,rfl,y0,y1,hH,hg⟩
  have HX3:=Xj (HX2.o.grown hg hH)
  clear hH hg
  obtain⟨b3,hb3⟩:∃ b,decide (0<y)=b:=⟨_,rfl⟩
  go_wp2_with fail
  go_meet
  exact⟨b3,by rw[<- hb3],Xj ⟨λ _=>by omega,HX3.o⟩⟩
 case rest =>
 clear HX2
 clear w2
 obtain⟨b28,rfl,HX2⟩:=hcut
 go_upto_if 28 with fail
 go_cut [5,6] from 29 to 44 (λ v5 v6 wx=>∃ (nm:Bt) (ok:Bool),v5=.string (st nm)/\v6=.bool ok/\Xq ((ok=true->okN nm)/\StW w gc gm M M g wx))
 case first =>
  cases b28
  ·go_wp2_with fail
   go_meet
   exact⟨nm0,ok0,rfl,rfl,Xj ⟨HOK0.o,HX2.o.2⟩⟩
  have hnp:0<n:=HX2.o.1 rfl
  obtain⟨bl,cl',hvl,hl1,hl2,hb1,hb2,hqc⟩:=Sd HX2.o.2.mkr (by rw[HN.o];exact hnp)
  rw[HN.o] at hvl hl1 hqc
  have HRW:=Xj hqc
  clear hvl hqc hzd hvp HC
  go_upto_region 3 with fail
  refine wp_region_held_drew (S:=(λ w'=>w'.cell? ⟨gm,0,none⟩=some (.pointer (some ⟨gc,0,none⟩))/\w'.cell? ⟨gm,3,none⟩=some (.slice (some ⟨bl,0,none⟩) n cl')/\∀ j x,M.ls[j]?=some x->w'.cell? ⟨bl,j,none⟩=some (.string (st x)))) (by kernel_rfl) (HRW.o _ (Xr wc 1 _)) (λ hJ=>?_)
  refine tkH 0 29 ?_
  refine tkH 1 30 ?_
  refine tkH 2 31 ?_
  refine tkH 3 32 ?_
  refine tkH 4 33 ?_
  refine tkH 5 34 ?_
  refine tkH 6 35 ?_
  refine tkH 7 36 ?_
  refine tkH 8 37 ?_
  refine tkH 9 38 ?_
  refine tkH 10 39 ?_
  refine tkH 11 40 ?_
  refine tkH 12 41 ?_
  refine rdH 13 λ K hK=>?_
  go_simp
  refine(Yj gc n (by omega) _ HX2.o.2.mkr.cod.drew).mono ?_
  rintro e wy ⟨y,rfl,y0,y1,hH,hg0⟩
  obtain⟨y,rfl⟩:=Int.eq_ofNat_of_zero_le y0
  have y2:y<n:=by omega
  have hg:=Xp (Xr wc 1 (some gc)) hg0
  clear hg0
  have HX3:=Xj (HX2.o.2.grown hg hH)
  refine goH hK (HRW.o _ hg) λ hJ=>?_
  clear hK K
  have hy3:(y:Int)<(n:Int):=by omega
  obtain⟨nm,hnm⟩:∃ nm,M.ls[y]?=some nm:=⟨_,List.getElem?_eq_getElem (by rw[HN.o];exact y2)⟩
  have HNM:Xq (okN nm):=Xj (HX3.o.mkr.lok nm (List.mem_of_getElem? hnm))
  clear hg hH y1
  refine tkH 14 43 ?_
  refine Xh (i:=15) (d:=some 44) (v:=.string (st nm)) rfl (by kernel_rfl) (by kernel_rfl) (by kernel_rfl) (by kernel_rfl) (λ _ _ _ h=>h) (Or.inl ⟨by kernel_rfl,?_⟩) (by assumption) ?_
  ·(intro w hSw;have hcx:=hSw.2.2 y nm hnm;go_simp;try with_reducible rfl)
  refine Xz ?_
  refine tkH 16 5 ?_
  refine tkH 17 6 ?_
  refine wpAnyH_done (by kernel_rfl) ?_ _
  go_wp2_with fail
  go_meet
  exact⟨nm,true,rfl,rfl,Xj ⟨λ _=>HNM.o,HX3.o⟩⟩
 case rest =>
 clear HX2 HOK0
 obtain⟨nm,ok,rfl,rfl,HX2⟩:=hcut
 go_upto_region 4 with fail
 go_cut [54] from 45 to 54 (λ v54 wx=>∃ b54,v54=.bool b54/\Xq ((b54=false->okN nm)/\StW w gc gm M M g wx))
 case first =>
  cases ok
  ·go_wp2_with fail
   go_meet
   exact⟨true,rfl,Xj ⟨(λ h=>nomatch h),HX2.o.2⟩⟩
  obtain⟨c0,c3,jm⟩:=HC.o _ HX2.o.2
  go_wp2_with fail
  refine(Yj gc 8 (by omega) _ HX2.o.2.mkr.cod).mono ?_
  rintro e w3 ⟨y,rfl,y0,y1,hH,hg⟩
  have HX3:=Xj (HX2.o.2.grown hg hH)
  clear hH hg
  obtain⟨b7,hb7⟩:∃ b,(y==7)=b:=⟨_,rfl⟩
  go_wp2_with fail
  go_meet
  exact⟨b7,by rw[<- hb7],Xj ⟨λ _=>HX2.o.1 (by first|rfl|trivial),HX3.o⟩⟩
 case rest =>
 clear HX2
 obtain⟨b54,rfl,HX2⟩:=hcut
 cases b54
 ·have HNM:Xq (okN nm):=Xj (HX2.o.1 (by first|rfl|trivial))
  have hb8:=Xw wc (.cells #[.int .i64 13,.int .i64 0,.int .i64 0,.int .i64 0,.string (st nm),.slice none 0 0] 37)
  have hr8:=heap_alloc_new wc (.cells #[.int .i64 13,.int .i64 0,.int .i64 0,.int .i64 0,.string (st nm),.slice none 0 0] 37)
  have HX8:=Xj (HX2.o.2.below hb8)
  have HG8:Xq (g<wc.heap.size):=Xj HX2.o.2.lts
  go_upto_region 9 with fail
  obtain⟨w8,hw8⟩:∃ w8,wc.alloc (.cells #[.int .i64 13,.int .i64 0,.int .i64 0,.int .i64 0,.string (st nm),.slice none 0 0] 37)=w8:=⟨_,rfl⟩
  obtain⟨g8,hg8⟩:∃ g8,wc.heap.size=g8:=⟨_,rfl⟩
  rw[hw8] at hr8 HX8 ⊢
  rw[hg8] at hr8 HG8 ⊢
  have H8:=Xj hr8
  clear hw8 hg8 hb8 hr8 HX2
  clear wc
  have HLC:Xq (gc<g/\gm<g):=Xj ⟨HX8.o.lc,HX8.o.lm⟩
  go_cut [9] from 72 to 82 (λ v9 wx=>∃ (g9 gq:Nat) (z:Int),v9=.pointer (some ⟨g9,0,none⟩)/\1<=z/\z<=5/\Xq (StW w gc gm M M g wx/\wx.heap[g8]?=some (Iz nm)/\wx.heap[g9]?=some (Ks 5 [] (.slice (some ⟨gq,0,none⟩) 1 1) (.slice none 0 0) (.slice none 0 0))/\Xk wx (λ b=>TB (g+1) M b/\b≠g9) (Xb ⟨6,8,0,0,[]⟩ (Zf nm z)) (.slice (some ⟨gq,0,none⟩) 1 1)/\g8<g9))
  case first =>
   refine wp_region_held_drew (S:=(λ w'=>w'.heap[gm]?=some (mrow gc M)/\w'.heap[g8]?=some (Iz nm))) (by kernel_rfl) ⟨HX8.o.mkr.row,H8.o⟩ (λ hJ=>?_)
   refine Xh (i:=0) (d:=some 72) (v:=?_) rfl (by kernel_rfl) (by kernel_rfl) (by kernel_rfl) (by kernel_rfl) (λ _ _ _ h=>h) (Or.inl ⟨by kernel_rfl,?_⟩) (by assumption) ?_
   rotate_left
   ·(intro w hSw;obtain⟨p0,p1,p2,p3,p4,p5⟩:=Xl hSw.2;(try dsimp only at hSw);go_simp;try with_reducible rfl)
   refine Xz ?_
   refine tkH 1 73 ?_
   refine tkH 2 74 ?_
   refine tkH 3 75 ?_
   refine Xh (i:=4) (d:=some 76) (v:=?_) rfl (by kernel_rfl) (by kernel_rfl) (by kernel_rfl) (by kernel_rfl) (λ _ _ _ h=>h) (Or.inl ⟨by kernel_rfl,?_⟩) (by assumption) ?_
   rotate_left
   ·(intro w hSw;have c0:=cell_of_row _ _ 0 _ _ _ hSw.1;(try dsimp only at hSw);go_simp;try with_reducible rfl)
   refine Xz ?_
   have HX0:=Xj (HX8.o.grown (Xr w8 1 (some gc)) HX8.o.mkr.cod.drew)
   have H80:Xq (w8.drew.heap[g8]?=some (Iz nm)):=H8
   obtain⟨w0,hw0⟩:∃ wx,w8.drew=wx:=⟨_,rfl⟩
   rw[show w8.drewN 1=w0 from hw0] at HX0
   rw[hw0] at H80 hJ ⊢
   clear hw0
   refine wpAnyH_ready (rs:=[5,11]) (by kernel_rfl) (by simp) ?_
   refine AllReadyH.cons rfl (λ K hK=>?_) (AllReadyH.cons rfl (λ K hK=>?_) AllReadyH.nil)
   ·go_simp
    refine(Yj gc 5 (by omega) _ HX0.o.mkr.cod).mono ?_
    rintro e w1 ⟨z,rfl,z0,z1,hH,hg⟩
    have z2:z<5:=by omega
    have HX1:=Xj (HX0.o.grown hg hH)
    have H81:=Xj ((hg.block g8 (Xv H80.o) (by simp;have:=HG8.o;have:=HLC.o;omega)).trans H80.o)
    refine goH hK ⟨HX1.o.mkr.row,H81.o⟩ λ hJ=>?_
    clear hK K hH hg z1
    have hwz:IntKind.i64.wrap (1+z)=1+z:=by unfold IntKind.wrap;simp[IntKind.signed,IntKind.bits];omega
    refine tkH 6 78 ?_
    refine tkH 7 79 ?_
    refine wpAnyH_ready (rs:=[8,11]) (by kernel_rfl) (by simp) ?_
    refine AllReadyH.cons rfl (λ K hK=>?_) (AllReadyH.cons rfl (λ K hK=>?_) AllReadyH.nil)
    ·go_simp
     have hb:=Xw w1 (.cells (hdc ⟨13,0,0,0,nm⟩ (.slice none 0 0)++hdc ⟨1,0,1+z,0,[]⟩ (.slice none 0 0)).toArray 37)
     have HX2:=Xj (HX1.o.below hb)
     have H82:=Xj ((hb.block g8 (Xv H81.o)).trans H81.o)
     have HA2:=Xj (Zh (Q:=TB (g+1) M) (Wd w1 nm (1+z)) (by simp[Zf,Fo.len,maxLen]) (λ b hb2 _=>absurd hb2 id) (TB.of HX1.o.mkr (by have:=HX1.o.lts;omega) _ (Nat.le_refl _)))
     refine goH hK ⟨HX2.o.mkr.row,H82.o⟩ λ hJ=>?_
     clear hK K
     obtain⟨w2,hw⟩:∃ wx,w1.alloc (.cells (hdc ⟨13,0,0,0,nm⟩ (.slice none 0 0)++hdc ⟨1,0,1+z,0,[]⟩ (.slice none 0 0)).toArray 37)=wx:=⟨_,rfl⟩
     obtain⟨gp,hgp⟩:∃ gp,w1.heap.size=gp:=⟨_,rfl⟩
     have hw2:=hw
     simp only[List.cons_append,List.nil_append] at hw2
     (try rw[hw2])
     rw[hw] at HX2 H82 HA2
     (try rw[hw] at hJ)
     (try rw[hw2] at hJ)
     rw[hgp] at HA2 ⊢
     clear hw hw2 hgp hb
     refine wpAnyH_ready (rs:=[9,11]) (by kernel_rfl) (by simp) ?_
     refine AllReadyH.cons rfl (λ K hK=>?_) (AllReadyH.cons rfl (λ K hK=>?_) AllReadyH.nil)
     ·go_simp
      refine(Qc _ _ _ _ _ _).mono ?_
      rintro e w3 ⟨rfl,hb⟩
      have HX3:=Xj (HX2.o.below hb)
      have H83:=Xj ((hb.block g8 (Xv H82.o)).trans H82.o)
      have HA3:=Xj (HA2.o.keep (Q:=TB (g+1) M) (λ b hb2 hlt=>⟨hb.block b hlt,hb2⟩) hb.size)
      refine goH hK ⟨HX3.o.mkr.row,H83.o⟩ λ hJ=>?_
      clear hK K hb
      refine wpAnyH_ready (rs:=[10,11]) (by kernel_rfl) (by simp) ?_
      refine AllReadyH.cons rfl (λ K hK=>?_) (AllReadyH.cons rfl (λ K hK=>?_) AllReadyH.nil)
      ·go_simp
       refine(Zc _ _ ⟨6,8,0,0,[]⟩ _ _ _ _).mono ?_
       rintro e w4 ⟨gq,rfl,hgq,hrq,hb⟩
       have HX4:=Xj (HX3.o.below hb)
       have H84:=Xj ((hb.block g8 (Xv H83.o)).trans H83.o)
       have HA4:=Xj (Ym (P:=TB (g+1) M) hrq (HA3.o.keep (Q:=TB (g+1) M) (λ b hb2 hlt=>⟨hb.block b hlt,hb2⟩) hb.size) (TB.of HX3.o.mkr (by have:=HX3.o.lts;omega) _ hgq))
       refine goH hK ⟨HX4.o.mkr.row,H84.o⟩ λ hJ=>?_
       clear hK K hb hgq hrq
       refine rdH 11 λ K hK=>?_
       go_simp
       have hb:=Xw w4 (.cells #[.int .i64 0,.int .i64 0,.string { data := #[] },.slice none 0 0,.slice none 0 0,.slice none 0 0] 110)
       have hr:=heap_alloc_new w4 (.cells #[.int .i64 0,.int .i64 0,.string { data := #[] },.slice none 0 0,.slice none 0 0,.slice none 0 0] 110)
       have HX5:=Xj (HX4.o.below hb)
       have H85:=Xj ((hb.block g8 (Xv H84.o)).trans H84.o)
       have HG9:Xq (g<w4.heap.size/\g8<w4.heap.size):=Xj ⟨HX4.o.lts,Xv H84.o⟩
       have HA5:=Xj (HA4.o.keep (Q:=λ b=>TB (g+1) M b/\b≠w4.heap.size) (λ b hb2 hlt=>⟨hb.block b hlt,hb2,by omega⟩) hb.size)
       refine goH hK ⟨HX5.o.mkr.row,H85.o⟩ λ hJ=>?_
       clear hK K
       obtain⟨w5,hw⟩:∃ wx,w4.alloc (.cells #[.int .i64 0,.int .i64 0,.string { data := #[] },.slice none 0 0,.slice none 0 0,.slice none 0 0] 110)=wx:=⟨_,rfl⟩
       obtain⟨g9,hg9⟩:∃ g9,w4.heap.size=g9:=⟨_,rfl⟩
       rw[hw] at hr HX5 H85 hJ HA5 ⊢
       rw[hg9] at hr HG9 HA5 ⊢
       have H95:=Xj hr
       clear hw hg9 hb hr
       obtain⟨p0,p1,p2,p3,p4,p5⟩:=Xl H95.o
       have s0:=frozen_of_row _ g9 0 _ _ H95.o
       have s1:=frozen_of_row _ g9 1 _ _ H95.o
       have s2:=frozen_of_row _ g9 2 _ _ H95.o
       have s3:=frozen_of_row _ g9 3 _ _ H95.o
       have s4:=frozen_of_row _ g9 4 _ _ H95.o
       have s5:=frozen_of_row _ g9 5 _ _ H95.o
       have jl:=Xv H95.o
       refine rdH 12 λ K hK=>?_
       go_simp
       have HXF:=HX5.o.setTree6 ⟨_,_,_,H95.o,.inr rfl⟩ HG9.o.1 (.int .i64 5) (.int .i64 0) (.string (st [])) (.slice (some ⟨gq,0,none⟩) 1 1) (.slice none 0 0) (.slice none 0 0)
       refine goH hK ⟨HXF.mkr.row,(Yq g8 (by have:=HG9.o;omega)).trans H85.o⟩ λ hJ=>?_
       clear hK K
       refine wpAnyH_done (by kernel_rfl) ?_ _
       go_wp2_with fail
       go_meet
       exact⟨g9,gq,1+z,rfl,by omega,by omega,Xj ⟨HXF,(Yq g8 (by have:=HG9.o;omega)).trans H85.o,Qy H95.o,HA5.o.keep (λ b hb _=>⟨Yq b hb.2,hb⟩) (by rw[Zz];exact Nat.le_refl _),HG9.o.2⟩⟩
      go_simp
      have hb:=Xw w3 (.cells #[.int .i64 0,.int .i64 0,.string { data := #[] },.slice none 0 0,.slice none 0 0,.slice none 0 0] 110)
      have hr:=heap_alloc_new w3 (.cells #[.int .i64 0,.int .i64 0,.string { data := #[] },.slice none 0 0,.slice none 0 0,.slice none 0 0] 110)
      have HX6:=Xj (HX3.o.below hb)
      have H86:=Xj ((hb.block g8 (Xv H83.o)).trans H83.o)
      have HG9:Xq (g<w3.heap.size/\g8<w3.heap.size):=Xj ⟨HX3.o.lts,Xv H83.o⟩
      have HA6:=Xj (HA3.o.keep (Q:=λ b=>TB (g+1) M b/\b≠w3.heap.size) (λ b hb2 hlt=>⟨hb.block b hlt,hb2,by omega⟩) hb.size)
      refine goH hK ⟨HX6.o.mkr.row,H86.o⟩ λ hJ=>?_
      clear hK K
      obtain⟨w6,hw⟩:∃ wx,w3.alloc (.cells #[.int .i64 0,.int .i64 0,.string { data := #[] },.slice none 0 0,.slice none 0 0,.slice none 0 0] 110)=wx:=⟨_,rfl⟩
      obtain⟨g9,hg9⟩:∃ g9,w3.heap.size=g9:=⟨_,rfl⟩
      rw[hw] at hr HX6 H86 hJ HA6 ⊢
      rw[hg9] at hr HG9 HA6 ⊢
      have H96:=Xj hr
      clear hw hg9 hb hr
      refine rdH 10 λ K hK=>?_
      go_simp
      refine(Zc _ _ ⟨6,8,0,0,[]⟩ _ _ _ _).mono ?_
      rintro e w7 ⟨gq,rfl,hgq,hrq,hb⟩
      have HX7:=Xj (HX6.o.below hb)
      have H87:=Xj ((hb.block g8 (Xv H86.o)).trans H86.o)
      have H97:=Xj ((hb.block g9 (Xv H96.o)).trans H96.o)
      have HA7:=Xj (Ym (P:=λ b=>TB (g+1) M b/\b≠g9) hrq (HA6.o.keep (Q:=λ b=>TB (g+1) M b/\b≠g9) (λ b hb2 hlt=>⟨hb.block b hlt,hb2⟩) hb.size) ⟨TB.of HX6.o.mkr (by have:=HX6.o.lts;omega) _ hgq,by have:=Xv H96.o;omega⟩)
      refine goH hK ⟨HX7.o.mkr.row,H87.o⟩ λ hJ=>?_
      clear hK K hb hgq hrq
      obtain⟨p0,p1,p2,p3,p4,p5⟩:=Xl H97.o
      have s0:=frozen_of_row _ g9 0 _ _ H97.o
      have s1:=frozen_of_row _ g9 1 _ _ H97.o
      have s2:=frozen_of_row _ g9 2 _ _ H97.o
      have s3:=frozen_of_row _ g9 3 _ _ H97.o
      have s4:=frozen_of_row _ g9 4 _ _ H97.o
      have s5:=frozen_of_row _ g9 5 _ _ H97.o
      have jl:=Xv H97.o
      refine rdH 12 λ K hK=>?_
      go_simp
      have HXF:=HX7.o.setTree6 ⟨_,_,_,H97.o,.inr rfl⟩ HG9.o.1 (.int .i64 5) (.int .i64 0) (.string (st [])) (.slice (some ⟨gq,0,none⟩) 1 1) (.slice none 0 0) (.slice none 0 0)
      refine goH hK ⟨HXF.mkr.row,(Yq g8 (by have:=HG9.o;omega)).trans H87.o⟩ λ hJ=>?_
      clear hK K
      refine wpAnyH_done (by kernel_rfl) ?_ _
      go_wp2_with fail
      go_meet
      exact⟨g9,gq,1+z,rfl,by omega,by omega,Xj ⟨HXF,(Yq g8 (by have:=HG9.o;omega)).trans H87.o,Qy H97.o,HA7.o.keep (λ b hb _=>⟨Yq b hb.2,hb⟩) (by rw[Zz];exact Nat.le_refl _),HG9.o.2⟩⟩
     go_simp
     have hb:=Xw w2 (.cells #[.int .i64 0,.int .i64 0,.string { data := #[] },.slice none 0 0,.slice none 0 0,.slice none 0 0] 110)
     have hr:=heap_alloc_new w2 (.cells #[.int .i64 0,.int .i64 0,.string { data := #[] },.slice none 0 0,.slice none 0 0,.slice none 0 0] 110)
     have HX8:=Xj (HX2.o.below hb)
     have H88:=Xj ((hb.block g8 (Xv H82.o)).trans H82.o)
     have HG9:Xq (g<w2.heap.size/\g8<w2.heap.size):=Xj ⟨HX2.o.lts,Xv H82.o⟩
     have HA8:=Xj (HA2.o.keep (Q:=λ b=>TB (g+1) M b/\b≠w2.heap.size) (λ b hb2 hlt=>⟨hb.block b hlt,hb2,by omega⟩) hb.size)
     refine goH hK ⟨HX8.o.mkr.row,H88.o⟩ λ hJ=>?_
     clear hK K
     obtain⟨w8,hw⟩:∃ wx,w2.alloc (.cells #[.int .i64 0,.int .i64 0,.string { data := #[] },.slice none 0 0,.slice none 0 0,.slice none 0 0] 110)=wx:=⟨_,rfl⟩
     obtain⟨g9,hg9⟩:∃ g9,w2.heap.size=g9:=⟨_,rfl⟩
     rw[hw] at hr HX8 H88 hJ HA8 ⊢
     rw[hg9] at hr HG9 HA8 ⊢
     have H98:=Xj hr
     clear hw hg9 hb hr
     refine rdH 9 λ K hK=>?_
     go_simp
     refine(Qc _ _ _ _ _ _).mono ?_
     rintro e w9 ⟨rfl,hb⟩
     have HX9:=Xj (HX8.o.below hb)
     have H89:=Xj ((hb.block g8 (Xv H88.o)).trans H88.o)
     have H99:=Xj ((hb.block g9 (Xv H98.o)).trans H98.o)
     have HA9:=Xj (HA8.o.keep (Q:=λ b=>TB (g+1) M b/\b≠g9) (λ b hb2 hlt=>⟨hb.block b hlt,hb2⟩) hb.size)
     refine goH hK ⟨HX9.o.mkr.row,H89.o⟩ λ hJ=>?_
     clear hK K hb
     refine rdH 10 λ K hK=>?_
     go_simp
     refine(Zc _ _ ⟨6,8,0,0,[]⟩ _ _ _ _).mono ?_
     rintro e w10 ⟨gq,rfl,hgq,hrq,hb⟩
     have hkx:=Xj (HX9.o.below hb)
     have hpd:=Xj ((hb.block g8 (Xv H89.o)).trans H89.o)
     have hzg:=Xj ((hb.block g9 (Xv H99.o)).trans H99.o)
     have HA10:=Xj (Ym (P:=λ b=>TB (g+1) M b/\b≠g9) hrq (HA9.o.keep (Q:=λ b=>TB (g+1) M b/\b≠g9) (λ b hb2 hlt=>⟨hb.block b hlt,hb2⟩) hb.size) ⟨TB.of HX9.o.mkr (by have:=HX9.o.lts;omega) _ hgq,by have:=Xv H99.o;omega⟩)
     refine goH hK ⟨hkx.o.mkr.row,hpd.o⟩ λ hJ=>?_
     clear hK K hb hgq hrq
     obtain⟨p0,p1,p2,p3,p4,p5⟩:=Xl hzg.o
     have s0:=frozen_of_row _ g9 0 _ _ hzg.o
     have s1:=frozen_of_row _ g9 1 _ _ hzg.o
     have s2:=frozen_of_row _ g9 2 _ _ hzg.o
     have s3:=frozen_of_row _ g9 3 _ _ hzg.o
     have s4:=frozen_of_row _ g9 4 _ _ hzg.o
     have s5:=frozen_of_row _ g9 5 _ _ hzg.o
     have jl:=Xv hzg.o
     refine rdH 12 λ K hK=>?_
     go_simp
     have HXF:=hkx.o.setTree6 ⟨_,_,_,hzg.o,.inr rfl⟩ HG9.o.1 (.int .i64 5) (.int .i64 0) (.string (st [])) (.slice (some ⟨gq,0,none⟩) 1 1) (.slice none 0 0) (.slice none 0 0)
     refine goH hK ⟨HXF.mkr.row,(Yq g8 (by have:=HG9.o;omega)).trans hpd.o⟩ λ hJ=>?_
     clear hK K
     refine wpAnyH_done (by kernel_rfl) ?_ _
     go_wp2_with fail
     go_meet
     exact⟨g9,gq,1+z,rfl,by omega,by omega,Xj ⟨HXF,(Yq g8 (by have:=HG9.o;omega)).trans hpd.o,Qy hzg.o,HA10.o.keep (λ b hb _=>⟨Yq b hb.2,hb⟩) (by rw[Zz];exact Nat.le_refl _),HG9.o.2⟩⟩
    go_simp
    have hb:=Xw w1 (.cells #[.int .i64 0,.int .i64 0,.string { data := #[] },.slice none 0 0,.slice none 0 0,.slice none 0 0] 110)
    have hr:=heap_alloc_new w1 (.cells #[.int .i64 0,.int .i64 0,.string { data := #[] },.slice none 0 0,.slice none 0 0,.slice none 0 0] 110)
    have hxz:=Xj (HX1.o.below hb)
    have hyh:=Xj ((hb.block g8 (Xv H81.o)).trans H81.o)
    have HG9:Xq (g<w1.heap.size/\g8<w1.heap.size):=Xj ⟨HX1.o.lts,Xv H81.o⟩
    refine goH hK ⟨hxz.o.mkr.row,hyh.o⟩ λ hJ=>?_
    clear hK K
    obtain⟨w11,hw⟩:∃ wx,w1.alloc (.cells #[.int .i64 0,.int .i64 0,.string { data := #[] },.slice none 0 0,.slice none 0 0,.slice none 0 0] 110)=wx:=⟨_,rfl⟩
    obtain⟨g9,hg9⟩:∃ g9,w1.heap.size=g9:=⟨_,rfl⟩
    rw[hw] at hr hxz hyh hJ ⊢
    rw[hg9] at hr HG9 ⊢
    have hph:=Xj hr
    clear hw hg9 hb hr
    refine rdH 8 λ K hK=>?_
    go_simp
    have hb:=Xw w11 (.cells (hdc ⟨13,0,0,0,nm⟩ (.slice none 0 0)++hdc ⟨1,0,1+z,0,[]⟩ (.slice none 0 0)).toArray 37)
    have hxy:=Xj (hxz.o.below hb)
    have hyn:=Xj ((hb.block g8 (Xv hyh.o)).trans hyh.o)
    have hgj:=Xj ((hb.block g9 (Xv hph.o)).trans hph.o)
    have hgz:=Xj (Zh (Q:=λ b=>TB (g+1) M b/\b≠g9) (Wd w11 nm (1+z)) (by simp[Zf,Fo.len,maxLen]) (λ b hb2 _=>absurd hb2 id) ⟨TB.of hxz.o.mkr (by have:=hxz.o.lts;omega) _ (Nat.le_refl _),by have:=Xv hph.o;omega⟩)
    refine goH hK ⟨hxy.o.mkr.row,hyn.o⟩ λ hJ=>?_
    clear hK K
    obtain⟨w12,hw⟩:∃ wx,w11.alloc (.cells (hdc ⟨13,0,0,0,nm⟩ (.slice none 0 0)++hdc ⟨1,0,1+z,0,[]⟩ (.slice none 0 0)).toArray 37)=wx:=⟨_,rfl⟩
    obtain⟨gp,hgp⟩:∃ gp,w11.heap.size=gp:=⟨_,rfl⟩
    have hw2:=hw
    simp only[List.cons_append,List.nil_append] at hw2
    (try rw[hw2])
    rw[hw] at hxy hyn hgz hgj
    (try rw[hw] at hJ)
    (try rw[hw2] at hJ)
    rw[hgp] at hgz ⊢
    clear hw hw2 hgp hb
    refine rdH 9 λ K hK=>?_
    go_simp
    refine(Qc _ _ _ _ _ _).mono ?_
    rintro e w13 ⟨rfl,hb⟩
    have hxu:=Xj (hxy.o.below hb)
    have hgv:=Xj ((hb.block g8 (Xv hyn.o)).trans hyn.o)
    have hgu:=Xj ((hb.block g9 (Xv hgj.o)).trans hgj.o)
    have HA13:=Xj (hgz.o.keep (Q:=λ b=>TB (g+1) M b/\b≠g9) (λ b hb2 hlt=>⟨hb.block b hlt,hb2⟩) hb.size)
    refine goH hK ⟨hxu.o.mkr.row,hgv.o⟩ λ hJ=>?_
    clear hK K hb
    refine rdH 10 λ K hK=>?_
    go_simp
    refine(Zc _ _ ⟨6,8,0,0,[]⟩ _ _ _ _).mono ?_
    rintro e w14 ⟨gq,rfl,hgq,hrq,hb⟩
    have hxx:=Xj (hxu.o.below hb)
    have hgh:=Xj ((hb.block g8 (Xv hgv.o)).trans hgv.o)
    have hzm:=Xj ((hb.block g9 (Xv hgu.o)).trans hgu.o)
    have HA14:=Xj (Ym (P:=λ b=>TB (g+1) M b/\b≠g9) hrq (HA13.o.keep (Q:=λ b=>TB (g+1) M b/\b≠g9) (λ b hb2 hlt=>⟨hb.block b hlt,hb2⟩) hb.size) ⟨TB.of hxu.o.mkr (by have:=hxu.o.lts;omega) _ hgq,by have:=Xv hgu.o;omega⟩)
    refine goH hK ⟨hxx.o.mkr.row,hgh.o⟩ λ hJ=>?_
    clear hK K hb hgq hrq
    obtain⟨p0,p1,p2,p3,p4,p5⟩:=Xl hzm.o
    have s0:=frozen_of_row _ g9 0 _ _ hzm.o
    have s1:=frozen_of_row _ g9 1 _ _ hzm.o
    have s2:=frozen_of_row _ g9 2 _ _ hzm.o
    have s3:=frozen_of_row _ g9 3 _ _ hzm.o
    have s4:=frozen_of_row _ g9 4 _ _ hzm.o
    have s5:=frozen_of_row _ g9 5 _ _ hzm.o
    have jl:=Xv hzm.o
    refine rdH 12 λ K hK=>?_
    go_simp
    have HXF:=hxx.o.setTree6 ⟨_,_,_,hzm.o,.inr rfl⟩ HG9.o.1 (.int .i64 5) (.int .i64 0) (.string (st [])) (.slice (some ⟨gq,0,none⟩) 1 1) (.slice none 0 0) (.slice none 0 0)
    refine goH hK ⟨HXF.mkr.row,(Yq g8 (by have:=HG9.o;omega)).trans hgh.o⟩ λ hJ=>?_
    clear hK K
    refine wpAnyH_done (by kernel_rfl) ?_ _
    go_wp2_with fail
    go_meet
    exact⟨g9,gq,1+z,rfl,by omega,by omega,Xj ⟨HXF,(Yq g8 (by have:=HG9.o;omega)).trans hgh.o,Qy hzm.o,HA14.o.keep (λ b hb _=>⟨Yq b hb.2,hb⟩) (by rw[Zz];exact Nat.le_refl _),HG9.o.2⟩⟩
   go_simp
   have hb:=Xw w0 (.cells #[.int .i64 0,.int .i64 0,.string { data := #[] },.slice none 0 0,.slice none 0 0,.slice none 0 0] 110)
   have hr:=heap_alloc_new w0 (.cells #[.int .i64 0,.int .i64 0,.string { data := #[] },.slice none 0 0,.slice none 0 0,.slice none 0 0] 110)
   have hxv:=Xj (HX0.o.below hb)
   have hyr:=Xj ((hb.block g8 (Xv H80.o)).trans H80.o)
   have HG9:Xq (g<w0.heap.size/\g8<w0.heap.size):=Xj ⟨HX0.o.lts,Xv H80.o⟩
   refine goH hK ⟨hxv.o.mkr.row,hyr.o⟩ λ hJ=>?_
   clear hK K
   obtain⟨w15,hw⟩:∃ wx,w0.alloc (.cells #[.int .i64 0,.int .i64 0,.string { data := #[] },.slice none 0 0,.slice none 0 0,.slice none 0 0] 110)=wx:=⟨_,rfl⟩
   obtain⟨g9,hg9⟩:∃ g9,w0.heap.size=g9:=⟨_,rfl⟩
   rw[hw] at hr hxv hyr hJ ⊢
   rw[hg9] at hr HG9 ⊢
   have H915:=Xj hr
   clear hw hg9 hb hr
   refine rdH 5 λ K hK=>?_
   go_simp
   refine(Yj gc 5 (by omega) _ hxv.o.mkr.cod).mono ?_
   rintro e w16 ⟨z,rfl,z0,z1,hH,hg⟩
   have z2:z<5:=by omega
   have hxb:=Xj (hxv.o.grown hg hH)
   have hmj:=Xj ((hg.block g8 (Xv hyr.o) (by simp;have:=HG8.o;have:=HLC.o;omega)).trans hyr.o)
   have hmq:=Xj ((hg.block g9 (Xv H915.o) (by simp;have:=HG9.o;have:=HLC.o;omega)).trans H915.o)
   refine goH hK ⟨hxb.o.mkr.row,hmj.o⟩ λ hJ=>?_
   clear hK K hH hg z1
   have hwz:IntKind.i64.wrap (1+z)=1+z:=by unfold IntKind.wrap;simp[IntKind.signed,IntKind.bits];omega
   refine tkH 6 78 ?_
   refine tkH 7 79 ?_
   refine rdH 8 λ K hK=>?_
   go_simp
   have hb:=Xw w16 (.cells (hdc ⟨13,0,0,0,nm⟩ (.slice none 0 0)++hdc ⟨1,0,1+z,0,[]⟩ (.slice none 0 0)).toArray 37)
   have hzq:=Xj (hxb.o.below hb)
   have hyt:=Xj ((hb.block g8 (Xv hmj.o)).trans hmj.o)
   have hmz:=Xj ((hb.block g9 (Xv hmq.o)).trans hmq.o)
   have hmx:=Xj (Zh (Q:=λ b=>TB (g+1) M b/\b≠g9) (Wd w16 nm (1+z)) (by simp[Zf,Fo.len,maxLen]) (λ b hb2 _=>absurd hb2 id) ⟨TB.of hxb.o.mkr (by have:=hxb.o.lts;omega) _ (Nat.le_refl _),by have:=Xv hmq.o;omega⟩)
   refine goH hK ⟨hzq.o.mkr.row,hyt.o⟩ λ hJ=>?_
   clear hK K
   obtain⟨w17,hw⟩:∃ wx,w16.alloc (.cells (hdc ⟨13,0,0,0,nm⟩ (.slice none 0 0)++hdc ⟨1,0,1+z,0,[]⟩ (.slice none 0 0)).toArray 37)=wx:=⟨_,rfl⟩
   obtain⟨gp,hgp⟩:∃ gp,w16.heap.size=gp:=⟨_,rfl⟩
   have hw2:=hw
   simp only[List.cons_append,List.nil_append] at hw2
   (try rw[hw2])
   rw[hw] at hzq hyt hmx hmz
   (try rw[hw] at hJ)
   (try rw[hw2] at hJ)
   rw[hgp] at hmx ⊢
   clear hw hw2 hgp hb
   refine rdH 9 λ K hK=>?_
   go_simp
   refine(Qc _ _ _ _ _ _).mono ?_
   rintro e w18 ⟨rfl,hb⟩
   have hxp:=Xj (hzq.o.below hb)
   have hmv:=Xj ((hb.block g8 (Xv hyt.o)).trans hyt.o)
   have hmw:=Xj ((hb.block g9 (Xv hmz.o)).trans hmz.o)
   have HA18:=Xj (hmx.o.keep (Q:=λ b=>TB (g+1) M b/\b≠g9) (λ b hb2 hlt=>⟨hb.block b hlt,hb2⟩) hb.size)
   refine goH hK ⟨hxp.o.mkr.row,hmv.o⟩ λ hJ=>?_
   clear hK K hb
   refine rdH 10 λ K hK=>?_
   go_simp
   refine(Zc _ _ ⟨6,8,0,0,[]⟩ _ _ _ _).mono ?_
   rintro e w19 ⟨gq,rfl,hgq,hrq,hb⟩
   have hvm:=Xj (hxp.o.below hb)
   have hmy:=Xj ((hb.block g8 (Xv hmv.o)).trans hmv.o)
   have hzc:=Xj ((hb.block g9 (Xv hmw.o)).trans hmw.o)
   have HA19:=Xj (Ym (P:=λ b=>TB (g+1) M b/\b≠g9) hrq (HA18.o.keep (Q:=λ b=>TB (g+1) M b/\b≠g9) (λ b hb2 hlt=>⟨hb.block b hlt,hb2⟩) hb.size) ⟨TB.of hxp.o.mkr (by have:=hxp.o.lts;omega) _ hgq,by have:=Xv hmw.o;omega⟩)
   refine goH hK ⟨hvm.o.mkr.row,hmy.o⟩ λ hJ=>?_
   clear hK K hb hgq hrq
   obtain⟨p0,p1,p2,p3,p4,p5⟩:=Xl hzc.o
   have s0:=frozen_of_row _ g9 0 _ _ hzc.o
   have s1:=frozen_of_row _ g9 1 _ _ hzc.o
   have s2:=frozen_of_row _ g9 2 _ _ hzc.o
   have s3:=frozen_of_row _ g9 3 _ _ hzc.o
   have s4:=frozen_of_row _ g9 4 _ _ hzc.o
   have s5:=frozen_of_row _ g9 5 _ _ hzc.o
   have jl:=Xv hzc.o
   refine rdH 12 λ K hK=>?_
   go_simp
   have HXF:=hvm.o.setTree6 ⟨_,_,_,hzc.o,.inr rfl⟩ HG9.o.1 (.int .i64 5) (.int .i64 0) (.string (st [])) (.slice (some ⟨gq,0,none⟩) 1 1) (.slice none 0 0) (.slice none 0 0)
   refine goH hK ⟨HXF.mkr.row,(Yq g8 (by have:=HG9.o;omega)).trans hmy.o⟩ λ hJ=>?_
   clear hK K
   refine wpAnyH_done (by kernel_rfl) ?_ _
   go_wp2_with fail
   go_meet
   exact⟨g9,gq,1+z,rfl,by omega,by omega,Xj ⟨HXF,(Yq g8 (by have:=HG9.o;omega)).trans hmy.o,Qy hzc.o,HA19.o.keep (λ b hb _=>⟨Yq b hb.2,hb⟩) (by rw[Zz];exact Nat.le_refl _),HG9.o.2⟩⟩
  obtain⟨g9,gq,z,rfl,hz1,hz5,HX9⟩:=hcut
  clear HX8 H8
  clear w8
  obtain⟨c0,c3,jm⟩:=HC.o _ HX9.o.1
  go_wp2_with fail
  refine(Yj gc 3 (by omega) _ HX9.o.1.mkr.cod).mono ?_
  rintro e wN ⟨y,rfl,y0,y1,hH,hg⟩
  have y2:y<3:=by omega
  have HXN:=Xj (HX9.o.1.grown hg hH)
  have HG9:Xq (g<g8/\g8<g9/\g9<wN.heap.size):=Xj ⟨HG8.o,HX9.o.2.2.2.2,by have:=Xv HX9.o.2.2.1;have:=hg.size;omega⟩
  have H8N:=Xj ((hg.block g8 (Xv HX9.o.2.1) (by simp;have:=HLC.o;have:=HG9.o;omega)).trans HX9.o.2.1)
  have H9N:=Xj ((hg.block g9 (Xv HX9.o.2.2.1) (by simp;have:=HLC.o;have:=HG9.o;omega)).trans HX9.o.2.2.1)
  have HAN:Xq (Xk wN (λ b=>TB (g+1) M b/\b≠g9/\b<wN.heap.size) (Xb ⟨6,8,0,0,[]⟩ (Zf nm z)) (.slice (some ⟨gq,0,none⟩) 1 1)):=Xj (HX9.o.2.2.2.1.keep (λ b hb hlt=>⟨hg.block b hlt (by simp;have:=hb.1.1;have:=HLC.o;omega),hb.1,hb.2,by have:=hg.size;omega⟩) hg.size)
  clear hH hg c0 c3 jm HX9 y1
  have Ho:=HBK.o M wN y (by omega) (by omega) HXN.o.mkr HH.o.1 (by have:=HH.o.2;omega)
  have HCL:=Xj Ho
  clear Ho
  go_wp2_with fail
  refine HCL.o.mono ?_
  rintro e wB ⟨S,sl,xs,M1,rfl,hjj,hS,hch,hmk,hb0,hb9,hw,hqj,hjc,hjr⟩
  have HXB:=Xj (HXN.o.step hch hmk)
  have H8B:=Xj (Ju hch HXN.o.mkr H8N.o ⟨_,_,_,H8N.o,.inl rfl⟩ (by have:=HLC.o;have:=HG9.o;omega) (by have:=HLC.o;have:=HG9.o;omega))
  have H9B:=Xj (Ju hch HXN.o.mkr H9N.o ⟨_,_,_,H9N.o,.inr rfl⟩ (by have:=HLC.o;have:=HG9.o;omega) (by have:=HLC.o;have:=HG9.o;omega))
  obtain⟨lb,hlb⟩:∃ lb,wN.heap.size=lb:=⟨_,rfl⟩
  have HAB:Xq (Xk wB (λ b=>TB (g+1) M1 b/\b≠g9/\b<lb) (Xb ⟨6,8,0,0,[]⟩ (Zf nm z)) (.slice (some ⟨gq,0,none⟩) 1 1)):=Xj (HAN.o.keep (λ b hb hlt=>⟨(hch.kp (lo:=g+1) (by have:=HLC.o;omega) (by have:=HLC.o;omega) b hb.1 hlt).1,(hch.kp (lo:=g+1) (by have:=HLC.o;omega) (by have:=HLC.o;omega) b hb.1 hlt).2,hb.2.1,by omega⟩) hch.size)
  rw[hlb] at hjj hS HG9
  have HOB:=Xj hjj
  have HSB:=Xj hS
  have HSN:Xq (S.len<=1300):=Xj (by have:=Ph S;have:=HH.o;omega)
  have HGD:=Xj (Ry (deep:=deep) (M:=M) (M1:=M1) (S:=S) HNM.o hz1 hz5 hb0 hb9 hw hqj hjc hjr)
  obtain⟨asl,csl,rfl,hS1,hS2,hS3,-,-⟩:=Yd.of_own hjj
  have HLB:Xq (lb<=wB.heap.size):=Xj (by have:=hch.size;omega)
  clear hjj hS hch hmk hb0 hb9 hw hqj hjc hjr HXN H8N H9N HAN HCL hlb hS1
  clear wN
  have j4:=frozen_of_row _ g9 4 _ _ H9B.o
  have k4:=cell_of_row _ _ 4 _ _ _ H9B.o
  have jg9:=Xv H9B.o
  go_upto_region 11 with fail
  have HXS:=Xj (HXB.o.setTree ⟨_,_,_,H9B.o,.inr rfl⟩ (by have:=HG9.o;omega) 4 (.slice asl S.len csl))
  have H8S:=Xj ((heap_setCell_other wB ⟨g9,4,none⟩ g8 (.slice asl S.len csl) (by have:=HG9.o;show g8≠g9;omega)).trans H8B.o)
  have H9S:Xq ((wB.setCell ⟨g9,4,none⟩ (.slice asl S.len csl)).heap[g9]?=some (Ks 5 [] (.slice (some ⟨gq,0,none⟩) 1 1) (.slice asl S.len csl) (.slice none 0 0))):=Xj (heap_setCell_same _ g9 4 _ _ (.slice asl S.len csl) H9B.o)
  have HAS:=Xj (HAB.o.keep (w':=wB.setCell ⟨g9,4,none⟩ (.slice asl S.len csl)) (Q:=λ b=>TB (g+1) M1 b/\b≠g9/\b<lb) (λ b hb _=>⟨heap_setCell_other wB ⟨g9,4,none⟩ b _ hb.2.1,hb⟩) (by simp[World.setCell]))
  have HSS:=Xj (HSB.o.keep (w':=wB.setCell ⟨g9,4,none⟩ (.slice asl S.len csl)) (Q:=λ b=>TB lb M1 b/\some b≠(Value.slice asl S.len csl).ownBlock) (λ b hb _=>⟨heap_setCell_other wB ⟨g9,4,none⟩ b _ (by have:=hb.1.1;have:=HG9.o;show b≠g9;omega),hb⟩) (by simp[World.setCell]))
  have HOS:=Xj (Yv (w':=wB.setCell ⟨g9,4,none⟩ (.slice asl S.len csl)) HOB.o (λ q hq=>heap_setCell_other wB ⟨g9,4,none⟩ q _ (by have:=(HOB.o.lt q hq).1;have:=HG9.o;show q≠g9;omega)))
  have HLS:Xq (lb<=(wB.setCell ⟨g9,4,none⟩ (.slice asl S.len csl)).heap.size/\∀ q,(Value.slice asl S.len csl).ownBlock=some q->q<(wB.setCell ⟨g9,4,none⟩ (.slice asl S.len csl)).heap.size):=Xj ⟨by simp[World.setCell];exact HLB.o,λ q hq=>(HOS.o.lt q hq).2⟩
  obtain⟨wS,hwS⟩:∃ wS,wB.setCell ⟨g9,4,none⟩ (.slice asl S.len csl)=wS:=⟨_,rfl⟩
  rw[hwS] at HXS H8S H9S HAS HSS HOS HLS ⊢
  clear hwS j4 k4 jg9 HXB H8B H9B HAB HOB HSB HLB
  clear wB
  go_cut [] from 93 to 103 (λ wx=>∃ (a11:Option Addr) (c11:Nat),Xq (StW w gc gm M M1 g wx/\wx.heap[g9]?=some (Ks 5 [] (.slice (some ⟨gq,0,none⟩) 1 1) (.slice a11 (S.len+1) c11) (.slice none 0 0))/\Xk wx (TB (g+1) M1) (Xb ⟨6,8,0,0,[]⟩ (Zf nm z)) (.slice (some ⟨gq,0,none⟩) 1 1)/\Xf wx (TB (g+1) M1) (S.app (Zq 2 0 nm (Xb ⟨6,3,0,0,[]⟩ (Zf nm 1)) .nil .nil)) (.slice a11 (S.len+1) c11)))
  case first =>
   refine wp_region_held_drew (S:=(λ w'=>w'.heap[g8]?=some (Iz nm))) (by kernel_rfl) H8S.o (λ hJ=>?_)
   refine tkH 0 93 ?_
   refine tkH 2 95 ?_
   refine Xh (i:=3) (d:=some 96) (v:=?_) rfl (by kernel_rfl) (by kernel_rfl) (by kernel_rfl) (by kernel_rfl) (λ _ _ _ h=>h) (Or.inl ⟨by kernel_rfl,?_⟩) (by assumption) ?_
   rotate_left
   ·(intro w hSw;obtain⟨p0,p1,p2,p3,p4,p5⟩:=Xl hSw;(try dsimp only at hSw);go_simp;try with_reducible rfl)
   refine Xz ?_
   refine tkH 4 97 ?_
   have HX0:=Xj (HXS.o.grown (Xr wS 1 (some gc)) HXS.o.mkr.cod.drew)
   have H80:Xq (wS.drew.heap[g8]?=some (Iz nm)):=H8S
   have H90:Xq (wS.drew.heap[g9]?=some (Ks 5 [] (.slice (some ⟨gq,0,none⟩) 1 1) (.slice asl S.len csl) (.slice none 0 0))):=H9S
   have HA0:=Xj (HAS.o.keep (w':=wS.drew) (Q:=λ b=>TB (g+1) M1 b/\b≠g9/\b<lb) (λ b hb _=>⟨rfl,hb⟩) (Nat.le_refl _))
   have HS0:=Xj (HSS.o.keep (w':=wS.drew) (Q:=λ b=>TB lb M1 b/\some b≠(Value.slice asl S.len csl).ownBlock) (λ b hb _=>⟨rfl,hb⟩) (Nat.le_refl _))
   have HO0:=Xj (Yv (w':=wS.drew) HOS.o (λ q _=>rfl))
   have HVB:Xq (∀ b,wS.heap.size<=b->some b≠M1.vl.ownBlock):=Xj (λ b hb e=>by have:=(HXS.o.mkr.lo.lt b e.symm).2;omega)
   have HW0:Xq (wS.heap.size<=wS.drew.heap.size):=Xj (Nat.le_refl _)
   have HSL:Xq (S.len+1<=maxLen/\(S.len+1)*104<=140737488355328):=Xj (by have:=HSN.o;unfold maxLen;omega)
   obtain⟨lw,hlw⟩:∃ lw,wS.heap.size=lw:=⟨_,rfl⟩
   obtain⟨w0,hw0⟩:∃ wx,wS.drew=wx:=⟨_,rfl⟩
   rw[show wS.drewN 1=w0 from hw0] at HX0
   rw[hw0] at H80 H90 HA0 HS0 HO0 HW0 hJ ⊢
   rw[hlw] at HVB HW0 HLS
   clear hw0 hlw
   refine wpAnyH_ready (rs:=[1,5]) (by kernel_rfl) (by simp) ?_
   refine AllReadyH.cons rfl (λ K hK=>?_) (AllReadyH.cons rfl (λ K hK=>?_) AllReadyH.nil)
   ·have p4:=cell_of_row _ _ 4 _ _ _ H90.o
    go_simp
    refine goH hK H80.o λ hJ=>?_
    clear hK K p4
    refine rdH 5 λ K hK=>?_
    go_simp
    have hb:=Xw w0 (.cells (hdc ⟨13,0,0,0,nm⟩ (.slice none 0 0)++hdc ⟨1,0,1,0,[]⟩ (.slice none 0 0)).toArray 37)
    have hvc:=Xj (HX0.o.below hb)
    have huj:=Xj ((hb.block g8 (Xv H80.o)).trans H80.o)
    have hmu:=Xj ((hb.block g9 (Xv H90.o)).trans H90.o)
    have HA20:=Xj (HA0.o.keep (Q:=λ b=>TB (g+1) M1 b/\b≠g9/\b<lb) (λ b hb2 hlt=>⟨hb.block b hlt,hb2⟩) hb.size)
    have hmb:=Xj (Yv HO0.o (λ q hq=>hb.block q (HO0.o.lt q hq).2))
    have HS20:=Xj (HS0.o.keep (Q:=λ b=>TB lb M1 b/\some b≠(Value.slice asl S.len csl).ownBlock) (λ b hb2 hlt=>⟨hb.block b hlt,hb2⟩) hb.size)
    have HW20:Xq (lw<=_):=Xj (Nat.le_trans HW0.o hb.size)
    have hmp:=Xj (Zh (Q:=λ b=>lw<=b) (Wd w0 nm 1) (by simp[Zf,Fo.len,maxLen]) (λ b hb2 _=>absurd hb2 id) HW0.o)
    refine goH hK huj.o λ hJ=>?_
    clear hK K
    obtain⟨w20,hw⟩:∃ wx,w0.alloc (.cells (hdc ⟨13,0,0,0,nm⟩ (.slice none 0 0)++hdc ⟨1,0,1,0,[]⟩ (.slice none 0 0)).toArray 37)=wx:=⟨_,rfl⟩
    obtain⟨gp,hgp⟩:∃ gp,w0.heap.size=gp:=⟨_,rfl⟩
    have hw2:=hw
    simp only[List.cons_append,List.nil_append] at hw2
    (try rw[hw2])
    rw[hw] at hvc huj hmu HA20 hmb HS20 HW20 hmp
    (try rw[hw] at hJ)
    (try rw[hw2] at hJ)
    rw[hgp] at hmp ⊢
    clear hw hw2 hgp hb
    refine rdH 6 λ K hK=>?_
    go_simp
    refine(Qc _ _ _ _ _ _).mono ?_
    rintro e w21 ⟨rfl,hb⟩
    have huq:=Xj (hvc.o.below hb)
    have hmg:=Xj ((hb.block g8 (Xv huj.o)).trans huj.o)
    have H921:=Xj ((hb.block g9 (Xv hmu.o)).trans hmu.o)
    have HA21:=Xj (HA20.o.keep (Q:=λ b=>TB (g+1) M1 b/\b≠g9/\b<lb) (λ b hb2 hlt=>⟨hb.block b hlt,hb2⟩) hb.size)
    have HO21:=Xj (Yv hmb.o (λ q hq=>hb.block q (hmb.o.lt q hq).2))
    have HS21:=Xj (HS20.o.keep (Q:=λ b=>TB lb M1 b/\some b≠(Value.slice asl S.len csl).ownBlock) (λ b hb2 hlt=>⟨hb.block b hlt,hb2⟩) hb.size)
    have HW21:Xq (lw<=_):=Xj (Nat.le_trans HW20.o hb.size)
    have HB21:=Xj (hmp.o.keep (Q:=λ b=>lw<=b) (λ b hb2 hlt=>⟨hb.block b hlt,hb2⟩) hb.size)
    refine goH hK hmg.o λ hJ=>?_
    clear hK K hb
    refine rdH 7 λ K hK=>?_
    go_simp
    refine(Zc _ _ ⟨6,3,0,0,[]⟩ _ _ _ _).mono ?_
    rintro e w22 ⟨gr,rfl,hgr,hrr,hb⟩
    have hvf:=Xj (huq.o.below hb)
    have hmm:=Xj ((hb.block g8 (Xv hmg.o)).trans hmg.o)
    have H922:=Xj ((hb.block g9 (Xv H921.o)).trans H921.o)
    have HA22:=Xj (HA21.o.keep (Q:=λ b=>TB (g+1) M1 b/\b≠g9/\b<lb) (λ b hb2 hlt=>⟨hb.block b hlt,hb2⟩) hb.size)
    have hmf:=Xj (Yv HO21.o (λ q hq=>hb.block q (HO21.o.lt q hq).2))
    have HS22:=Xj (HS21.o.keep (Q:=λ b=>TB lb M1 b/\some b≠(Value.slice asl S.len csl).ownBlock) (λ b hb2 hlt=>⟨hb.block b hlt,hb2⟩) hb.size)
    have HW22:Xq (lw<=_):=Xj (Nat.le_trans HW21.o hb.size)
    have HB22:=Xj (Ym (P:=λ b=>lw<=b) hrr (HB21.o.keep (Q:=λ b=>lw<=b) (λ b hb2 hlt=>⟨hb.block b hlt,hb2⟩) hb.size) (by have:=HW21.o;omega))
    refine goH hK hmm.o λ hJ=>?_
    clear hK K hb hgr hrr
    refine rdH 8 λ K hK=>?_
    go_simp
    have hb:=Xw w22 (.cells (stc 2 0 nm (.slice (some ⟨gr,0,none⟩) 1 1) (.slice none 0 0) (.slice none 0 0)).toArray 110)
    have hkv:=Xj (hvf.o.below hb)
    have huz:=Xj ((hb.block g8 (Xv hmm.o)).trans hmm.o)
    have hmd:=Xj ((hb.block g9 (Xv H922.o)).trans H922.o)
    have HA23:=Xj (HA22.o.keep (Q:=λ b=>TB (g+1) M1 b/\b≠g9/\b<lb) (λ b hb2 hlt=>⟨hb.block b hlt,hb2⟩) hb.size)
    have hux:=Xj (Yv hmf.o (λ q hq=>hb.block q (hmf.o.lt q hq).2))
    have hxm:=Xj (heap_alloc_new w22 (.cells (stc 2 0 nm (.slice (some ⟨gr,0,none⟩) 1 1) (.slice none 0 0) (.slice none 0 0)).toArray 110))
    have HW23:Xq (lw<=_):=Xj (Nat.le_trans HW22.o hb.size)
    refine goH hK huz.o λ hJ=>?_
    clear hK K
    obtain⟨w23,hw⟩:∃ wx,w22.alloc (.cells (stc 2 0 nm (.slice (some ⟨gr,0,none⟩) 1 1) (.slice none 0 0) (.slice none 0 0)).toArray 110)=wx:=⟨_,rfl⟩
    obtain⟨gb,hgb⟩:∃ gb,w22.heap.size=gb:=⟨_,rfl⟩
    rw[hw] at hkv huz hmd HA23 hux hxm HW23
    (try rw[hw] at hJ)
    (try rw[hw])
    rw[hgb] at hxm ⊢
    have HEQ:=Xj hw
    have HSK:=HS22
    have hzh:=HB22
    have HWK:=HW22
    have HOK:=hmf
    have HXK:=hvf
    have huv:gb+1=w23.heap.size:=by rw[<- hw,<- hgb];simp
    clear hw hgb hb
    refine rdH 9 λ K hK=>?_
    have hqf:lb<=w23.heap.size:=by have:=HW23.o;have:=HLS.o.1;omega
    refine step_append_lies _ (by rfl) _ _ _ (by rfl) lb 110 i0 _ 6 104 Tryz.underlying61 HI.o HZ0.o HZ1.o HZ2.o rfl (by omega) _ _ _ (by rfl) hux.o ⟨gb,0,none⟩ 1 1 (stc 2 0 nm (.slice (some ⟨gr,0,none⟩) 1 1) (.slice none 0 0) (.slice none 0 0)) (by rfl) (by rfl) (World.news_of_block (cs:=(stc 2 0 nm (.slice (some ⟨gr,0,none⟩) 1 1) (.slice none 0 0) (.slice none 0 0)).toArray) (t:=110) (fr:=(0,0)) hxm.o) (by simp[Value.oneCell']) (by omega) HSL.o.1 HSL.o.2 hqf _ rfl ?_
    intro g11 c11 wF hownF hgF horF hltF
    have HOF:=Xj hownF
    have Hi:∀ q,(Value.slice asl S.len csl).ownBlock=some q->lb<=q/\q<lw:=λ q hq=>⟨(hux.o.lt q hq).1,HLS.o.2 q hq⟩
    have HXF:=Xj (hkv.o.own hgF (λ q hq=>⟨by have:=(Hi q hq).1;have:=HG9.o;omega,Jw.of_own hux.o (.inr rfl) hq⟩))
    have H8F:=Xj ((hgF.block g8 (Xv huz.o) (λ e=>by have:=(Hi g8 e.symm).1;have:=HG9.o;omega)).trans huz.o)
    have H9F:=Xj ((hgF.block g9 (Xv hmd.o) (λ e=>by have:=(Hi g9 e.symm).1;have:=HG9.o;omega)).trans hmd.o)
    have HAF:=Xj (HA23.o.keep (Q:=λ b=>TB (g+1) M1 b/\b≠g9) (λ b hb2 hlt=>⟨hgF.block b hlt (λ e=>by have:=(Hi b e.symm).1;have:=hb2.2.2;omega),hb2.1,hb2.2.1⟩) hgF.size)
    have HSF:Xq (Zp wF (λ b=>TB lb M1 b/\some b≠some g11) (S.app (Zq 2 0 nm (Xb ⟨6,3,0,0,[]⟩ (Zf nm 1)) .nil .nil)) (xs++stc 2 0 nm (.slice (some ⟨gr,0,none⟩) 1 1) (.slice none 0 0) (.slice none 0 0))):=Xj (by
     rw[<- HEQ.o] at hgF horF
     exact Kq HSK.o HOK.o (λ q hq=>(Hi q hq).2) HLS.o.1 (Zp.one (hzh.o.keep (Q:=TB lw M1) (λ b hb2 _=>⟨rfl,hb2,λ e=>HVB.o b hb2 e⟩) (Nat.le_refl _)) (Xf.nil _ _) (Xf.nil _ _)) hgF horF)
    refine goH hK H8F.o λ hJ=>?_
    clear hK K hownF hgF horF hltF Hi hqf
    refine tkH 10 103 ?_
    obtain⟨p0,p1,p2,p3,p4,p5⟩:=Xl H9F.o
    have s4:=frozen_of_row _ g9 4 _ _ H9F.o
    have jl:=Xv H9F.o
    refine rdH 11 λ K hK=>?_
    go_simp
    refine goH hK ((heap_setCell_other wF ⟨g9,4,none⟩ g8 _ (by have:=HG9.o;show g8≠g9;omega)).trans H8F.o) λ hJ=>?_
    clear hK K
    refine wpAnyH_done (by kernel_rfl) ?_ _
    go_wp2_with fail
    go_meet
    have HJ:(S.app (Zq 2 0 nm (Xb ⟨6,3,0,0,[]⟩ (Zf nm 1)) .nil .nil)).len=S.len+1:=by rw[Sf.len_app];rfl
    have hst:=Zl (by rw[HJ];exact HOF.o) HSF.o HXF.o.mkr
    refine⟨some ⟨g11,0,none⟩,c11,Xj ⟨HXF.o.setTree ⟨_,_,_,H9F.o,.inr rfl⟩ (by have:=HG9.o;omega) 4 _,heap_setCell_same _ g9 4 _ _ _ H9F.o,HAF.o.keep (λ b hb _=>⟨heap_setCell_other wF ⟨g9,4,none⟩ b _ hb.2,hb.1⟩) (by simp[World.setCell]),hst.keep (λ b hb _=>⟨heap_setCell_other wF ⟨g9,4,none⟩ b _ (by have:=hb.1;have:=HG9.o;show b≠g9;omega),⟨by have:=hb.1;have:=HG9.o;omega,hb.2⟩⟩) (by simp[World.setCell])⟩⟩
   go_simp
   have hb:=Xw w0 (.cells (hdc ⟨13,0,0,0,nm⟩ (.slice none 0 0)++hdc ⟨1,0,1,0,[]⟩ (.slice none 0 0)).toArray 37)
   have hvd:=Xj (HX0.o.below hb)
   have hxc:=Xj ((hb.block g8 (Xv H80.o)).trans H80.o)
   have hvh:=Xj ((hb.block g9 (Xv H90.o)).trans H90.o)
   have hmh:=Xj (HA0.o.keep (Q:=λ b=>TB (g+1) M1 b/\b≠g9/\b<lb) (λ b hb2 hlt=>⟨hb.block b hlt,hb2⟩) hb.size)
   have hku:=Xj (Yv HO0.o (λ q hq=>hb.block q (HO0.o.lt q hq).2))
   have hml:=Xj (HS0.o.keep (Q:=λ b=>TB lb M1 b/\some b≠(Value.slice asl S.len csl).ownBlock) (λ b hb2 hlt=>⟨hb.block b hlt,hb2⟩) hb.size)
   have hmn:Xq (lw<=_):=Xj (Nat.le_trans HW0.o hb.size)
   have huw:=Xj (Zh (Q:=λ b=>lw<=b) (Wd w0 nm 1) (by simp[Zf,Fo.len,maxLen]) (λ b hb2 _=>absurd hb2 id) HW0.o)
   refine goH hK hxc.o λ hJ=>?_
   clear hK K
   obtain⟨w25,hw⟩:∃ wx,w0.alloc (.cells (hdc ⟨13,0,0,0,nm⟩ (.slice none 0 0)++hdc ⟨1,0,1,0,[]⟩ (.slice none 0 0)).toArray 37)=wx:=⟨_,rfl⟩
   obtain⟨gp,hgp⟩:∃ gp,w0.heap.size=gp:=⟨_,rfl⟩
   have hw2:=hw
   simp only[List.cons_append,List.nil_append] at hw2
   (try rw[hw2])
   rw[hw] at hvd hxc hvh hmh hku hml hmn huw
   (try rw[hw] at hJ)
   (try rw[hw2] at hJ)
   rw[hgp] at huw ⊢
   clear hw hw2 hgp hb
   refine wpAnyH_ready (rs:=[1,6]) (by kernel_rfl) (by simp) ?_
   refine AllReadyH.cons rfl (λ K hK=>?_) (AllReadyH.cons rfl (λ K hK=>?_) AllReadyH.nil)
   ·have p4:=cell_of_row _ _ 4 _ _ _ hvh.o
    go_simp
    refine goH hK hxc.o λ hJ=>?_
    clear hK K p4
    refine rdH 6 λ K hK=>?_
    go_simp
    refine(Qc _ _ _ _ _ _).mono ?_
    rintro e w26 ⟨rfl,hb⟩
    have hkf:=Xj (hvd.o.below hb)
    have hmr:=Xj ((hb.block g8 (Xv hxc.o)).trans hxc.o)
    have H926:=Xj ((hb.block g9 (Xv hvh.o)).trans hvh.o)
    have HA26:=Xj (hmh.o.keep (Q:=λ b=>TB (g+1) M1 b/\b≠g9/\b<lb) (λ b hb2 hlt=>⟨hb.block b hlt,hb2⟩) hb.size)
    have HO26:=Xj (Yv hku.o (λ q hq=>hb.block q (hku.o.lt q hq).2))
    have HS26:=Xj (hml.o.keep (Q:=λ b=>TB lb M1 b/\some b≠(Value.slice asl S.len csl).ownBlock) (λ b hb2 hlt=>⟨hb.block b hlt,hb2⟩) hb.size)
    have HW26:Xq (lw<=_):=Xj (Nat.le_trans hmn.o hb.size)
    have HB26:=Xj (huw.o.keep (Q:=λ b=>lw<=b) (λ b hb2 hlt=>⟨hb.block b hlt,hb2⟩) hb.size)
    refine goH hK hmr.o λ hJ=>?_
    clear hK K hb
    refine rdH 7 λ K hK=>?_
    go_simp
    refine(Zc _ _ ⟨6,3,0,0,[]⟩ _ _ _ _).mono ?_
    rintro e w27 ⟨gr,rfl,hgr,hrr,hb⟩
    have HX27:=Xj (hkf.o.below hb)
    have hmt:=Xj ((hb.block g8 (Xv hmr.o)).trans hmr.o)
    have H927:=Xj ((hb.block g9 (Xv H926.o)).trans H926.o)
    have HA27:=Xj (HA26.o.keep (Q:=λ b=>TB (g+1) M1 b/\b≠g9/\b<lb) (λ b hb2 hlt=>⟨hb.block b hlt,hb2⟩) hb.size)
    have hcq:=Xj (Yv HO26.o (λ q hq=>hb.block q (HO26.o.lt q hq).2))
    have HS27:=Xj (HS26.o.keep (Q:=λ b=>TB lb M1 b/\some b≠(Value.slice asl S.len csl).ownBlock) (λ b hb2 hlt=>⟨hb.block b hlt,hb2⟩) hb.size)
    have HW27:Xq (lw<=_):=Xj (Nat.le_trans HW26.o hb.size)
    have HB27:=Xj (Ym (P:=λ b=>lw<=b) hrr (HB26.o.keep (Q:=λ b=>lw<=b) (λ b hb2 hlt=>⟨hb.block b hlt,hb2⟩) hb.size) (by have:=HW26.o;omega))
    refine goH hK hmt.o λ hJ=>?_
    clear hK K hb hgr hrr
    refine rdH 8 λ K hK=>?_
    go_simp
    have hb:=Xw w27 (.cells (stc 2 0 nm (.slice (some ⟨gr,0,none⟩) 1 1) (.slice none 0 0) (.slice none 0 0)).toArray 110)
    have HX28:=Xj (HX27.o.below hb)
    have huk:=Xj ((hb.block g8 (Xv hmt.o)).trans hmt.o)
    have hcz:=Xj ((hb.block g9 (Xv H927.o)).trans H927.o)
    have HA28:=Xj (HA27.o.keep (Q:=λ b=>TB (g+1) M1 b/\b≠g9/\b<lb) (λ b hb2 hlt=>⟨hb.block b hlt,hb2⟩) hb.size)
    have huy:=Xj (Yv hcq.o (λ q hq=>hb.block q (hcq.o.lt q hq).2))
    have hxf:=Xj (heap_alloc_new w27 (.cells (stc 2 0 nm (.slice (some ⟨gr,0,none⟩) 1 1) (.slice none 0 0) (.slice none 0 0)).toArray 110))
    have HW28:Xq (lw<=_):=Xj (Nat.le_trans HW27.o hb.size)
    refine goH hK huk.o λ hJ=>?_
    clear hK K
    obtain⟨w28,hw⟩:∃ wx,w27.alloc (.cells (stc 2 0 nm (.slice (some ⟨gr,0,none⟩) 1 1) (.slice none 0 0) (.slice none 0 0)).toArray 110)=wx:=⟨_,rfl⟩
    obtain⟨gb,hgb⟩:∃ gb,w27.heap.size=gb:=⟨_,rfl⟩
    rw[hw] at HX28 huk hcz HA28 huy hxf HW28
    (try rw[hw] at hJ)
    (try rw[hw])
    rw[hgb] at hxf ⊢
    have HEQ:=Xj hw
    have HSK:=HS27
    have hzh:=HB27
    have HWK:=HW27
    have HOK:=hcq
    have HXK:=HX27
    have huv:gb+1=w28.heap.size:=by rw[<- hw,<- hgb];simp
    clear hw hgb hb
    refine rdH 9 λ K hK=>?_
    have hqf:lb<=w28.heap.size:=by have:=HW28.o;have:=HLS.o.1;omega
    refine step_append_lies _ (by rfl) _ _ _ (by rfl) lb 110 i0 _ 6 104 Tryz.underlying61 HI.o HZ0.o HZ1.o HZ2.o rfl (by omega) _ _ _ (by rfl) huy.o ⟨gb,0,none⟩ 1 1 (stc 2 0 nm (.slice (some ⟨gr,0,none⟩) 1 1) (.slice none 0 0) (.slice none 0 0)) (by rfl) (by rfl) (World.news_of_block (cs:=(stc 2 0 nm (.slice (some ⟨gr,0,none⟩) 1 1) (.slice none 0 0) (.slice none 0 0)).toArray) (t:=110) (fr:=(0,0)) hxf.o) (by simp[Value.oneCell']) (by omega) HSL.o.1 HSL.o.2 hqf _ rfl ?_
    intro g11 c11 wF hownF hgF horF hltF
    have HOF:=Xj hownF
    have Hi:∀ q,(Value.slice asl S.len csl).ownBlock=some q->lb<=q/\q<lw:=λ q hq=>⟨(huy.o.lt q hq).1,HLS.o.2 q hq⟩
    have HXF:=Xj (HX28.o.own hgF (λ q hq=>⟨by have:=(Hi q hq).1;have:=HG9.o;omega,Jw.of_own huy.o (.inr rfl) hq⟩))
    have H8F:=Xj ((hgF.block g8 (Xv huk.o) (λ e=>by have:=(Hi g8 e.symm).1;have:=HG9.o;omega)).trans huk.o)
    have H9F:=Xj ((hgF.block g9 (Xv hcz.o) (λ e=>by have:=(Hi g9 e.symm).1;have:=HG9.o;omega)).trans hcz.o)
    have HAF:=Xj (HA28.o.keep (Q:=λ b=>TB (g+1) M1 b/\b≠g9) (λ b hb2 hlt=>⟨hgF.block b hlt (λ e=>by have:=(Hi b e.symm).1;have:=hb2.2.2;omega),hb2.1,hb2.2.1⟩) hgF.size)
    have HSF:Xq (Zp wF (λ b=>TB lb M1 b/\some b≠some g11) (S.app (Zq 2 0 nm (Xb ⟨6,3,0,0,[]⟩ (Zf nm 1)) .nil .nil)) (xs++stc 2 0 nm (.slice (some ⟨gr,0,none⟩) 1 1) (.slice none 0 0) (.slice none 0 0))):=Xj (by
     rw[<- HEQ.o] at hgF horF
     exact Kq HSK.o HOK.o (λ q hq=>(Hi q hq).2) HLS.o.1 (Zp.one (hzh.o.keep (Q:=TB lw M1) (λ b hb2 _=>⟨rfl,hb2,λ e=>HVB.o b hb2 e⟩) (Nat.le_refl _)) (Xf.nil _ _) (Xf.nil _ _)) hgF horF)
    refine goH hK H8F.o λ hJ=>?_
    clear hK K hownF hgF horF hltF Hi hqf
    refine tkH 10 103 ?_
    obtain⟨p0,p1,p2,p3,p4,p5⟩:=Xl H9F.o
    have s4:=frozen_of_row _ g9 4 _ _ H9F.o
    have jl:=Xv H9F.o
    refine rdH 11 λ K hK=>?_
    go_simp
    refine goH hK ((heap_setCell_other wF ⟨g9,4,none⟩ g8 _ (by have:=HG9.o;show g8≠g9;omega)).trans H8F.o) λ hJ=>?_
    clear hK K
    refine wpAnyH_done (by kernel_rfl) ?_ _
    go_wp2_with fail
    go_meet
    have HJ:(S.app (Zq 2 0 nm (Xb ⟨6,3,0,0,[]⟩ (Zf nm 1)) .nil .nil)).len=S.len+1:=by rw[Sf.len_app];rfl
    have hst:=Zl (by rw[HJ];exact HOF.o) HSF.o HXF.o.mkr
    refine⟨some ⟨g11,0,none⟩,c11,Xj ⟨HXF.o.setTree ⟨_,_,_,H9F.o,.inr rfl⟩ (by have:=HG9.o;omega) 4 _,heap_setCell_same _ g9 4 _ _ _ H9F.o,HAF.o.keep (λ b hb _=>⟨heap_setCell_other wF ⟨g9,4,none⟩ b _ hb.2,hb.1⟩) (by simp[World.setCell]),hst.keep (λ b hb _=>⟨heap_setCell_other wF ⟨g9,4,none⟩ b _ (by have:=hb.1;have:=HG9.o;show b≠g9;omega),⟨by have:=hb.1;have:=HG9.o;omega,hb.2⟩⟩) (by simp[World.setCell])⟩⟩
   go_simp
   refine(Qc _ _ _ _ _ _).mono ?_
   rintro e w30 ⟨rfl,hb⟩
   have HX30:=Xj (hvd.o.below hb)
   have hvn:=Xj ((hb.block g8 (Xv hxc.o)).trans hxc.o)
   have hkd:=Xj ((hb.block g9 (Xv hvh.o)).trans hvh.o)
   have HA30:=Xj (hmh.o.keep (Q:=λ b=>TB (g+1) M1 b/\b≠g9/\b<lb) (λ b hb2 hlt=>⟨hb.block b hlt,hb2⟩) hb.size)
   have huu:=Xj (Yv hku.o (λ q hq=>hb.block q (hku.o.lt q hq).2))
   have HS30:=Xj (hml.o.keep (Q:=λ b=>TB lb M1 b/\some b≠(Value.slice asl S.len csl).ownBlock) (λ b hb2 hlt=>⟨hb.block b hlt,hb2⟩) hb.size)
   have hub:Xq (lw<=_):=Xj (Nat.le_trans hmn.o hb.size)
   have HB30:=Xj (huw.o.keep (Q:=λ b=>lw<=b) (λ b hb2 hlt=>⟨hb.block b hlt,hb2⟩) hb.size)
   refine goH hK hvn.o λ hJ=>?_
   clear hK K hb
   refine wpAnyH_ready (rs:=[1,7]) (by kernel_rfl) (by simp) ?_
   refine AllReadyH.cons rfl (λ K hK=>?_) (AllReadyH.cons rfl (λ K hK=>?_) AllReadyH.nil)
   ·have p4:=cell_of_row _ _ 4 _ _ _ hkd.o
    go_simp
    refine goH hK hvn.o λ hJ=>?_
    clear hK K p4
    refine rdH 7 λ K hK=>?_
    go_simp
    refine(Zc _ _ ⟨6,3,0,0,[]⟩ _ _ _ _).mono ?_
    rintro e w31 ⟨gr,rfl,hgr,hrr,hb⟩
    have HX31:=Xj (HX30.o.below hb)
    have hcv:=Xj ((hb.block g8 (Xv hvn.o)).trans hvn.o)
    have H931:=Xj ((hb.block g9 (Xv hkd.o)).trans hkd.o)
    have HA31:=Xj (HA30.o.keep (Q:=λ b=>TB (g+1) M1 b/\b≠g9/\b<lb) (λ b hb2 hlt=>⟨hb.block b hlt,hb2⟩) hb.size)
    have hcw:=Xj (Yv huu.o (λ q hq=>hb.block q (huu.o.lt q hq).2))
    have HS31:=Xj (HS30.o.keep (Q:=λ b=>TB lb M1 b/\some b≠(Value.slice asl S.len csl).ownBlock) (λ b hb2 hlt=>⟨hb.block b hlt,hb2⟩) hb.size)
    have HW31:Xq (lw<=_):=Xj (Nat.le_trans hub.o hb.size)
    have HB31:=Xj (Ym (P:=λ b=>lw<=b) hrr (HB30.o.keep (Q:=λ b=>lw<=b) (λ b hb2 hlt=>⟨hb.block b hlt,hb2⟩) hb.size) (by have:=hub.o;omega))
    refine goH hK hcv.o λ hJ=>?_
    clear hK K hb hgr hrr
    refine rdH 8 λ K hK=>?_
    go_simp
    have hb:=Xw w31 (.cells (stc 2 0 nm (.slice (some ⟨gr,0,none⟩) 1 1) (.slice none 0 0) (.slice none 0 0)).toArray 110)
    have HX32:=Xj (HX31.o.below hb)
    have hup:=Xj ((hb.block g8 (Xv hcv.o)).trans hcv.o)
    have hck:=Xj ((hb.block g9 (Xv H931.o)).trans H931.o)
    have HA32:=Xj (HA31.o.keep (Q:=λ b=>TB (g+1) M1 b/\b≠g9/\b<lb) (λ b hb2 hlt=>⟨hb.block b hlt,hb2⟩) hb.size)
    have hug:=Xj (Yv hcw.o (λ q hq=>hb.block q (hcw.o.lt q hq).2))
    have hxd:=Xj (heap_alloc_new w31 (.cells (stc 2 0 nm (.slice (some ⟨gr,0,none⟩) 1 1) (.slice none 0 0) (.slice none 0 0)).toArray 110))
    have HW32:Xq (lw<=_):=Xj (Nat.le_trans HW31.o hb.size)
    refine goH hK hup.o λ hJ=>?_
    clear hK K
    obtain⟨w32,hw⟩:∃ wx,w31.alloc (.cells (stc 2 0 nm (.slice (some ⟨gr,0,none⟩) 1 1) (.slice none 0 0) (.slice none 0 0)).toArray 110)=wx:=⟨_,rfl⟩
    obtain⟨gb,hgb⟩:∃ gb,w31.heap.size=gb:=⟨_,rfl⟩
    rw[hw] at HX32 hup hck HA32 hug hxd HW32
    (try rw[hw] at hJ)
    (try rw[hw])
    rw[hgb] at hxd ⊢
    have HEQ:=Xj hw
    have HSK:=HS31
    have hzh:=HB31
    have HWK:=HW31
    have HOK:=hcw
    have HXK:=HX31
    have huv:gb+1=w32.heap.size:=by rw[<- hw,<- hgb];simp
    clear hw hgb hb
    refine rdH 9 λ K hK=>?_
    have hqf:lb<=w32.heap.size:=by have:=HW32.o;have:=HLS.o.1;omega
    refine step_append_lies _ (by rfl) _ _ _ (by rfl) lb 110 i0 _ 6 104 Tryz.underlying61 HI.o HZ0.o HZ1.o HZ2.o rfl (by omega) _ _ _ (by rfl) hug.o ⟨gb,0,none⟩ 1 1 (stc 2 0 nm (.slice (some ⟨gr,0,none⟩) 1 1) (.slice none 0 0) (.slice none 0 0)) (by rfl) (by rfl) (World.news_of_block (cs:=(stc 2 0 nm (.slice (some ⟨gr,0,none⟩) 1 1) (.slice none 0 0) (.slice none 0 0)).toArray) (t:=110) (fr:=(0,0)) hxd.o) (by simp[Value.oneCell']) (by omega) HSL.o.1 HSL.o.2 hqf _ rfl ?_
    intro g11 c11 wF hownF hgF horF hltF
    have HOF:=Xj hownF
    have Hi:∀ q,(Value.slice asl S.len csl).ownBlock=some q->lb<=q/\q<lw:=λ q hq=>⟨(hug.o.lt q hq).1,HLS.o.2 q hq⟩
    have HXF:=Xj (HX32.o.own hgF (λ q hq=>⟨by have:=(Hi q hq).1;have:=HG9.o;omega,Jw.of_own hug.o (.inr rfl) hq⟩))
    have H8F:=Xj ((hgF.block g8 (Xv hup.o) (λ e=>by have:=(Hi g8 e.symm).1;have:=HG9.o;omega)).trans hup.o)
    have H9F:=Xj ((hgF.block g9 (Xv hck.o) (λ e=>by have:=(Hi g9 e.symm).1;have:=HG9.o;omega)).trans hck.o)
    have HAF:=Xj (HA32.o.keep (Q:=λ b=>TB (g+1) M1 b/\b≠g9) (λ b hb2 hlt=>⟨hgF.block b hlt (λ e=>by have:=(Hi b e.symm).1;have:=hb2.2.2;omega),hb2.1,hb2.2.1⟩) hgF.size)
    have HSF:Xq (Zp wF (λ b=>TB lb M1 b/\some b≠some g11) (S.app (Zq 2 0 nm (Xb ⟨6,3,0,0,[]⟩ (Zf nm 1)) .nil .nil)) (xs++stc 2 0 nm (.slice (some ⟨gr,0,none⟩) 1 1) (.slice none 0 0) (.slice none 0 0))):=Xj (by
     rw[<- HEQ.o] at hgF horF
     exact Kq HSK.o HOK.o (λ q hq=>(Hi q hq).2) HLS.o.1 (Zp.one (hzh.o.keep (Q:=TB lw M1) (λ b hb2 _=>⟨rfl,hb2,λ e=>HVB.o b hb2 e⟩) (Nat.le_refl _)) (Xf.nil _ _) (Xf.nil _ _)) hgF horF)
    refine goH hK H8F.o λ hJ=>?_
    clear hK K hownF hgF horF hltF Hi hqf
    refine tkH 10 103 ?_
    obtain⟨p0,p1,p2,p3,p4,p5⟩:=Xl H9F.o
    have s4:=frozen_of_row _ g9 4 _ _ H9F.o
    have jl:=Xv H9F.o
    refine rdH 11 λ K hK=>?_
    go_simp
    refine goH hK ((heap_setCell_other wF ⟨g9,4,none⟩ g8 _ (by have:=HG9.o;show g8≠g9;omega)).trans H8F.o) λ hJ=>?_
    clear hK K
    refine wpAnyH_done (by kernel_rfl) ?_ _
    go_wp2_with fail
    go_meet
    have HJ:(S.app (Zq 2 0 nm (Xb ⟨6,3,0,0,[]⟩ (Zf nm 1)) .nil .nil)).len=S.len+1:=by rw[Sf.len_app];rfl
    have hst:=Zl (by rw[HJ];exact HOF.o) HSF.o HXF.o.mkr
    refine⟨some ⟨g11,0,none⟩,c11,Xj ⟨HXF.o.setTree ⟨_,_,_,H9F.o,.inr rfl⟩ (by have:=HG9.o;omega) 4 _,heap_setCell_same _ g9 4 _ _ _ H9F.o,HAF.o.keep (λ b hb _=>⟨heap_setCell_other wF ⟨g9,4,none⟩ b _ hb.2,hb.1⟩) (by simp[World.setCell]),hst.keep (λ b hb _=>⟨heap_setCell_other wF ⟨g9,4,none⟩ b _ (by have:=hb.1;have:=HG9.o;show b≠g9;omega),⟨by have:=hb.1;have:=HG9.o;omega,hb.2⟩⟩) (by simp[World.setCell])⟩⟩
   go_simp
   refine(Zc _ _ ⟨6,3,0,0,[]⟩ _ _ _ _).mono ?_
   rintro e w34 ⟨gr,rfl,hgr,hrr,hb⟩
   have hum:=Xj (HX30.o.below hb)
   have hvr:=Xj ((hb.block g8 (Xv hvn.o)).trans hvn.o)
   have hkh:=Xj ((hb.block g9 (Xv hkd.o)).trans hkd.o)
   have HA34:=Xj (HA30.o.keep (Q:=λ b=>TB (g+1) M1 b/\b≠g9/\b<lb) (λ b hb2 hlt=>⟨hb.block b hlt,hb2⟩) hb.size)
   have hvt:=Xj (Yv huu.o (λ q hq=>hb.block q (huu.o.lt q hq).2))
   have HS34:=Xj (HS30.o.keep (Q:=λ b=>TB lb M1 b/\some b≠(Value.slice asl S.len csl).ownBlock) (λ b hb2 hlt=>⟨hb.block b hlt,hb2⟩) hb.size)
   have huc:Xq (lw<=_):=Xj (Nat.le_trans hub.o hb.size)
   have HB34:=Xj (Ym (P:=λ b=>lw<=b) hrr (HB30.o.keep (Q:=λ b=>lw<=b) (λ b hb2 hlt=>⟨hb.block b hlt,hb2⟩) hb.size) (by have:=hub.o;omega))
   refine goH hK hvr.o λ hJ=>?_
   clear hK K hb hgr hrr
   refine wpAnyH_ready (rs:=[1,8]) (by kernel_rfl) (by simp) ?_
   refine AllReadyH.cons rfl (λ K hK=>?_) (AllReadyH.cons rfl (λ K hK=>?_) AllReadyH.nil)
   ·have p4:=cell_of_row _ _ 4 _ _ _ hkh.o
    go_simp
    refine goH hK hvr.o λ hJ=>?_
    clear hK K p4
    refine rdH 8 λ K hK=>?_
    go_simp
    have hb:=Xw w34 (.cells (stc 2 0 nm (.slice (some ⟨gr,0,none⟩) 1 1) (.slice none 0 0) (.slice none 0 0)).toArray 110)
    have HX35:=Xj (hum.o.below hb)
    have huf:=Xj ((hb.block g8 (Xv hvr.o)).trans hvr.o)
    have hcy:=Xj ((hb.block g9 (Xv hkh.o)).trans hkh.o)
    have HA35:=Xj (HA34.o.keep (Q:=λ b=>TB (g+1) M1 b/\b≠g9/\b<lb) (λ b hb2 hlt=>⟨hb.block b hlt,hb2⟩) hb.size)
    have hud:=Xj (Yv hvt.o (λ q hq=>hb.block q (hvt.o.lt q hq).2))
    have hxh:=Xj (heap_alloc_new w34 (.cells (stc 2 0 nm (.slice (some ⟨gr,0,none⟩) 1 1) (.slice none 0 0) (.slice none 0 0)).toArray 110))
    have HW35:Xq (lw<=_):=Xj (Nat.le_trans huc.o hb.size)
    refine goH hK huf.o λ hJ=>?_
    clear hK K
    obtain⟨w35,hw⟩:∃ wx,w34.alloc (.cells (stc 2 0 nm (.slice (some ⟨gr,0,none⟩) 1 1) (.slice none 0 0) (.slice none 0 0)).toArray 110)=wx:=⟨_,rfl⟩
    obtain⟨gb,hgb⟩:∃ gb,w34.heap.size=gb:=⟨_,rfl⟩
    rw[hw] at HX35 huf hcy HA35 hud hxh HW35
    (try rw[hw] at hJ)
    (try rw[hw])
    rw[hgb] at hxh ⊢
    have HEQ:=Xj hw
    have HSK:=HS34
    have hzh:=HB34
    have HWK:=huc
    have HOK:=hvt
    have HXK:=hum
    have huv:gb+1=w35.heap.size:=by rw[<- hw,<- hgb];simp
    clear hw hgb hb
    refine rdH 9 λ K hK=>?_
    have hqf:lb<=w35.heap.size:=by have:=HW35.o;have:=HLS.o.1;omega
    refine step_append_lies _ (by rfl) _ _ _ (by rfl) lb 110 i0 _ 6 104 Tryz.underlying61 HI.o HZ0.o HZ1.o HZ2.o rfl (by omega) _ _ _ (by rfl) hud.o ⟨gb,0,none⟩ 1 1 (stc 2 0 nm (.slice (some ⟨gr,0,none⟩) 1 1) (.slice none 0 0) (.slice none 0 0)) (by rfl) (by rfl) (World.news_of_block (cs:=(stc 2 0 nm (.slice (some ⟨gr,0,none⟩) 1 1) (.slice none 0 0) (.slice none 0 0)).toArray) (t:=110) (fr:=(0,0)) hxh.o) (by simp[Value.oneCell']) (by omega) HSL.o.1 HSL.o.2 hqf _ rfl ?_
    intro g11 c11 wF hownF hgF horF hltF
    have HOF:=Xj hownF
    have Hi:∀ q,(Value.slice asl S.len csl).ownBlock=some q->lb<=q/\q<lw:=λ q hq=>⟨(hud.o.lt q hq).1,HLS.o.2 q hq⟩
    have HXF:=Xj (HX35.o.own hgF (λ q hq=>⟨by have:=(Hi q hq).1;have:=HG9.o;omega,Jw.of_own hud.o (.inr rfl) hq⟩))
    have H8F:=Xj ((hgF.block g8 (Xv huf.o) (λ e=>by have:=(Hi g8 e.symm).1;have:=HG9.o;omega)).trans huf.o)
    have H9F:=Xj ((hgF.block g9 (Xv hcy.o) (λ e=>by have:=(Hi g9 e.symm).1;have:=HG9.o;omega)).trans hcy.o)
    have HAF:=Xj (HA35.o.keep (Q:=λ b=>TB (g+1) M1 b/\b≠g9) (λ b hb2 hlt=>⟨hgF.block b hlt (λ e=>by have:=(Hi b e.symm).1;have:=hb2.2.2;omega),hb2.1,hb2.2.1⟩) hgF.size)
    have HSF:Xq (Zp wF (λ b=>TB lb M1 b/\some b≠some g11) (S.app (Zq 2 0 nm (Xb ⟨6,3,0,0,[]⟩ (Zf nm 1)) .nil .nil)) (xs++stc 2 0 nm (.slice (some ⟨gr,0,none⟩) 1 1) (.slice none 0 0) (.slice none 0 0))):=Xj (by
     rw[<- HEQ.o] at hgF horF
     exact Kq HSK.o HOK.o (λ q hq=>(Hi q hq).2) HLS.o.1 (Zp.one (hzh.o.keep (Q:=TB lw M1) (λ b hb2 _=>⟨rfl,hb2,λ e=>HVB.o b hb2 e⟩) (Nat.le_refl _)) (Xf.nil _ _) (Xf.nil _ _)) hgF horF)
    refine goH hK H8F.o λ hJ=>?_
    clear hK K hownF hgF horF hltF Hi hqf
    refine tkH 10 103 ?_
    obtain⟨p0,p1,p2,p3,p4,p5⟩:=Xl H9F.o
    have s4:=frozen_of_row _ g9 4 _ _ H9F.o
    have jl:=Xv H9F.o
    refine rdH 11 λ K hK=>?_
    go_simp
    refine goH hK ((heap_setCell_other wF ⟨g9,4,none⟩ g8 _ (by have:=HG9.o;show g8≠g9;omega)).trans H8F.o) λ hJ=>?_
    clear hK K
    refine wpAnyH_done (by kernel_rfl) ?_ _
    go_wp2_with fail
    go_meet
    have HJ:(S.app (Zq 2 0 nm (Xb ⟨6,3,0,0,[]⟩ (Zf nm 1)) .nil .nil)).len=S.len+1:=by rw[Sf.len_app];rfl
    have hst:=Zl (by rw[HJ];exact HOF.o) HSF.o HXF.o.mkr
    refine⟨some ⟨g11,0,none⟩,c11,Xj ⟨HXF.o.setTree ⟨_,_,_,H9F.o,.inr rfl⟩ (by have:=HG9.o;omega) 4 _,heap_setCell_same _ g9 4 _ _ _ H9F.o,HAF.o.keep (λ b hb _=>⟨heap_setCell_other wF ⟨g9,4,none⟩ b _ hb.2,hb.1⟩) (by simp[World.setCell]),hst.keep (λ b hb _=>⟨heap_setCell_other wF ⟨g9,4,none⟩ b _ (by have:=hb.1;have:=HG9.o;show b≠g9;omega),⟨by have:=hb.1;have:=HG9.o;omega,hb.2⟩⟩) (by simp[World.setCell])⟩⟩
   go_simp
   have hb:=Xw w34 (.cells (stc 2 0 nm (.slice (some ⟨gr,0,none⟩) 1 1) (.slice none 0 0) (.slice none 0 0)).toArray 110)
   have HX37:=Xj (hum.o.below hb)
   have hkn:=Xj ((hb.block g8 (Xv hvr.o)).trans hvr.o)
   have huh:=Xj ((hb.block g9 (Xv hkh.o)).trans hkh.o)
   have HA37:=Xj (HA34.o.keep (Q:=λ b=>TB (g+1) M1 b/\b≠g9/\b<lb) (λ b hb2 hlt=>⟨hb.block b hlt,hb2⟩) hb.size)
   have hul:=Xj (Yv hvt.o (λ q hq=>hb.block q (hvt.o.lt q hq).2))
   have hxn:=Xj (heap_alloc_new w34 (.cells (stc 2 0 nm (.slice (some ⟨gr,0,none⟩) 1 1) (.slice none 0 0) (.slice none 0 0)).toArray 110))
   have HW37:Xq (lw<=_):=Xj (Nat.le_trans huc.o hb.size)
   refine goH hK hkn.o λ hJ=>?_
   clear hK K
   obtain⟨w37,hw⟩:∃ wx,w34.alloc (.cells (stc 2 0 nm (.slice (some ⟨gr,0,none⟩) 1 1) (.slice none 0 0) (.slice none 0 0)).toArray 110)=wx:=⟨_,rfl⟩
   obtain⟨gb,hgb⟩:∃ gb,w34.heap.size=gb:=⟨_,rfl⟩
   rw[hw] at HX37 hkn huh HA37 hul hxn HW37
   (try rw[hw] at hJ)
   (try rw[hw])
   rw[hgb] at hxn ⊢
   have HEQ:=Xj hw
   have HSK:=HS34
   have hzh:=HB34
   have HWK:=huc
   have HOK:=hvt
   have HXK:=hum
   have huv:gb+1=w37.heap.size:=by rw[<- hw,<- hgb];simp
   clear hw hgb hb
   refine rdH 1 λ K hK=>?_
   have p4:=cell_of_row _ _ 4 _ _ _ huh.o
   go_simp
   refine goH hK hkn.o λ hJ=>?_
   clear hK K p4
   refine rdH 9 λ K hK=>?_
   have hqf:lb<=w37.heap.size:=by have:=HW37.o;have:=HLS.o.1;omega
   refine step_append_lies _ (by rfl) _ _ _ (by rfl) lb 110 i0 _ 6 104 Tryz.underlying61 HI.o HZ0.o HZ1.o HZ2.o rfl (by omega) _ _ _ (by rfl) hul.o ⟨gb,0,none⟩ 1 1 (stc 2 0 nm (.slice (some ⟨gr,0,none⟩) 1 1) (.slice none 0 0) (.slice none 0 0)) (by rfl) (by rfl) (World.news_of_block (cs:=(stc 2 0 nm (.slice (some ⟨gr,0,none⟩) 1 1) (.slice none 0 0) (.slice none 0 0)).toArray) (t:=110) (fr:=(0,0)) hxn.o) (by simp[Value.oneCell']) (by omega) HSL.o.1 HSL.o.2 hqf _ rfl ?_
   intro g11 c11 wF hownF hgF horF hltF
   have HOF:=Xj hownF
   have Hi:∀ q,(Value.slice asl S.len csl).ownBlock=some q->lb<=q/\q<lw:=λ q hq=>⟨(hul.o.lt q hq).1,HLS.o.2 q hq⟩
   have HXF:=Xj (HX37.o.own hgF (λ q hq=>⟨by have:=(Hi q hq).1;have:=HG9.o;omega,Jw.of_own hul.o (.inr rfl) hq⟩))
   have H8F:=Xj ((hgF.block g8 (Xv hkn.o) (λ e=>by have:=(Hi g8 e.symm).1;have:=HG9.o;omega)).trans hkn.o)
   have H9F:=Xj ((hgF.block g9 (Xv huh.o) (λ e=>by have:=(Hi g9 e.symm).1;have:=HG9.o;omega)).trans huh.o)
   have HAF:=Xj (HA37.o.keep (Q:=λ b=>TB (g+1) M1 b/\b≠g9) (λ b hb2 hlt=>⟨hgF.block b hlt (λ e=>by have:=(Hi b e.symm).1;have:=hb2.2.2;omega),hb2.1,hb2.2.1⟩) hgF.size)
   have HSF:Xq (Zp wF (λ b=>TB lb M1 b/\some b≠some g11) (S.app (Zq 2 0 nm (Xb ⟨6,3,0,0,[]⟩ (Zf nm 1)) .nil .nil)) (xs++stc 2 0 nm (.slice (some ⟨gr,0,none⟩) 1 1) (.slice none 0 0) (.slice none 0 0))):=Xj (by
    rw[<- HEQ.o] at hgF horF
    exact Kq HSK.o HOK.o (λ q hq=>(Hi q hq).2) HLS.o.1 (Zp.one (hzh.o.keep (Q:=TB lw M1) (λ b hb2 _=>⟨rfl,hb2,λ e=>HVB.o b hb2 e⟩) (Nat.le_refl _)) (Xf.nil _ _) (Xf.nil _ _)) hgF horF)
   refine goH hK H8F.o λ hJ=>?_
   clear hK K hownF hgF horF hltF Hi hqf
   refine tkH 10 103 ?_
   obtain⟨p0,p1,p2,p3,p4,p5⟩:=Xl H9F.o
   have s4:=frozen_of_row _ g9 4 _ _ H9F.o
   have jl:=Xv H9F.o
   refine rdH 11 λ K hK=>?_
   go_simp
   refine goH hK ((heap_setCell_other wF ⟨g9,4,none⟩ g8 _ (by have:=HG9.o;show g8≠g9;omega)).trans H8F.o) λ hJ=>?_
   clear hK K
   refine wpAnyH_done (by kernel_rfl) ?_ _
   go_wp2_with fail
   go_meet
   have HJ:(S.app (Zq 2 0 nm (Xb ⟨6,3,0,0,[]⟩ (Zf nm 1)) .nil .nil)).len=S.len+1:=by rw[Sf.len_app];rfl
   have hst:=Zl (by rw[HJ];exact HOF.o) HSF.o HXF.o.mkr
   refine⟨some ⟨g11,0,none⟩,c11,Xj ⟨HXF.o.setTree ⟨_,_,_,H9F.o,.inr rfl⟩ (by have:=HG9.o;omega) 4 _,heap_setCell_same _ g9 4 _ _ _ H9F.o,HAF.o.keep (λ b hb _=>⟨heap_setCell_other wF ⟨g9,4,none⟩ b _ hb.2,hb.1⟩) (by simp[World.setCell]),hst.keep (λ b hb _=>⟨heap_setCell_other wF ⟨g9,4,none⟩ b _ (by have:=hb.1;have:=HG9.o;show b≠g9;omega),⟨by have:=hb.1;have:=HG9.o;omega,hb.2⟩⟩) (by simp[World.setCell])⟩⟩
  obtain⟨a11,c11,HZ⟩:=hcut
  clear HXS H8S H9S HAS HSS HOS HLS
  clear wS
  obtain⟨p0,p1,p2,p3,p4,p5⟩:=Xl HZ.o.2.1
  obtain⟨jl,f0,f1,f2,f3,f4,f5,r0,r1,r2,r3,r4,r5⟩:=HZ.o.1.cells
  go_wp2_with fail
  obtain⟨q0,q1,q2,q3,q4,q5,HF⟩:=HZ.o.1.fin (deep:=deep+1) HZ.o.2.2.1 HZ.o.2.2.2 (Xf.nil _ _) HGD.o _ rfl
  refine bodyPost_ret (v:=stv 5 0 [] (.slice (some ⟨gq,0,none⟩) 1 1) (.slice a11 (S.len+1) c11) (.slice none 0 0)) (by simp[results,Tryz.results122,go_sem,q0,q1,q2,q3,q4,q5]) rfl ?_
  exact HF.o
 go_wp2_with fail
 refine(HEX.o _ HX2.o.2.mkr).mono ?_
 intro e wE hpE
 obtain⟨hd,ar,aa,ka,rfl,HR⟩:=hpE.open
 clear hpE
 have HXE:=Xj (HX2.o.2.grown HR.o.2.2.2 HR.o.2.2.1)
 have HLA:Xq (g<wc.heap.size):=Xj HX2.o.2.lts
 go_wp2_with fail
 refine(Zc 5 _ hd aa ar.len ka _).mono ?_
 rintro e wO ⟨gq,rfl,hgq,hrq,hbO⟩
 have HXO:=Xj (HXE.o.below hbO)
 have HAO:=Xj (Ym (P:=λ b=>wc.heap.size<=b) hrq (HR.o.1.keep (λ b hb hlt=>⟨hbO.block b hlt,hb⟩) hbO.size) (by have:=HR.o.2.2.2.size;omega))
 have hbL:=Xw wO (.cells #[.int .i64 5,.int .i64 0,.string { data := #[] },.slice (some ⟨gq,0,none⟩) 1 1,.slice none 0 0,.slice none 0 0] 110)
 have hrL:=heap_alloc_new wO (.cells #[.int .i64 5,.int .i64 0,.string { data := #[] },.slice (some ⟨gq,0,none⟩) 1 1,.slice none 0 0,.slice none 0 0] 110)
 have HXL:=Xj (HXO.o.below hbL)
 have HGL:Xq (g<wO.heap.size):=Xj HXO.o.lts
 have HAL:Xq (Xk (wO.alloc (.cells #[.int .i64 5,.int .i64 0,.string { data := #[] },.slice (some ⟨gq,0,none⟩) 1 1,.slice none 0 0,.slice none 0 0] 110)) (λ b=>TB (g+1) M b/\b≠wO.heap.size) (Xb hd ar) (.slice (some ⟨gq,0,none⟩) 1 1)):=Xj (HAO.o.keep (λ b hb hlt=>⟨hbL.block b hlt,TB.of HX2.o.2.mkr (by have:=HLA.o;omega) b hb,by omega⟩) hbL.size)
 clear hgq hrq hbO hbL HXO HAO
 go_upto_region 6 with fail
 obtain⟨wL,hwL⟩:∃ wL,wO.alloc (.cells #[.int .i64 5,.int .i64 0,.string { data := #[] },.slice (some ⟨gq,0,none⟩) 1 1,.slice none 0 0,.slice none 0 0] 110)=wL:=⟨_,rfl⟩
 obtain⟨g7,hg7⟩:∃ g7,wO.heap.size=g7:=⟨_,rfl⟩
 rw[hwL] at hrL HXL HAL ⊢
 rw[hg7] at hrL HAL HGL ⊢
 have HRL:=Xj hrL
 clear hwL hg7 hrL HXE
 clear wO
 obtain⟨c0,c3,jm⟩:=HC.o _ HXL.o
 go_wp2_with fail
 refine(Yj gc 2 (by omega) _ HXL.o.mkr.cod).mono ?_
 rintro e wN ⟨z,rfl,z0,z1,hH,hg⟩
 have z2:z<2:=by omega
 have HXN:=Xj (HXL.o.grown hg hH)
 have HLC:Xq (gc<g/\gm<g):=Xj ⟨HXL.o.lc,HXL.o.lm⟩
 have HRN:Xq (wN.heap[g7]?=some (Ks 5 [] (.slice (some ⟨gq,0,none⟩) 1 1) (.slice none 0 0) (.slice none 0 0))):=Xj ((hg.block g7 (Xv HRL.o) (by simp;have:=HLC.o;have:=HGL.o;omega)).trans HRL.o)
 have HAN:=Xj (HAL.o.keep (Q:=λ b=>TB (g+1) M b/\b≠g7) (λ b hb hlt=>⟨hg.block b hlt (by simp;have:=hb.1.1;have:=HLC.o;omega),hb⟩) hg.size)
 clear hH hg c0 c3 jm HXL HRL HAL
 clear wL
 have Ho:=HBK.o M wN (1+z) (by omega) (by omega) HXN.o.mkr HH.o.1 (by have:=HH.o.2;omega)
 have HCL:=Xj Ho
 clear Ho z1
 go_wp2_with fail
 refine HCL.o.mono ?_
 rintro e wB ⟨S,sl,xs,M1,rfl,hjj,hS,hch,hmk,hb0,hb9,hw,hqj,hjc,hjr⟩
 have HXB:=Xj (HXN.o.step hch hmk)
 have HRB:=Xj (Ju hch HXN.o.mkr HRN.o ⟨_,_,_,HRN.o,.inr rfl⟩ (by have:=HLC.o;have:=HGL.o;omega) (by have:=HLC.o;have:=HGL.o;omega))
 have HAB:Xq (Xk wB (λ b=>TB (g+1) M1 b/\b≠g7) (Xb hd ar) (.slice (some ⟨gq,0,none⟩) 1 1)):=Xj (HAN.o.keep (λ b hb hlt=>⟨(hch.kp (lo:=g+1) (by have:=HLC.o;omega) (by have:=HLC.o;omega) b hb.1 hlt).1,(hch.kp (lo:=g+1) (by have:=HLC.o;omega) (by have:=HLC.o;omega) b hb.1 hlt).2,hb.2⟩) hch.size)
 have hqb:=Zl hjj hS hmk
 have HGN:Xq (g7<wN.heap.size):=Xj (Xv HRN.o)
 have HSB:Xq (Xf wB (λ b=>TB (g+1) M1 b/\b≠g7) S sl):=Xj (hqb.keep (λ b hb _=>⟨rfl,⟨by have:=hb.1;have:=HGN.o;have:=HGL.o;omega,hb.2⟩,by have:=hb.1;have:=HGN.o;omega⟩) (Nat.le_refl _))
 obtain⟨asl,csl,_,rfl,-⟩:=hqb
 have HGD:Xq (Kw (deep+1) M M1 5 [] (Xb hd ar) S .nil):=Xj (Js (.inr (.inr (.inr (.inl ⟨rfl,rfl,rfl,rfl⟩)))) HR.o.2.1 hb0 hb9 hw trivial (by simp only[Sf.cst];omega) hjc (by simp[Sf.nst]) hjr (by simp[Sf.hgt]))
 clear hjj hS hch hmk hb0 hb9 hw hqj hjc hjr HXN HRN HAN HCL
 have j4:=frozen_of_row _ g7 4 _ _ HRB.o
 have k4:=cell_of_row _ _ 4 _ _ _ HRB.o
 have jg7:=Xv HRB.o
 go_upto_region 7 with fail
 have HXS:=Xj (HXB.o.setTree ⟨_,_,_,HRB.o,.inr rfl⟩ HGL.o 4 (.slice asl S.len csl))
 have hrS:=heap_setCell_same _ g7 4 _ _ (.slice asl S.len csl) HRB.o
 have HRS:Xq ((wB.setCell ⟨g7,4,none⟩ (.slice asl S.len csl)).heap[g7]?=some (Ks 5 [] (.slice (some ⟨gq,0,none⟩) 1 1) (.slice asl S.len csl) (.slice none 0 0))):=Xj hrS
 have HAS:Xq (Xk (wB.setCell ⟨g7,4,none⟩ (.slice asl S.len csl)) (TB (g+1) M1) (Xb hd ar) (.slice (some ⟨gq,0,none⟩) 1 1)):=Xj (HAB.o.keep (λ b hb _=>⟨heap_setCell_other wB ⟨g7,4,none⟩ b _ hb.2,hb.1⟩) (by simp[World.setCell]))
 have HSS:Xq (Xf (wB.setCell ⟨g7,4,none⟩ (.slice asl S.len csl)) (TB (g+1) M1) S (.slice asl S.len csl)):=Xj (HSB.o.keep (λ b hb _=>⟨heap_setCell_other wB ⟨g7,4,none⟩ b _ hb.2,hb.1⟩) (by simp[World.setCell]))
 obtain⟨wS,hwS⟩:∃ wS,wB.setCell ⟨g7,4,none⟩ (.slice asl S.len csl)=wS:=⟨_,rfl⟩
 rw[hwS] at HXS HRS HAS HSS ⊢
 clear hwS hrS j4 k4 jg7 HXB HRB HAB HSB
 clear wB
 obtain⟨p0,p1,p2,p3,p4,p5⟩:=Xl HRS.o
 obtain⟨jl,f0,f1,f2,f3,f4,f5,r0,r1,r2,r3,r4,r5⟩:=HXS.o.cells
 go_wp2_with fail
 obtain⟨q0,q1,q2,q3,q4,q5,HF⟩:=HXS.o.fin (deep:=deep+1) HAS.o HSS.o (Xf.nil _ _) HGD.o _ rfl
 refine bodyPost_ret (v:=stv 5 0 [] (.slice (some ⟨gq,0,none⟩) 1 1) (.slice asl S.len csl) (.slice none 0 0)) (by simp[results,Tryz.results122,go_sem,q0,q1,q2,q3,q4,q5]) rfl ?_
 exact HF.o
theorem Kf {P:Program} {t:TypeId} {z:Option Value} {s b:Nat} (h:(P.info? t).map (λ i=>(i.zero,i.size,i.bytes))=some (z,s,b)):∃ i,Xq (P.info? t=some i/\i.zero=z/\i.size=s/\i.bytes=b):=by
 cases hp:P.info? t with
 | none=>rw[hp] at h;cases h
 | some i =>
  rw[hp] at h
  simp at h
  exact⟨i,Xj ⟨rfl,h.1,h.2.1,h.2.2⟩⟩
theorem Ug {deep:Nat} {M:Mk} {k:Int} {nm:Bt} {hd:Hd} {ar:Fo} (hS:okS k nm (Xb hd ar) .nil .nil) (hE:Zd 2 hd ar) (hb0:0<=M.bud) (hb9:M.ls.length+M.bud<=8):Kw deep M M k nm (Xb hd ar) .nil .nil :=
 Js hS hE hb0 (by omega) trivial trivial (by simp[Sf.cst]) (by simp[Sf.nst]) (by simp[Sf.nst]) (by simp[Sf.hgt]) (by simp[Sf.hgt])
theorem Yg.local {w w9:World} {gc gm g9 c9:Nat} {M:Mk} {nm:Bt} {ob:Obj} (h:Yg w gc gm M) (hn:okN nm) (hl:M.ls.length<=9) (hg:(w.alloc ob).grownBy w9 M.vl.ownBlock)
  (ho:w9.ownsRow (gm+1) 9 1 (.slice (some ⟨g9,0,none⟩) (M.ls.length+1) c9) (M.ls.length+1) (Qw M.ls++[.string (st nm)])) (h9:M.vl.ownBlock=some g9\/g9=(w.alloc ob).heap.size) (hne:∀ k,(M.va.ownBlock=some k\/M.vb.ownBlock=some k)->M.vl.ownBlock≠some k) :
  Yg (w9.setCell ⟨gm,3,none⟩ (.slice (some ⟨g9,0,none⟩) (M.ls.length+1) c9)) gc gm { M with vl:=.slice (some ⟨g9,0,none⟩) (M.ls.length+1) c9,ls:=M.ls++[nm] } /\
  Chg w (w9.setCell ⟨gm,3,none⟩ (.slice (some ⟨g9,0,none⟩) (M.ls.length+1) c9)) gc gm M { M with vl:=.slice (some ⟨g9,0,none⟩) (M.ls.length+1) c9,ls:=M.ls++[nm] }:=by
 have hA:=Xw w ob
 have hsA:(w.alloc ob).heap.size=w.heap.size+1:=by simp
 have hvl:∀ k,M.vl.ownBlock=some k->gm+1<=k/\k<w.heap.size:=λ k hk=>h.lo.lt k hk
 have hlt:=h.lt2
 have kp:∀ k,k<w.heap.size->M.vl.ownBlock≠some k->w9.heap[k]?=w.heap[k]?:=λ k hk hne=>(hg.block k (by omega) (λ e=>hne e.symm)).trans (hA.block k hk)
 have hs9:=hg.size
 have hjf:=Xu w9 gm 3 (.slice (some ⟨g9,0,none⟩) (M.ls.length+1) c9)
 have own2:∀ {e k n:Nat} {u:Value} {l:List Value},(∀ q,u.ownBlock=some q->M.vl.ownBlock≠some q)->w.ownsRow (gm+1) e k u n l->(w9.setCell ⟨gm,3,none⟩ (.slice (some ⟨g9,0,none⟩) (M.ls.length+1) c9)).ownsRow (gm+1) e k u n l:=λ hq h1 =>
  Yx (Yv h1 (λ q hq2=>kp q (h1.lt q hq2).2 (hq q hq2))) hjf (by omega)
 refine⟨{ h with
  cod:=?_,row:=?_,gl:=own2 (λ q hq=>hne q (.inl hq)) h.gl,fn:=own2 (λ q hq=>hne q (.inr hq)) h.fn,lo:=?_,lok:=?_,ln:=?_ },?_⟩
 ·exact(h.cod.keep λ k hk=>kp k (by omega) (λ e=>by have:=hvl k e;omega)).keep λ k hk=>heap_setCell_other w9 ⟨gm,3,none⟩ k _ (by show k≠gm;omega)
 ·exact heap_setCell_same _ gm 3 _ _ _ ((kp gm hlt.2 (λ e=>by have:=hvl gm e;omega)).trans h.row)
 ·have:=Yx ho hjf (by omega)
  simpa [Qw] using this
 ·intro l hl2
  rw[List.mem_append] at hl2
  rcases hl2 with hl2|hl2
  ·exact h.lok l hl2
  simp at hl2;subst hl2;exact hn
 ·show (M.ls++[nm]).length<=10
  simp;omega
 refine⟨hg.os.trans hA.os,hg.tape.trans hA.tape,hg.output.trans hA.output,by simp[World.setCell];omega,λ k hk h1 h2 h3=>(heap_setCell_other w9 ⟨gm,3,none⟩ k _ h2).trans (kp k hk (λ e=>h3 e.symm)),λ k hk hqm=>?_,rfl,rfl,rfl,rfl⟩
 have e1:g9=k:=by simpa [Value.ownBlock] using hk
 subst e1
 rcases h9 with h9|h9
 ·exact h9
 omega
theorem Wv {w:World} {b1 b2 e1 e2 k1 k2 n1 n2:Nat} {u v:Value} {l1 l2:List Value} (h1:w.ownsRow b1 e1 k1 u n1 l1) (h2:w.ownsRow b2 e2 k2 v n2 l2) (he:e1≠e2):∀ k,u.ownBlock=some k->v.ownBlock≠some k:=by
 intro k hk hv
 rcases h1.2 with⟨rfl,_⟩|⟨g,cap,cur,rfl,_,hg,_⟩
 ·cases hk
 rcases h2.2 with⟨rfl,_⟩|⟨g2,cap2,cur2,rfl,_,hg2,_⟩
 ·cases hv
 have a1:g=k:=by simpa [Value.ownBlock] using hk
 have a2:g2=k:=by simpa [Value.ownBlock] using hv
 subst a1 a2
 rw[hg] at hg2
 injection hg2 with hg2
 injection hg2 with _ hg2 _
 exact he hg2
theorem Ru {deep:Nat} {M:Mk} {nm:Bt} {h1 h2:Hd} {r1 r2:Fo} (hn:okN nm) (hE1:Zd 1 h1 r1) (hE2:Zd 2 h2 r2) (hb0:0<=M.bud) (hb9:M.ls.length+M.bud<=8):Kw deep M M 3 nm (.cons h1 r1 (Xb h2 r2)) .nil .nil:=by
 obtain⟨e1,e2,e3,e4,e5⟩:=hE1
 obtain⟨k1,k2,k3,k4,k5⟩:=hE2
 have hb1:bnd 1=246:=rfl
 have hb2:bnd 2=849:=rfl
 refine⟨hb0,by omega,⟨.inr (.inl ⟨rfl,hn,rfl,rfl,rfl⟩),rfl,⟨e1,e2,e3,k1,k2,k3,trivial⟩,trivial,trivial,trivial⟩,?_,?_,?_⟩
 ·show ((150+(own h1 r1.len+r1.cst+(own h2 r2.len+r2.cst+0))+0+0+0:Nat):Int)<=_
  omega
 ·show max (max 0 0+1) 0<=_
  omega
 show max (max (max (r1.dep+1) (max (r2.dep+1) 0)) (max 0 0)) 0<=3
 omega
theorem Sx (gc gm dp:Nat) (hdp:dp<=1000)
  (HB:∀ deep:Nat,dp=deep+1->∀ M W (most:Int),0<=most->most<=9->Yg W gc gm M->0<=M.bud->M.ls.length+M.bud<=9->Calls Tryz.prog 34 #[.pointer (some ⟨gm,0,none⟩),.int .i64 (deep:Int),.int .i64 most] W (Hw gc gm deep M W))
  (HP:∀ deep:Nat,dp=deep+1->∀ M W,Yg W gc gm M->0<=M.bud->M.ls.length+M.bud<=8->Calls Tryz.prog 122 #[.pointer (some ⟨gm,0,none⟩),.int .i64 ((deep:Int)+1)] W (Ku gc gm (deep+1) M W))
  (M:Mk) (w:World) (h:Yg w gc gm M) (h0:0<=M.bud) (h8:M.ls.length+M.bud<=8) :
  Calls Tryz.prog 70 #[.pointer (some ⟨gm,0,none⟩),.int .i64 (dp:Int)] w (Ku gc gm dp M w):=by
 have HBK:=Xj HB
 have HLP:=Xj HP
 have HM:=Xj h
 have HH:=Xj (And.intro h0 h8)
 have hx:=StW.start h
 have HEX:=Xj (λ (d:Nat) (hd:d<=1000) W (hW:Yg W gc gm M)=>Gf gc gm d M hd W hW)
 have HCA:=Xj (λ W (hW:Yg W gc gm M)=>Bu gc gm M W hW)
 have HPK:=Xj (λ arr W (hW:Yg W gc gm M)=>Wf gc gm M arr W hW)
 have HFR:=Xj (λ W (hW:Yg W gc gm M)=>Al gc gm M W hW)
 clear HB HP h0 h8
 go_enter Tryz.func70,Tryz.ntmps70
 go_upto_region 1 with fail
 obtain⟨w1,hw1⟩:∃ w1,w.alloc zst=w1:=⟨_,rfl⟩
 rw[hw1] at hx ⊢
 obtain⟨g,hg⟩:∃ g,w.heap.size=g:=⟨_,rfl⟩
 rw[hg] at hx ⊢
 have HX:=Xj hx
 have HC:Xq (∀ wx,StW w gc gm M M g wx->wx.cell? ⟨gm,0,none⟩=some (.pointer (some ⟨gc,0,none⟩))/\wx.cell? ⟨gm,3,none⟩=some M.vl/\gm<wx.heap.size/\wx.frozen? ⟨gm,3,none⟩=false):=Xj (λ wx h=>⟨cell_of_row _ _ 0 _ _ _ h.mkr.row,cell_of_row _ _ 3 _ _ _ h.mkr.row,Xv h.mkr.row,frozen_of_row _ gm 3 _ _ h.mkr.row⟩)
 have HLC:Xq (gc<g/\gm<g):=Xj ⟨hx.lc,hx.lm⟩
 clear hw1 hx h hg
 obtain⟨c0,c3,jm,f3⟩:=HC.o _ HX.o
 go_wp2_with fail
 refine(Yj gc 10 (by omega) _ HX.o.mkr.cod).mono ?_
 rintro e w2 ⟨y,rfl,y0,y1,hH,hg⟩
 have HX2:=Xj (HX.o.grown hg hH)
 have y2:y<10:=by omega
 clear hH hg HX c0 c3 jm f3 y1
 clear w1
 go_upto_block 0 with fail
 go_cut [6,7,8,9,10,11,12,13] from 20 to 140 (λ v6 v7 v8 v9 v10 v11 v12 v13 wx=>Xq (StW w gc gm M M g wx))
 case first =>
  by_cases e0:y=0
  ·subst e0
   clear y0 y2
   go_wp2_with fail
   refine(HFR.o _ HX2.o.mkr).mono ?_
   rintro e w3 ⟨hb3,nm,ok,rfl,hok⟩
   have HX3:=Xj (HX2.o.below hb3)
   clear hb3
   cases ok
   ·go_wp2_with fail
    go_meet
    exact HX3
   have HNM:=Xj (hok rfl)
   clear hok
   go_wp2_with fail
   refine(HEX.o 2 (by omega) _ HX3.o.mkr).mono ?_
   intro e w4 hp
   obtain⟨hd4,ar4,a4,k4,rfl,HR4⟩:=hp.open
   clear hp
   have HX4:=Xj (HX3.o.grown HR4.o.2.2.2 HR4.o.2.2.1)
   go_wp2_with fail
   refine(Zc 1 _ hd4 a4 ar4.len k4 _).mono ?_
   rintro e w5 ⟨gq,rfl,hgq,hrq,hbO⟩
   have HX5:=Xj (HX4.o.below hbO)
   have HA5:Xq (Xk w5 (TB (g+1) M) (Xb hd4 ar4) (.slice (some ⟨gq,0,none⟩) 1 1)):=Xj (Ym hrq (HR4.o.1.keep (λ b hb hlt=>⟨hbO.block b hlt,TB.of HX3.o.mkr HX3.o.lts b hb⟩) hbO.size) (TB.of HX3.o.mkr HX3.o.lts gq (by have:=HR4.o.2.2.2.size;omega)))
   clear hgq hrq hbO
   have hb6:=Xw w5 (.cells #[.int .i64 1,.int .i64 0,.string (st nm),.slice (some ⟨gq,0,none⟩) 1 1,.slice none 0 0,.slice none 0 0] 110)
   have hr6:=heap_alloc_new w5 (.cells #[.int .i64 1,.int .i64 0,.string (st nm),.slice (some ⟨gq,0,none⟩) 1 1,.slice none 0 0,.slice none 0 0] 110)
   have HX6:=Xj (HX5.o.below hb6)
   have HG6:Xq (g<w5.heap.size):=Xj HX5.o.lts
   have HA6:Xq (Xk (w5.alloc (.cells #[.int .i64 1,.int .i64 0,.string (st nm),.slice (some ⟨gq,0,none⟩) 1 1,.slice none 0 0,.slice none 0 0] 110)) (TB (g+1) M) (Xb hd4 ar4) (.slice (some ⟨gq,0,none⟩) 1 1)):=Xj (HA5.o.keep (λ b hb hlt=>⟨hb6.block b hlt,hb⟩) hb6.size)
   go_upto_region 8 with fail
   obtain⟨w6,hw6⟩:∃ wx,w5.alloc (.cells #[.int .i64 1,.int .i64 0,.string (st nm),.slice (some ⟨gq,0,none⟩) 1 1,.slice none 0 0,.slice none 0 0] 110)=wx:=⟨_,rfl⟩
   obtain⟨g8,hg8⟩:∃ gx,w5.heap.size=gx:=⟨_,rfl⟩
   rw[hw6] at hr6 HX6 HA6 ⊢
   rw[hg8] at hr6 HG6 ⊢
   have HR6:=Xj hr6
   clear hb6 hr6 hw6 hg8 HX5 HA5 HX3 HX4
   obtain⟨al,cl,hvl,-,hzd,hvp,-⟩:=Ev.of_own HX6.o.mkr.lo
   obtain⟨c0,c3,jm,f3⟩:=HC.o _ HX6.o
   have hvs:M.vl=.slice al M.ls.length cl:=hvl
   have HVL:=Xj hvs
   rw[hvs] at c3
   clear hvl hvs
   have HOA:Xq ((w6.alloc (.cells #[.string (st nm)] 9)).ownsRow (gm+1) 9 1 (.slice al M.ls.length cl) M.ls.length (Qw M.ls)):=Xj (by rw[<- HVL.o];exact HX6.o.mkr.lo.alloc _)
   obtain⟨i0,HI⟩:=Kf Tryz.infoStr
   have hln:M.ls.length<=9:=by have:=HH.o;omega
   have hgm6:gm+1<=w6.heap.size+1:=by omega
   go_upto_region 9 with(at_builtin;refine wpList_append_lies _ rfl _ _ _ rfl (gm+1) 9 i0 _ 1 16 Tryz.underlying42 HI.o.1 HI.o.2.1 HI.o.2.2.1 HI.o.2.2.2 rfl (by omega) _ _ _ rfl HOA.o ⟨w6.heap.size,0,none⟩ 1 1 [.string (st nm)] rfl rfl (World.news_of_block (cs := #[.string (st nm)]) (t:=9) (fr:=(0,0)) (heap_alloc_new w6 _)) (by simp[Value.oneCell']) (by omega) (by unfold maxLen;omega) (by omega) (by simp;omega) _ rfl ?_;intro g9 c9 w9 hown9 hgrow9 hor9 hlt9;have hqq:=(hgrow9.block gm (by simp;omega) (λ e=>by have:=(HOA.o.lt gm e.symm).1;omega)).trans ((Below.heap_alloc w6 _ gm jm).trans HX6.o.mkr.row);have k3:=cell_of_row _ _ 3 _ _ _ hqq;have k3f:=frozen_of_row _ gm 3 _ _ hqq;have k3j:=Xv hqq;have HO9:=Xj hown9;have HG9:=Xj hgrow9;have HR9:=Xj hor9;clear hown9 hgrow9 hor9 hlt9 hqq)
   have hqd:=Yg.local (nm:=nm) HX6.o.mkr HNM.o hln (by rw[HVL.o];exact HG9.o) HO9.o (by rw[HVL.o];exact HR9.o) (λ k hk=>by
    rcases hk with hk|hk
    ·exact Wv HX6.o.mkr.gl HX6.o.mkr.lo (by decide) k hk
    exact Wv HX6.o.mkr.fn HX6.o.mkr.lo (by decide) k hk)
   have HXL:=Xj (HX6.o.step hqd.2 hqd.1)
   have HAL:=Xj (HA6.o.chg hqd.2 (by have:=HLC.o;omega) (by have:=HLC.o;omega))
   have HRL:=Xj (Ju hqd.2 HX6.o.mkr HR6.o ⟨_,_,_,HR6.o,.inr rfl⟩ (by have:=HLC.o;have:=HG6.o;omega) (by have:=HLC.o;have:=HG6.o;omega))
   obtain⟨wL,hwL⟩:∃ wx,w9.setCell ⟨gm,3,none⟩ (.slice (some ⟨g9,0,none⟩) (M.ls.length+1) c9)=wx:=⟨_,rfl⟩
   rw[hwL] at HXL HAL HRL ⊢
   clear hwL hqd k3 k3f k3j c0 c3 jm f3
   obtain⟨p0,p1,p2,p3,p4,p5⟩:=Xl HRL.o
   obtain⟨jl,f0,f1,f2,f3,f4,f5,r0,r1,r2,r3,r4,r5⟩:=HXL.o.cells
   go_wp2_with fail
   obtain⟨q0,q1,q2,q3,q4,q5,HF⟩:=HXL.o.fin (deep:=dp) (k:=1) (nm:=nm) HAL.o (Xf.nil _ _) (Xf.nil _ _) (Js (.inl ⟨.inl rfl,HNM.o,rfl,rfl,rfl⟩) HR4.o.2.1 HH.o.1 (by show (((M.ls++[nm]).length:Nat):Int)+M.bud<=9;have:=HH.o.2;simp;omega) trivial trivial (by show (((0:Nat):Int)+((0:Nat):Int))<=301+1300*(M.bud-M.bud);omega) (by simp[Sf.nst]) (by simp[Sf.nst]) (by simp[Sf.hgt]) (by simp[Sf.hgt])) _ rfl
   refine bodyPost_ret (v:=stv 1 0 nm (.slice (some ⟨gq,0,none⟩) 1 1) (.slice none 0 0) (.slice none 0 0)) (by simp[results,Tryz.results70,go_sem,q0,q1,q2,q3,q4,q5]) rfl ?_
   exact HF.o
  by_cases e1:y=1
  ·subst e1
   clear y0 y2
   go_wp2_with fail
   refine(HFR.o _ HX2.o.mkr).mono ?_
   rintro e w3 ⟨hb3,nm,ok,rfl,hok⟩
   have HX3:=Xj (HX2.o.below hb3)
   clear hb3
   cases ok
   ·go_wp2_with fail
    go_meet
    exact HX3
   have HNM:=Xj (hok rfl)
   clear hok
   go_wp2_with fail
   refine(HEX.o 2 (by omega) _ HX3.o.mkr).mono ?_
   intro e w4 hp
   obtain⟨hd4,ar4,a4,k4,rfl,HR4⟩:=hp.open
   clear hp
   have HX4:=Xj (HX3.o.grown HR4.o.2.2.2 HR4.o.2.2.1)
   go_wp2_with fail
   refine(Zc 1 _ hd4 a4 ar4.len k4 _).mono ?_
   rintro e w5 ⟨gq,rfl,hgq,hrq,hbO⟩
   have HX5:=Xj (HX4.o.below hbO)
   have HA5:Xq (Xk w5 (TB (g+1) M) (Xb hd4 ar4) (.slice (some ⟨gq,0,none⟩) 1 1)):=Xj (Ym hrq (HR4.o.1.keep (λ b hb hlt=>⟨hbO.block b hlt,TB.of HX3.o.mkr HX3.o.lts b hb⟩) hbO.size) (TB.of HX3.o.mkr HX3.o.lts gq (by have:=HR4.o.2.2.2.size;omega)))
   clear hgq hrq hbO
   have hb6:=Xw w5 (.cells #[.int .i64 1,.int .i64 0,.string (st nm),.slice (some ⟨gq,0,none⟩) 1 1,.slice none 0 0,.slice none 0 0] 110)
   have hr6:=heap_alloc_new w5 (.cells #[.int .i64 1,.int .i64 0,.string (st nm),.slice (some ⟨gq,0,none⟩) 1 1,.slice none 0 0,.slice none 0 0] 110)
   have HX6:=Xj (HX5.o.below hb6)
   have HG6:Xq (g<w5.heap.size):=Xj HX5.o.lts
   have HA6:Xq (Xk (w5.alloc (.cells #[.int .i64 1,.int .i64 0,.string (st nm),.slice (some ⟨gq,0,none⟩) 1 1,.slice none 0 0,.slice none 0 0] 110)) (TB (g+1) M) (Xb hd4 ar4) (.slice (some ⟨gq,0,none⟩) 1 1)):=Xj (HA5.o.keep (λ b hb hlt=>⟨hb6.block b hlt,hb⟩) hb6.size)
   go_upto_region 8 with fail
   obtain⟨w6,hw6⟩:∃ wx,w5.alloc (.cells #[.int .i64 1,.int .i64 0,.string (st nm),.slice (some ⟨gq,0,none⟩) 1 1,.slice none 0 0,.slice none 0 0] 110)=wx:=⟨_,rfl⟩
   obtain⟨g8,hg8⟩:∃ gx,w5.heap.size=gx:=⟨_,rfl⟩
   rw[hw6] at hr6 HX6 HA6 ⊢
   rw[hg8] at hr6 HG6 ⊢
   have HR6:=Xj hr6
   clear hb6 hr6 hw6 hg8 HX5 HA5 HX3 HX4
   obtain⟨al,cl,hvl,-,hzd,hvp,-⟩:=Ev.of_own HX6.o.mkr.lo
   obtain⟨c0,c3,jm,f3⟩:=HC.o _ HX6.o
   have hvs:M.vl=.slice al M.ls.length cl:=hvl
   have HVL:=Xj hvs
   rw[hvs] at c3
   clear hvl hvs
   have HOA:Xq ((w6.alloc (.cells #[.string (st nm)] 9)).ownsRow (gm+1) 9 1 (.slice al M.ls.length cl) M.ls.length (Qw M.ls)):=Xj (by rw[<- HVL.o];exact HX6.o.mkr.lo.alloc _)
   obtain⟨i0,HI⟩:=Kf Tryz.infoStr
   have hln:M.ls.length<=9:=by have:=HH.o;omega
   have hgm6:gm+1<=w6.heap.size+1:=by omega
   go_upto_region 9 with(at_builtin;refine wpList_append_lies _ rfl _ _ _ rfl (gm+1) 9 i0 _ 1 16 Tryz.underlying42 HI.o.1 HI.o.2.1 HI.o.2.2.1 HI.o.2.2.2 rfl (by omega) _ _ _ rfl HOA.o ⟨w6.heap.size,0,none⟩ 1 1 [.string (st nm)] rfl rfl (World.news_of_block (cs := #[.string (st nm)]) (t:=9) (fr:=(0,0)) (heap_alloc_new w6 _)) (by simp[Value.oneCell']) (by omega) (by unfold maxLen;omega) (by omega) (by simp;omega) _ rfl ?_;intro g9 c9 w9 hown9 hgrow9 hor9 hlt9;have hqq:=(hgrow9.block gm (by simp;omega) (λ e=>by have:=(HOA.o.lt gm e.symm).1;omega)).trans ((Below.heap_alloc w6 _ gm jm).trans HX6.o.mkr.row);have k3:=cell_of_row _ _ 3 _ _ _ hqq;have k3f:=frozen_of_row _ gm 3 _ _ hqq;have k3j:=Xv hqq;have HO9:=Xj hown9;have HG9:=Xj hgrow9;have HR9:=Xj hor9;clear hown9 hgrow9 hor9 hlt9 hqq)
   have hqd:=Yg.local (nm:=nm) HX6.o.mkr HNM.o hln (by rw[HVL.o];exact HG9.o) HO9.o (by rw[HVL.o];exact HR9.o) (λ k hk=>by
    rcases hk with hk|hk
    ·exact Wv HX6.o.mkr.gl HX6.o.mkr.lo (by decide) k hk
    exact Wv HX6.o.mkr.fn HX6.o.mkr.lo (by decide) k hk)
   have HXL:=Xj (HX6.o.step hqd.2 hqd.1)
   have HAL:=Xj (HA6.o.chg hqd.2 (by have:=HLC.o;omega) (by have:=HLC.o;omega))
   have HRL:=Xj (Ju hqd.2 HX6.o.mkr HR6.o ⟨_,_,_,HR6.o,.inr rfl⟩ (by have:=HLC.o;have:=HG6.o;omega) (by have:=HLC.o;have:=HG6.o;omega))
   obtain⟨wL,hwL⟩:∃ wx,w9.setCell ⟨gm,3,none⟩ (.slice (some ⟨g9,0,none⟩) (M.ls.length+1) c9)=wx:=⟨_,rfl⟩
   rw[hwL] at HXL HAL HRL ⊢
   clear hwL hqd k3 k3f k3j c0 c3 jm f3
   obtain⟨p0,p1,p2,p3,p4,p5⟩:=Xl HRL.o
   obtain⟨jl,f0,f1,f2,f3,f4,f5,r0,r1,r2,r3,r4,r5⟩:=HXL.o.cells
   go_wp2_with fail
   obtain⟨q0,q1,q2,q3,q4,q5,HF⟩:=HXL.o.fin (deep:=dp) (k:=1) (nm:=nm) HAL.o (Xf.nil _ _) (Xf.nil _ _) (Js (.inl ⟨.inl rfl,HNM.o,rfl,rfl,rfl⟩) HR4.o.2.1 HH.o.1 (by show (((M.ls++[nm]).length:Nat):Int)+M.bud<=9;have:=HH.o.2;simp;omega) trivial trivial (by show (((0:Nat):Int)+((0:Nat):Int))<=301+1300*(M.bud-M.bud);omega) (by simp[Sf.nst]) (by simp[Sf.nst]) (by simp[Sf.hgt]) (by simp[Sf.hgt])) _ rfl
   refine bodyPost_ret (v:=stv 1 0 nm (.slice (some ⟨gq,0,none⟩) 1 1) (.slice none 0 0) (.slice none 0 0)) (by simp[results,Tryz.results70,go_sem,q0,q1,q2,q3,q4,q5]) rfl ?_
   exact HF.o
  by_cases e2:y=2
  ·subst e2
   clear y0 y2
   by_cases hn0:M.ls.length=0
   ·obtain⟨al,cl,hvl,-,-,-,-⟩:=Ev.of_own HX2.o.mkr.lo
    obtain⟨c0,c3,jm,f3⟩:=HC.o _ HX2.o
    rw[hvl,hn0] at c3
    clear hvl hn0
    go_wp2_with fail
    go_meet
    exact HX2
   obtain⟨n,hn⟩:∃ n,M.ls.length=n:=⟨_,rfl⟩
   have hn1:n<=10:=by have:=HM.o.ln;omega
   obtain⟨bl,cl,hvl,hl1,hl2,hb1,hb2,hqc⟩:=Sd HX2.o.mkr (by omega)
   obtain⟨c0,c3,jm,f3⟩:=HC.o _ HX2.o
   rw[hvl] at c3
   rw[hn] at c3 hl1 hqc hn0
   have HN:=Xj hn
   have HRW:=Xj hqc
   have HBG:Xq (gm<bl/\bl<g):=Xj ⟨hb1,by
    have:=(HM.o.lo.lt bl (by rw[hvl];rfl)).2
    have:=HX2.o.eg;omega⟩
   clear hvl hqc hn hb1 hb2
   have dn:decide ((0:Int)<(n:Int))=true:=by rw[decide_eq_true_iff];omega
   go_upto_region 12 with fail
   clear c0 c3 jm f3
   refine wp_region_held_drew (S:=(λ w'=>w'.cell? ⟨gm,0,none⟩=some (.pointer (some ⟨gc,0,none⟩))/\w'.cell? ⟨gm,3,none⟩=some (.slice (some ⟨bl,0,none⟩) n cl)/\∀ j x,M.ls[j]?=some x->w'.cell? ⟨bl,j,none⟩=some (.string (st x)))) (by kernel_rfl) (HRW.o _ (Xr w2 1 _)) (λ hJ=>?_)
   refine tkH 0 52 ?_
   refine tkH 1 53 ?_
   refine tkH 2 54 ?_
   refine tkH 3 55 ?_
   refine tkH 4 56 ?_
   refine tkH 5 57 ?_
   refine tkH 6 58 ?_
   refine tkH 7 59 ?_
   refine tkH 8 60 ?_
   refine tkH 9 61 ?_
   refine tkH 13 65 ?_
   refine rdH 10 λ K hK=>?_
   go_simp
   refine(Yj gc n (by omega) _ HX2.o.mkr.cod.drew).mono ?_
   rintro e w3 ⟨z,rfl,z0,z1,hH,hg0⟩
   obtain⟨z,rfl⟩:=Int.eq_ofNat_of_zero_le z0
   have z2:z<n:=by omega
   have z3:(z:Int)<(n:Int):=by omega
   obtain⟨nm,hnm⟩:∃ nm,M.ls[z]?=some nm:=⟨_,List.getElem?_eq_getElem (by rw[HN.o];exact z2)⟩
   have HNM:Xq (okN nm):=Xj (HM.o.lok nm (List.mem_of_getElem? hnm))
   have hg:=Xp (Xr w2 1 (some gc)) hg0
   have HX3:=Xj (HX2.o.grown hg hH)
   refine goH hK (HRW.o _ hg) λ hJ=>?_
   clear hK K hg0 hH z1
   refine tkH 11 63 ?_
   refine Xh (i:=12) (d:=some 64) (v:=.string (st nm)) rfl (by kernel_rfl) (by kernel_rfl) (by kernel_rfl) (by kernel_rfl) (λ _ _ _ h=>h) (Or.inl ⟨by kernel_rfl,?_⟩) (by assumption) ?_
   ·(intro w hSw;have hcx:=hSw.2.2 z nm hnm;go_simp;try with_reducible rfl)
   refine Xz ?_
   refine rdH 14 λ K hK=>?_
   go_simp
   refine(HEX.o 2 (by omega) _ HX3.o.mkr).mono ?_
   intro e w4 hp
   obtain⟨hd4,ar4,a4,k4,rfl,HR4⟩:=hp.open
   clear hp
   have HX4:=Xj (HX3.o.grown HR4.o.2.2.2 HR4.o.2.2.1)
   have HA4:=Xj (HR4.o.1.keep (Q:=TB (g+1) M) (λ b hb _=>⟨rfl,TB.of HX3.o.mkr HX3.o.lts b hb⟩) (Nat.le_refl _))
   have hgr4:=Xp hg HR4.o.2.2.2
   refine goH hK (HRW.o _ hgr4) λ hJ=>?_
   clear hK K
   refine rdH 15 λ K hK=>?_
   go_simp
   refine(Zc _ _ hd4 a4 ar4.len k4 _).mono ?_
   rintro e w5 ⟨gq,rfl,hgq,hrq,hbO⟩
   have HX5:=Xj (HX4.o.below hbO)
   have HA5:Xq (Xk w5 (TB (g+1) M) (Xb hd4 ar4) (.slice (some ⟨gq,0,none⟩) 1 1)):=Xj (Ym hrq (HA4.o.keep (λ b hb hlt=>⟨hbO.block b hlt,hb⟩) hbO.size) (TB.of HX4.o.mkr HX4.o.lts gq hgq))
   have hgr5:=Xp hgr4 (Xm hbO (some gc))
   refine goH hK (HRW.o _ hgr5) λ hJ=>?_
   clear hK K hgq hrq hbO
   obtain⟨jl,f0,f1,f2,f3,f4,f5,r0,r1,r2,r3,r4,r5⟩:=HX5.o.cells
   refine rdH 16 λ K hK=>?_
   go_simp
   refine goH hK ⟨Xy (b:=g) (b':=gm) (by have:=HLC.o;omega) hJ.1,Xy (b:=g) (b':=gm) (by have:=HLC.o;omega) hJ.2.1,λ j x hj=>Xy (b:=g) (b':=bl) (by have:=HBG.o;omega) (hJ.2.2 j x hj)⟩ λ hJ=>?_
   clear hK K
   refine wpAnyH_done (by kernel_rfl) ?_ _
   go_wp2_with fail
   obtain⟨q0,q1,q2,q3,q4,q5,HF⟩:=HX5.o.fin (deep:=dp) (k:=2) (nm:=nm) HA5.o (Xf.nil _ _) (Xf.nil _ _) (Ug (.inl ⟨.inr rfl,HNM.o,rfl,rfl,rfl⟩) HR4.o.2.1 HH.o.1 HH.o.2) _ rfl
   refine bodyPost_ret (v:=stv 2 0 nm (.slice (some ⟨gq,0,none⟩) 1 1) (.slice none 0 0) (.slice none 0 0)) (by simp[results,Tryz.results70,go_sem,q0,q1,q2,q3,q4,q5]) rfl ?_
   exact HF.o
  by_cases e3:y=3
  ·subst e3
   clear y0 y2
   go_wp2_with fail
   refine(HPK.o false _ HX2.o.mkr).mono ?_
   rintro e w3 ⟨nm,ok,rfl,hpk,hH,hg⟩
   have HX3:=Xj (HX2.o.grown hg hH)
   cases ok
   ·clear hpk hg hH
    go_wp2_with fail
    go_meet
    exact HX3
   have HNM:=Xj ((hpk rfl).nm HM.o)
   clear hpk hg hH
   go_wp2_with fail
   refine(HEX.o 2 (by omega) _ HX3.o.mkr).mono ?_
   intro e w4 hp
   obtain⟨hd4,ar4,a4,k4,rfl,HR4⟩:=hp.open
   clear hp
   have HX4:=Xj (HX3.o.grown HR4.o.2.2.2 HR4.o.2.2.1)
   go_wp2_with fail
   refine(Zc 2 _ hd4 a4 ar4.len k4 _).mono ?_
   rintro e w5 ⟨gq,rfl,hgq,hrq,hbO⟩
   have HX5:=Xj (HX4.o.below hbO)
   have HA5:Xq (Xk w5 (TB (g+1) M) (Xb hd4 ar4) (.slice (some ⟨gq,0,none⟩) 1 1)):=Xj (Ym hrq (HR4.o.1.keep (λ b hb hlt=>⟨hbO.block b hlt,TB.of HX3.o.mkr HX3.o.lts b hb⟩) hbO.size) (TB.of HX3.o.mkr HX3.o.lts gq (by have:=HR4.o.2.2.2.size;omega)))
   clear hgq hrq hbO
   obtain⟨jl,f0,f1,f2,f3,f4,f5,r0,r1,r2,r3,r4,r5⟩:=HX5.o.cells
   go_wp2_with fail
   obtain⟨q0,q1,q2,q3,q4,q5,HF⟩:=HX5.o.fin (deep:=dp) (k:=2) (nm:=nm) HA5.o (Xf.nil _ _) (Xf.nil _ _) (Ug (.inl ⟨.inr rfl,HNM.o,rfl,rfl,rfl⟩) HR4.o.2.1 HH.o.1 HH.o.2) _ rfl
   refine bodyPost_ret (v:=stv 2 0 nm (.slice (some ⟨gq,0,none⟩) 1 1) (.slice none 0 0) (.slice none 0 0)) (by simp[results,Tryz.results70,go_sem,q0,q1,q2,q3,q4,q5]) rfl ?_
   exact HF.o
  by_cases e4:y=4
  ·subst e4
   clear y0 y2
   go_wp2_with fail
   refine(HPK.o true _ HX2.o.mkr).mono ?_
   rintro e w3 ⟨nm,ok,rfl,hpk,hH,hg⟩
   have HX3:=Xj (HX2.o.grown hg hH)
   cases ok
   ·clear hpk hg hH
    go_wp2_with fail
    go_meet
    exact HX3
   have HNM:=Xj ((hpk rfl).nm HM.o)
   clear hpk hg hH
   go_wp2_with fail
   refine(HEX.o 1 (by omega) _ HX3.o.mkr).mono ?_
   intro e w4 hp
   obtain⟨hd4,ar4,a4,k4,rfl,HR4⟩:=hp.open
   clear hp
   have HX4:=Xj (HX3.o.grown HR4.o.2.2.2 HR4.o.2.2.1)
   go_wp2_with fail
   refine(HEX.o 2 (by omega) _ HX4.o.mkr).mono ?_
   intro e w5 hp
   obtain⟨hd5,ar5,a5,k5,rfl,HR5⟩:=hp.open
   clear hp
   have HX5:=Xj (HX4.o.grown HR5.o.2.2.2 HR5.o.2.2.1)
   have HFA:Xq (Zb w5 (TB (g+1) M) (.cons hd4 ar4 (Xb hd5 ar5)) (hdc hd4 (.slice a4 ar4.len k4)++hdc hd5 (.slice a5 ar5.len k5))):=Xj (Zb.app (F:=Xb hd4 ar4) (Xk.one (HR4.o.1.keep (λ b hb hlt=>⟨HR5.o.2.2.2.block b hlt (by simp;have:=HLC.o;have:=HX3.o.lts;omega),TB.of HX3.o.mkr HX3.o.lts b hb⟩) HR5.o.2.2.2.size)) (Xk.one (HR5.o.1.keep (λ b hb _=>⟨rfl,TB.of HX4.o.mkr HX4.o.lts b hb⟩) (Nat.le_refl _))))
   have HAN:=Xj (Zh (Q:=TB (g+1) M) HFA.o (by simp[Fo.len,maxLen]) (λ b hb _=>hb) (TB.of HX5.o.mkr HX5.o.lts _ (Nat.le_refl _)))
   have HXN:=Xj (HX5.o.below (Xw w5 (.cells (hdc hd4 (.slice a4 ar4.len k4)++hdc hd5 (.slice a5 ar5.len k5)).toArray 37)))
   have hg5:g<w5.heap.size:=HX5.o.lts
   obtain⟨jl,f0,f1,f2,f3,f4,f5,r0,r1,r2,r3,r4,r5⟩:=HX5.o.cells
   go_wp2_with fail
   obtain⟨q0,q1,q2,q3,q4,q5,HF⟩:=HXN.o.fin (deep:=dp) (k:=3) (nm:=nm) (slx:=.slice (some ⟨w5.heap.size,0,none⟩) 2 2) HAN.o (Xf.nil _ _) (Xf.nil _ _) (Ru HNM.o HR4.o.2.1 HR5.o.2.1 HH.o.1 HH.o.2) _ (Zx _ hg5).symm
   simp only[List.cons_append,List.nil_append] at q0 q1 q2 q3 q4 q5
   refine bodyPost_ret (v:=stv 3 0 nm (.slice (some ⟨w5.heap.size,0,none⟩) 2 2) (.slice none 0 0) (.slice none 0 0)) (by simp[results,Tryz.results70,go_sem,q0,q1,q2,q3,q4,q5]) rfl ?_
   exact HF.o
  by_cases e5:y=5
  ·subst e5
   clear y0 y2
   by_cases hd0:dp=0
   ·have dd:decide ((0:Int)<(dp:Int))=false:=by rw[decide_eq_false_iff_not];omega
    go_wp2_with fail
    go_meet
    exact HX2
   obtain⟨deep,rfl⟩:∃ deep,dp=deep+1:=⟨dp-1,by omega⟩
   have HBD:=Xj (HBK.o deep rfl)
   have ec:(((deep+1:Nat)):Int)=(deep:Int)+1:=by omega
   have dd:decide ((0:Int)<(deep:Int)+1)=true:=by rw[decide_eq_true_iff];omega
   rw[ec]
   clear ec
   go_wp2_with fail
   refine(HEX.o 2 (by omega) _ HX2.o.mkr).mono ?_
   intro e w4 hp
   obtain⟨hd4,ar4,a4,k4,rfl,HR4⟩:=hp.open
   clear hp
   have HX4:=Xj (HX2.o.grown HR4.o.2.2.2 HR4.o.2.2.1)
   go_wp2_with fail
   refine(Zc 4 _ hd4 a4 ar4.len k4 _).mono ?_
   rintro e w5 ⟨gq,rfl,hgq,hrq,hbO⟩
   have HX5:=Xj (HX4.o.below hbO)
   have HA5:Xq (Xk w5 (TB (g+1) M) (Xb hd4 ar4) (.slice (some ⟨gq,0,none⟩) 1 1)):=Xj (Ym hrq (HR4.o.1.keep (λ b hb hlt=>⟨hbO.block b hlt,TB.of HX2.o.mkr HX2.o.lts b hb⟩) hbO.size) (TB.of HX2.o.mkr HX2.o.lts gq (by have:=HR4.o.2.2.2.size;omega)))
   clear hgq hrq hbO
   have hbL:=Xw w5 (.cells #[.int .i64 4,.int .i64 0,.string { data := #[] },.slice (some ⟨gq,0,none⟩) 1 1,.slice none 0 0,.slice none 0 0] 110)
   have hrL:=heap_alloc_new w5 (.cells #[.int .i64 4,.int .i64 0,.string { data := #[] },.slice (some ⟨gq,0,none⟩) 1 1,.slice none 0 0,.slice none 0 0] 110)
   have HXL:=Xj (HX5.o.below hbL)
   have HGL:Xq (g<w5.heap.size):=Xj HX5.o.lts
   have HAL:Xq (Xk (w5.alloc (.cells #[.int .i64 4,.int .i64 0,.string { data := #[] },.slice (some ⟨gq,0,none⟩) 1 1,.slice none 0 0,.slice none 0 0] 110)) (λ b=>TB (g+1) M b/\b≠w5.heap.size) (Xb hd4 ar4) (.slice (some ⟨gq,0,none⟩) 1 1)):=Xj (HA5.o.keep (λ b hb hlt=>⟨hbL.block b hlt,hb,by omega⟩) hbL.size)
   go_upto_region 25 with fail
   obtain⟨wL,hwL⟩:∃ wL,w5.alloc (.cells #[.int .i64 4,.int .i64 0,.string { data := #[] },.slice (some ⟨gq,0,none⟩) 1 1,.slice none 0 0,.slice none 0 0] 110)=wL:=⟨_,rfl⟩
   obtain⟨g7,hg7⟩:∃ g7,w5.heap.size=g7:=⟨_,rfl⟩
   rw[hwL] at hrL HXL HAL ⊢
   rw[hg7] at hrL HAL HGL ⊢
   have HRL:=Xj hrL
   clear hwL hg7 hrL hbL HX4 HX5 HA5 HX2
   go_wp2_with fail
   refine(Yj gc 2 (by omega) _ HXL.o.mkr.cod).mono ?_
   rintro e wN ⟨z,rfl,z0,z1,hH,hg⟩
   have z2:z<2:=by omega
   have HXN:=Xj (HXL.o.grown hg hH)
   have HRN:Xq (wN.heap[g7]?=some (Ks 4 [] (.slice (some ⟨gq,0,none⟩) 1 1) (.slice none 0 0) (.slice none 0 0))):=Xj ((hg.block g7 (Xv HRL.o) (by simp;have:=HLC.o;have:=HGL.o;omega)).trans HRL.o)
   have HAN:=Xj (HAL.o.keep (Q:=λ b=>TB (g+1) M b/\b≠g7) (λ b hb hlt=>⟨hg.block b hlt (by simp;have:=hb.1.1;have:=HLC.o;omega),hb⟩) hg.size)
   clear hH hg HXL HRL HAL
   clear wL
   have Ho:=HBD.o M wN (1+z) (by omega) (by omega) HXN.o.mkr HH.o.1 (by have:=HH.o.2;omega)
   have HCL:=Xj Ho
   clear Ho z1
   go_wp2_with fail
   refine HCL.o.mono ?_
   rintro e wB ⟨S,sl,xs,M1,rfl,hjj,hS,hch,hmk,hb0,hb9,hw,hqj,hjc,hjr⟩
   have HXB:=Xj (HXN.o.step hch hmk)
   have HRB:=Xj (Ju hch HXN.o.mkr HRN.o ⟨_,_,_,HRN.o,.inr rfl⟩ (by have:=HLC.o;have:=HGL.o;omega) (by have:=HLC.o;have:=HGL.o;omega))
   have HAB:Xq (Xk wB (λ b=>TB (g+1) M1 b/\b≠g7) (Xb hd4 ar4) (.slice (some ⟨gq,0,none⟩) 1 1)):=Xj (HAN.o.keep (λ b hb hlt=>⟨(hch.kp (lo:=g+1) (by have:=HLC.o;omega) (by have:=HLC.o;omega) b hb.1 hlt).1,(hch.kp (lo:=g+1) (by have:=HLC.o;omega) (by have:=HLC.o;omega) b hb.1 hlt).2,hb.2⟩) hch.size)
   have hqb:=Zl hjj hS hmk
   have HGN:Xq (g7<wN.heap.size):=Xj (Xv HRN.o)
   have HSB:Xq (Xf wB (λ b=>TB (g+1) M1 b/\b≠g7) S sl):=Xj (hqb.keep (λ b hb _=>⟨rfl,⟨by have:=hb.1;have:=HGN.o;have:=HGL.o;omega,hb.2⟩,by have:=hb.1;have:=HGN.o;omega⟩) (Nat.le_refl _))
   obtain⟨asl,csl,_,rfl,-⟩:=hqb
   have HG1:=Xj (And.intro hb0 (And.intro hb9 (And.intro hw (And.intro hqj (And.intro hjc hjr)))))
   clear hjj hS hch hmk hb0 hb9 hw hqj hjc hjr HXN HRN HAN HCL
   have j4:=frozen_of_row _ g7 4 _ _ HRB.o
   have k4':=cell_of_row _ _ 4 _ _ _ HRB.o
   have jg7:=Xv HRB.o
   go_upto_region 26 with fail
   have HXS:=Xj (HXB.o.setTree ⟨_,_,_,HRB.o,.inr rfl⟩ HGL.o 4 (.slice asl S.len csl))
   have HRS:Xq ((wB.setCell ⟨g7,4,none⟩ (.slice asl S.len csl)).heap[g7]?=some (Ks 4 [] (.slice (some ⟨gq,0,none⟩) 1 1) (.slice asl S.len csl) (.slice none 0 0))):=Xj (heap_setCell_same _ g7 4 _ _ (.slice asl S.len csl) HRB.o)
   have HAS:=Xj (HAB.o.keep (w':=wB.setCell ⟨g7,4,none⟩ (.slice asl S.len csl)) (Q:=λ b=>TB (g+1) M1 b/\b≠g7) (λ b hb _=>⟨heap_setCell_other wB ⟨g7,4,none⟩ b _ hb.2,hb⟩) (by simp[World.setCell]))
   have HSS:=Xj (HSB.o.keep (w':=wB.setCell ⟨g7,4,none⟩ (.slice asl S.len csl)) (Q:=λ b=>TB (g+1) M1 b/\b≠g7) (λ b hb _=>⟨heap_setCell_other wB ⟨g7,4,none⟩ b _ hb.2,hb⟩) (by simp[World.setCell]))
   obtain⟨wS,hwS⟩:∃ wS,wB.setCell ⟨g7,4,none⟩ (.slice asl S.len csl)=wS:=⟨_,rfl⟩
   rw[hwS] at HXS HRS HAS HSS ⊢
   clear hwS j4 k4' jg7 HXB HRB HAB HSB HGN
   clear wB
   go_wp2_with fail
   refine(Yj gc 2 (by omega) _ HXS.o.mkr.cod).mono ?_
   rintro e wT ⟨y,rfl,y0,y1,hH,hg⟩
   have HXT:=Xj (HXS.o.grown hg hH)
   have HRT:Xq (wT.heap[g7]?=some (Ks 4 [] (.slice (some ⟨gq,0,none⟩) 1 1) (.slice asl S.len csl) (.slice none 0 0))):=Xj ((hg.block g7 (Xv HRS.o) (by simp;have:=HLC.o;have:=HGL.o;omega)).trans HRS.o)
   have HAT:=Xj (HAS.o.keep (Q:=λ b=>TB (g+1) M1 b/\b≠g7) (λ b hb hlt=>⟨hg.block b hlt (by simp;have:=hb.1.1;have:=HLC.o;omega),hb⟩) hg.size)
   have HST:=Xj (HSS.o.keep (Q:=λ b=>TB (g+1) M1 b/\b≠g7) (λ b hb hlt=>⟨hg.block b hlt (by simp;have:=hb.1.1;have:=HLC.o;omega),hb⟩) hg.size)
   clear hH hg HXS HRS HAS HSS
   clear wS
   obtain⟨b1,hb1⟩:∃ b,(y==1)=b:=⟨_,rfl⟩
   go_upto_if 113 with fail
   (try rw[hb1])
   clear hb1 y0 y1
   go_cut [] from 114 to 121 (λ wx=>∃ (M2:Mk) (E:Sf) (ae:Option Addr) (ce:Nat),Xq (StW w gc gm M M2 g wx/\wx.heap[g7]?=some (Ks 4 [] (.slice (some ⟨gq,0,none⟩) 1 1) (.slice asl S.len csl) (.slice ae E.len ce))/\Xk wx (TB (g+1) M2) (Xb hd4 ar4) (.slice (some ⟨gq,0,none⟩) 1 1)/\Xf wx (TB (g+1) M2) S (.slice asl S.len csl)/\Xf wx (TB (g+1) M2) E (.slice ae E.len ce)/\Kw (deep+1) M M2 4 [] (Xb hd4 ar4) S E))
   case first =>
    cases b1
    ·go_wp2_with fail
     go_meet
     exact⟨M1,.nil,none,0,Xj ⟨HXT.o,HRT.o,HAT.o.keep (λ b hb _=>⟨rfl,hb.1⟩) (Nat.le_refl _),HST.o.keep (λ b hb _=>⟨rfl,hb.1⟩) (Nat.le_refl _),Xf.nil _ _,Js (.inr (.inr (.inl ⟨rfl,rfl,rfl⟩))) HR4.o.2.1 HG1.o.1 HG1.o.2.1 HG1.o.2.2.1 trivial (by have:=HG1.o.2.2.2.1;simp only[Sf.cst];omega) HG1.o.2.2.2.2.1 (by simp[Sf.nst]) HG1.o.2.2.2.2.2 (by simp[Sf.hgt])⟩⟩
    go_wp2_with fail
    refine(Yj gc 2 (by omega) _ HXT.o.mkr.cod).mono ?_
    rintro e wU ⟨q,rfl,u0,u1,hH,hg⟩
    have u2:q<2:=by omega
    have HXU:=Xj (HXT.o.grown hg hH)
    have HRU:Xq (wU.heap[g7]?=some (Ks 4 [] (.slice (some ⟨gq,0,none⟩) 1 1) (.slice asl S.len csl) (.slice none 0 0))):=Xj ((hg.block g7 (Xv HRT.o) (by simp;have:=HLC.o;have:=HGL.o;omega)).trans HRT.o)
    have HAU:=Xj (HAT.o.keep (Q:=λ b=>TB (g+1) M1 b/\b≠g7) (λ b hb hlt=>⟨hg.block b hlt (by simp;have:=hb.1.1;have:=HLC.o;omega),hb⟩) hg.size)
    have HSU:=Xj (HST.o.keep (Q:=λ b=>TB (g+1) M1 b/\b≠g7) (λ b hb hlt=>⟨hg.block b hlt (by simp;have:=hb.1.1;have:=HLC.o;omega),hb⟩) hg.size)
    clear hH hg HXT HRT HAT HST
    clear wT
    have Ho:=HBD.o M1 wU (1+q) (by omega) (by omega) HXU.o.mkr HG1.o.1 HG1.o.2.1
    have HCL:=Xj Ho
    clear Ho u1
    go_wp2_with fail
    refine HCL.o.mono ?_
    rintro e wB ⟨E,sl,xs2,M2,rfl,hjj,hS,hch,hmk,hb0,hb9,hw,hqj,hjc,hjr⟩
    have HXB:=Xj (HXU.o.step hch hmk)
    have HRB:=Xj (Ju hch HXU.o.mkr HRU.o ⟨_,_,_,HRU.o,.inr rfl⟩ (by have:=HLC.o;have:=HGL.o;omega) (by have:=HLC.o;have:=HGL.o;omega))
    have hkp:=hch.kp (lo:=g+1) (by have:=HLC.o;omega) (by have:=HLC.o;omega)
    have HAB:=Xj (HAU.o.keep (Q:=λ b=>TB (g+1) M2 b/\b≠g7) (λ b hb hlt=>⟨(hkp b hb.1 hlt).1,(hkp b hb.1 hlt).2,hb.2⟩) hch.size)
    have HSB:=Xj (HSU.o.keep (Q:=λ b=>TB (g+1) M2 b/\b≠g7) (λ b hb hlt=>⟨(hkp b hb.1 hlt).1,(hkp b hb.1 hlt).2,hb.2⟩) hch.size)
    have hqb:=Zl hjj hS hmk
    have HGU:Xq (g7<wU.heap.size):=Xj (Xv HRU.o)
    have HEB:Xq (Xf wB (λ b=>TB (g+1) M2 b/\b≠g7) E sl):=Xj (hqb.keep (λ b hb _=>⟨rfl,⟨by have:=hb.1;have:=HGU.o;have:=HGL.o;omega,hb.2⟩,by have:=hb.1;have:=HGU.o;omega⟩) (Nat.le_refl _))
    obtain⟨ae,ce,_,rfl,-⟩:=hqb
    have HGD:Xq (Kw (deep+1) M M2 4 [] (Xb hd4 ar4) S E):=Xj (Js (.inr (.inr (.inl ⟨rfl,rfl,rfl⟩))) HR4.o.2.1 hb0 hb9 HG1.o.2.2.1 hw (by have:=HG1.o.2.2.2.1;omega) HG1.o.2.2.2.2.1 hjc HG1.o.2.2.2.2.2 hjr)
    clear hjj hS hch hmk hb0 hb9 hw hqj hjc hjr HXU HRU HAU HSU HCL hkp
    have j4:=frozen_of_row _ g7 5 _ _ HRB.o
    have k4':=cell_of_row _ _ 5 _ _ _ HRB.o
    have jg7:=Xv HRB.o
    go_wp2_with fail
    go_meet
    exact⟨M2,E,ae,ce,Xj ⟨HXB.o.setTree ⟨_,_,_,HRB.o,.inr rfl⟩ HGL.o 5 _,heap_setCell_same _ g7 5 _ _ _ HRB.o,HAB.o.keep (λ b hb _=>⟨heap_setCell_other wB ⟨g7,5,none⟩ b _ hb.2,hb.1⟩) (by simp[World.setCell]),HSB.o.keep (λ b hb _=>⟨heap_setCell_other wB ⟨g7,5,none⟩ b _ hb.2,hb.1⟩) (by simp[World.setCell]),HEB.o.keep (λ b hb _=>⟨heap_setCell_other wB ⟨g7,5,none⟩ b _ hb.2,hb.1⟩) (by simp[World.setCell]),HGD.o⟩⟩
   obtain⟨M2,E,ae,ce,HZ⟩:=hcut
   clear HXT HRT HAT HST
   clear wT
   obtain⟨p0,p1,p2,p3,p4,p5⟩:=Xl HZ.o.2.1
   obtain⟨jl,f0,f1,f2,f3,f4,f5,r0,r1,r2,r3,r4,r5⟩:=HZ.o.1.cells
   go_wp2_with fail
   obtain⟨q0,q1,q2,q3,q4,q5,HF⟩:=HZ.o.1.fin (deep:=deep+1) HZ.o.2.2.1 HZ.o.2.2.2.1 HZ.o.2.2.2.2.1 HZ.o.2.2.2.2.2 _ rfl
   refine bodyPost_ret (v:=stv 4 0 [] (.slice (some ⟨gq,0,none⟩) 1 1) (.slice asl S.len csl) (.slice ae E.len ce)) (by simp[results,Tryz.results70,go_sem,q0,q1,q2,q3,q4,q5]) rfl ?_
   exact HF.o
  by_cases e6:y=6
  ·subst e6
   clear y0 y2
   by_cases hd0:dp=0
   ·have dd:decide ((0:Int)<(dp:Int))=false:=by rw[decide_eq_false_iff_not];omega
    go_wp2_with fail
    go_meet
    exact HX2
   obtain⟨deep,rfl⟩:∃ deep,dp=deep+1:=⟨dp-1,by omega⟩
   have HBD:=Xj (HBK.o deep rfl)
   have ec:(((deep+1:Nat)):Int)=(deep:Int)+1:=by omega
   have dd:decide ((0:Int)<(deep:Int)+1)=true:=by rw[decide_eq_true_iff];omega
   rw[ec]
   clear ec
   go_wp2_with fail
   refine(HEX.o 2 (by omega) _ HX2.o.mkr).mono ?_
   intro e w4 hp
   obtain⟨hd4,ar4,a4,k4,rfl,HR4⟩:=hp.open
   clear hp
   have HX4:=Xj (HX2.o.grown HR4.o.2.2.2 HR4.o.2.2.1)
   go_wp2_with fail
   refine(Zc 4 _ hd4 a4 ar4.len k4 _).mono ?_
   rintro e w5 ⟨gq,rfl,hgq,hrq,hbO⟩
   have HX5:=Xj (HX4.o.below hbO)
   have HA5:Xq (Xk w5 (TB (g+1) M) (Xb hd4 ar4) (.slice (some ⟨gq,0,none⟩) 1 1)):=Xj (Ym hrq (HR4.o.1.keep (λ b hb hlt=>⟨hbO.block b hlt,TB.of HX2.o.mkr HX2.o.lts b hb⟩) hbO.size) (TB.of HX2.o.mkr HX2.o.lts gq (by have:=HR4.o.2.2.2.size;omega)))
   clear hgq hrq hbO
   have hbL:=Xw w5 (.cells #[.int .i64 4,.int .i64 0,.string { data := #[] },.slice (some ⟨gq,0,none⟩) 1 1,.slice none 0 0,.slice none 0 0] 110)
   have hrL:=heap_alloc_new w5 (.cells #[.int .i64 4,.int .i64 0,.string { data := #[] },.slice (some ⟨gq,0,none⟩) 1 1,.slice none 0 0,.slice none 0 0] 110)
   have HXL:=Xj (HX5.o.below hbL)
   have HGL:Xq (g<w5.heap.size):=Xj HX5.o.lts
   have HAL:Xq (Xk (w5.alloc (.cells #[.int .i64 4,.int .i64 0,.string { data := #[] },.slice (some ⟨gq,0,none⟩) 1 1,.slice none 0 0,.slice none 0 0] 110)) (λ b=>TB (g+1) M b/\b≠w5.heap.size) (Xb hd4 ar4) (.slice (some ⟨gq,0,none⟩) 1 1)):=Xj (HA5.o.keep (λ b hb hlt=>⟨hbL.block b hlt,hb,by omega⟩) hbL.size)
   go_upto_region 25 with fail
   obtain⟨wL,hwL⟩:∃ wL,w5.alloc (.cells #[.int .i64 4,.int .i64 0,.string { data := #[] },.slice (some ⟨gq,0,none⟩) 1 1,.slice none 0 0,.slice none 0 0] 110)=wL:=⟨_,rfl⟩
   obtain⟨g7,hg7⟩:∃ g7,w5.heap.size=g7:=⟨_,rfl⟩
   rw[hwL] at hrL HXL HAL ⊢
   rw[hg7] at hrL HAL HGL ⊢
   have HRL:=Xj hrL
   clear hwL hg7 hrL hbL HX4 HX5 HA5 HX2
   go_wp2_with fail
   refine(Yj gc 2 (by omega) _ HXL.o.mkr.cod).mono ?_
   rintro e wN ⟨z,rfl,z0,z1,hH,hg⟩
   have z2:z<2:=by omega
   have HXN:=Xj (HXL.o.grown hg hH)
   have HRN:Xq (wN.heap[g7]?=some (Ks 4 [] (.slice (some ⟨gq,0,none⟩) 1 1) (.slice none 0 0) (.slice none 0 0))):=Xj ((hg.block g7 (Xv HRL.o) (by simp;have:=HLC.o;have:=HGL.o;omega)).trans HRL.o)
   have HAN:=Xj (HAL.o.keep (Q:=λ b=>TB (g+1) M b/\b≠g7) (λ b hb hlt=>⟨hg.block b hlt (by simp;have:=hb.1.1;have:=HLC.o;omega),hb⟩) hg.size)
   clear hH hg HXL HRL HAL
   clear wL
   have Ho:=HBD.o M wN (1+z) (by omega) (by omega) HXN.o.mkr HH.o.1 (by have:=HH.o.2;omega)
   have HCL:=Xj Ho
   clear Ho z1
   go_wp2_with fail
   refine HCL.o.mono ?_
   rintro e wB ⟨S,sl,xs,M1,rfl,hjj,hS,hch,hmk,hb0,hb9,hw,hqj,hjc,hjr⟩
   have HXB:=Xj (HXN.o.step hch hmk)
   have HRB:=Xj (Ju hch HXN.o.mkr HRN.o ⟨_,_,_,HRN.o,.inr rfl⟩ (by have:=HLC.o;have:=HGL.o;omega) (by have:=HLC.o;have:=HGL.o;omega))
   have HAB:Xq (Xk wB (λ b=>TB (g+1) M1 b/\b≠g7) (Xb hd4 ar4) (.slice (some ⟨gq,0,none⟩) 1 1)):=Xj (HAN.o.keep (λ b hb hlt=>⟨(hch.kp (lo:=g+1) (by have:=HLC.o;omega) (by have:=HLC.o;omega) b hb.1 hlt).1,(hch.kp (lo:=g+1) (by have:=HLC.o;omega) (by have:=HLC.o;omega) b hb.1 hlt).2,hb.2⟩) hch.size)
   have hqb:=Zl hjj hS hmk
   have HGN:Xq (g7<wN.heap.size):=Xj (Xv HRN.o)
   have HSB:Xq (Xf wB (λ b=>TB (g+1) M1 b/\b≠g7) S sl):=Xj (hqb.keep (λ b hb _=>⟨rfl,⟨by have:=hb.1;have:=HGN.o;have:=HGL.o;omega,hb.2⟩,by have:=hb.1;have:=HGN.o;omega⟩) (Nat.le_refl _))
   obtain⟨asl,csl,_,rfl,-⟩:=hqb
   have HG1:=Xj (And.intro hb0 (And.intro hb9 (And.intro hw (And.intro hqj (And.intro hjc hjr)))))
   clear hjj hS hch hmk hb0 hb9 hw hqj hjc hjr HXN HRN HAN HCL
   have j4:=frozen_of_row _ g7 4 _ _ HRB.o
   have k4':=cell_of_row _ _ 4 _ _ _ HRB.o
   have jg7:=Xv HRB.o
   go_upto_region 26 with fail
   have HXS:=Xj (HXB.o.setTree ⟨_,_,_,HRB.o,.inr rfl⟩ HGL.o 4 (.slice asl S.len csl))
   have HRS:Xq ((wB.setCell ⟨g7,4,none⟩ (.slice asl S.len csl)).heap[g7]?=some (Ks 4 [] (.slice (some ⟨gq,0,none⟩) 1 1) (.slice asl S.len csl) (.slice none 0 0))):=Xj (heap_setCell_same _ g7 4 _ _ (.slice asl S.len csl) HRB.o)
   have HAS:=Xj (HAB.o.keep (w':=wB.setCell ⟨g7,4,none⟩ (.slice asl S.len csl)) (Q:=λ b=>TB (g+1) M1 b/\b≠g7) (λ b hb _=>⟨heap_setCell_other wB ⟨g7,4,none⟩ b _ hb.2,hb⟩) (by simp[World.setCell]))
   have HSS:=Xj (HSB.o.keep (w':=wB.setCell ⟨g7,4,none⟩ (.slice asl S.len csl)) (Q:=λ b=>TB (g+1) M1 b/\b≠g7) (λ b hb _=>⟨heap_setCell_other wB ⟨g7,4,none⟩ b _ hb.2,hb⟩) (by simp[World.setCell]))
   obtain⟨wS,hwS⟩:∃ wS,wB.setCell ⟨g7,4,none⟩ (.slice asl S.len csl)=wS:=⟨_,rfl⟩
   rw[hwS] at HXS HRS HAS HSS ⊢
   clear hwS j4 k4' jg7 HXB HRB HAB HSB HGN
   clear wB
   go_wp2_with fail
   refine(Yj gc 2 (by omega) _ HXS.o.mkr.cod).mono ?_
   rintro e wT ⟨y,rfl,y0,y1,hH,hg⟩
   have HXT:=Xj (HXS.o.grown hg hH)
   have HRT:Xq (wT.heap[g7]?=some (Ks 4 [] (.slice (some ⟨gq,0,none⟩) 1 1) (.slice asl S.len csl) (.slice none 0 0))):=Xj ((hg.block g7 (Xv HRS.o) (by simp;have:=HLC.o;have:=HGL.o;omega)).trans HRS.o)
   have HAT:=Xj (HAS.o.keep (Q:=λ b=>TB (g+1) M1 b/\b≠g7) (λ b hb hlt=>⟨hg.block b hlt (by simp;have:=hb.1.1;have:=HLC.o;omega),hb⟩) hg.size)
   have HST:=Xj (HSS.o.keep (Q:=λ b=>TB (g+1) M1 b/\b≠g7) (λ b hb hlt=>⟨hg.block b hlt (by simp;have:=hb.1.1;have:=HLC.o;omega),hb⟩) hg.size)
   clear hH hg HXS HRS HAS HSS
   clear wS
   obtain⟨b1,hb1⟩:∃ b,(y==1)=b:=⟨_,rfl⟩
   go_upto_if 113 with fail
   (try rw[hb1])
   clear hb1 y0 y1
   go_cut [] from 114 to 121 (λ wx=>∃ (M2:Mk) (E:Sf) (ae:Option Addr) (ce:Nat),Xq (StW w gc gm M M2 g wx/\wx.heap[g7]?=some (Ks 4 [] (.slice (some ⟨gq,0,none⟩) 1 1) (.slice asl S.len csl) (.slice ae E.len ce))/\Xk wx (TB (g+1) M2) (Xb hd4 ar4) (.slice (some ⟨gq,0,none⟩) 1 1)/\Xf wx (TB (g+1) M2) S (.slice asl S.len csl)/\Xf wx (TB (g+1) M2) E (.slice ae E.len ce)/\Kw (deep+1) M M2 4 [] (Xb hd4 ar4) S E))
   case first =>
    cases b1
    ·go_wp2_with fail
     go_meet
     exact⟨M1,.nil,none,0,Xj ⟨HXT.o,HRT.o,HAT.o.keep (λ b hb _=>⟨rfl,hb.1⟩) (Nat.le_refl _),HST.o.keep (λ b hb _=>⟨rfl,hb.1⟩) (Nat.le_refl _),Xf.nil _ _,Js (.inr (.inr (.inl ⟨rfl,rfl,rfl⟩))) HR4.o.2.1 HG1.o.1 HG1.o.2.1 HG1.o.2.2.1 trivial (by have:=HG1.o.2.2.2.1;simp only[Sf.cst];omega) HG1.o.2.2.2.2.1 (by simp[Sf.nst]) HG1.o.2.2.2.2.2 (by simp[Sf.hgt])⟩⟩
    go_wp2_with fail
    refine(Yj gc 2 (by omega) _ HXT.o.mkr.cod).mono ?_
    rintro e wU ⟨q,rfl,u0,u1,hH,hg⟩
    have u2:q<2:=by omega
    have HXU:=Xj (HXT.o.grown hg hH)
    have HRU:Xq (wU.heap[g7]?=some (Ks 4 [] (.slice (some ⟨gq,0,none⟩) 1 1) (.slice asl S.len csl) (.slice none 0 0))):=Xj ((hg.block g7 (Xv HRT.o) (by simp;have:=HLC.o;have:=HGL.o;omega)).trans HRT.o)
    have HAU:=Xj (HAT.o.keep (Q:=λ b=>TB (g+1) M1 b/\b≠g7) (λ b hb hlt=>⟨hg.block b hlt (by simp;have:=hb.1.1;have:=HLC.o;omega),hb⟩) hg.size)
    have HSU:=Xj (HST.o.keep (Q:=λ b=>TB (g+1) M1 b/\b≠g7) (λ b hb hlt=>⟨hg.block b hlt (by simp;have:=hb.1.1;have:=HLC.o;omega),hb⟩) hg.size)
    clear hH hg HXT HRT HAT HST
    clear wT
    have Ho:=HBD.o M1 wU (1+q) (by omega) (by omega) HXU.o.mkr HG1.o.1 HG1.o.2.1
    have HCL:=Xj Ho
    clear Ho u1
    go_wp2_with fail
    refine HCL.o.mono ?_
    rintro e wB ⟨E,sl,xs2,M2,rfl,hjj,hS,hch,hmk,hb0,hb9,hw,hqj,hjc,hjr⟩
    have HXB:=Xj (HXU.o.step hch hmk)
    have HRB:=Xj (Ju hch HXU.o.mkr HRU.o ⟨_,_,_,HRU.o,.inr rfl⟩ (by have:=HLC.o;have:=HGL.o;omega) (by have:=HLC.o;have:=HGL.o;omega))
    have hkp:=hch.kp (lo:=g+1) (by have:=HLC.o;omega) (by have:=HLC.o;omega)
    have HAB:=Xj (HAU.o.keep (Q:=λ b=>TB (g+1) M2 b/\b≠g7) (λ b hb hlt=>⟨(hkp b hb.1 hlt).1,(hkp b hb.1 hlt).2,hb.2⟩) hch.size)
    have HSB:=Xj (HSU.o.keep (Q:=λ b=>TB (g+1) M2 b/\b≠g7) (λ b hb hlt=>⟨(hkp b hb.1 hlt).1,(hkp b hb.1 hlt).2,hb.2⟩) hch.size)
    have hqb:=Zl hjj hS hmk
    have HGU:Xq (g7<wU.heap.size):=Xj (Xv HRU.o)
    have HEB:Xq (Xf wB (λ b=>TB (g+1) M2 b/\b≠g7) E sl):=Xj (hqb.keep (λ b hb _=>⟨rfl,⟨by have:=hb.1;have:=HGU.o;have:=HGL.o;omega,hb.2⟩,by have:=hb.1;have:=HGU.o;omega⟩) (Nat.le_refl _))
    obtain⟨ae,ce,_,rfl,-⟩:=hqb
    have HGD:Xq (Kw (deep+1) M M2 4 [] (Xb hd4 ar4) S E):=Xj (Js (.inr (.inr (.inl ⟨rfl,rfl,rfl⟩))) HR4.o.2.1 hb0 hb9 HG1.o.2.2.1 hw (by have:=HG1.o.2.2.2.1;omega) HG1.o.2.2.2.2.1 hjc HG1.o.2.2.2.2.2 hjr)
    clear hjj hS hch hmk hb0 hb9 hw hqj hjc hjr HXU HRU HAU HSU HCL hkp
    have j4:=frozen_of_row _ g7 5 _ _ HRB.o
    have k4':=cell_of_row _ _ 5 _ _ _ HRB.o
    have jg7:=Xv HRB.o
    go_wp2_with fail
    go_meet
    exact⟨M2,E,ae,ce,Xj ⟨HXB.o.setTree ⟨_,_,_,HRB.o,.inr rfl⟩ HGL.o 5 _,heap_setCell_same _ g7 5 _ _ _ HRB.o,HAB.o.keep (λ b hb _=>⟨heap_setCell_other wB ⟨g7,5,none⟩ b _ hb.2,hb.1⟩) (by simp[World.setCell]),HSB.o.keep (λ b hb _=>⟨heap_setCell_other wB ⟨g7,5,none⟩ b _ hb.2,hb.1⟩) (by simp[World.setCell]),HEB.o.keep (λ b hb _=>⟨heap_setCell_other wB ⟨g7,5,none⟩ b _ hb.2,hb.1⟩) (by simp[World.setCell]),HGD.o⟩⟩
   obtain⟨M2,E,ae,ce,HZ⟩:=hcut
   clear HXT HRT HAT HST
   clear wT
   obtain⟨p0,p1,p2,p3,p4,p5⟩:=Xl HZ.o.2.1
   obtain⟨jl,f0,f1,f2,f3,f4,f5,r0,r1,r2,r3,r4,r5⟩:=HZ.o.1.cells
   go_wp2_with fail
   obtain⟨q0,q1,q2,q3,q4,q5,HF⟩:=HZ.o.1.fin (deep:=deep+1) HZ.o.2.2.1 HZ.o.2.2.2.1 HZ.o.2.2.2.2.1 HZ.o.2.2.2.2.2 _ rfl
   refine bodyPost_ret (v:=stv 4 0 [] (.slice (some ⟨gq,0,none⟩) 1 1) (.slice asl S.len csl) (.slice ae E.len ce)) (by simp[results,Tryz.results70,go_sem,q0,q1,q2,q3,q4,q5]) rfl ?_
   exact HF.o
  by_cases e7:y=7
  ·subst e7
   clear y0 y2
   by_cases hd0:dp=0
   ·have dd:decide ((0:Int)<(dp:Int))=false:=by rw[decide_eq_false_iff_not];omega
    go_wp2_with fail
    go_meet
    exact HX2
   obtain⟨deep,rfl⟩:∃ deep,dp=deep+1:=⟨dp-1,by omega⟩
   have Ho:=HLP.o deep rfl M w2 HX2.o.mkr HH.o.1 HH.o.2
   have HCL:=Xj Ho
   clear Ho
   have ec:(((deep+1:Nat)):Int)=(deep:Int)+1:=by omega
   have dd:decide ((0:Int)<(deep:Int)+1)=true:=by rw[decide_eq_true_iff];omega
   rw[ec]
   clear ec
   go_wp2_with fail
   refine HCL.o.mono ?_
   rintro e w3 ⟨k,nm,xs,th,el,slx,slt,sle,M1,rfl,hax,hst,hse,hch,hmk,hb0,hb9,hwf,hqj,hjc,hjr⟩
   have HX3:=Xj (HX2.o.step hch hmk)
   have hgw:=HX2.o.lts
   have HA3:=Xj (hax.keep (Q:=TB (g+1) M1) (λ b hb _=>⟨rfl,by have:=hb.1;omega,hb.2⟩) (Nat.le_refl _))
   have HT3:=Xj (hst.keep (Q:=TB (g+1) M1) (λ b hb _=>⟨rfl,by have:=hb.1;omega,hb.2⟩) (Nat.le_refl _))
   have HE3:=Xj (hse.keep (Q:=TB (g+1) M1) (λ b hb _=>⟨rfl,by have:=hb.1;omega,hb.2⟩) (Nat.le_refl _))
   have HGD:Xq (Kw (deep+1) M M1 k nm xs th el):=Xj ⟨hb0,hb9,hwf,hqj,hjc,hjr⟩
   obtain⟨ax,cx,_,rfl,-⟩:=hax
   obtain⟨ath,cth,_,rfl,-⟩:=hst
   obtain⟨ael,cel,_,rfl,-⟩:=hse
   clear hch hmk hb0 hb9 hwf hqj hjc hjr hgw HCL
   obtain⟨jl,f0,f1,f2,f3,f4,f5,r0,r1,r2,r3,r4,r5⟩:=HX3.o.cells
   go_wp2_with fail
   obtain⟨q0,q1,q2,q3,q4,q5,HF⟩:=HX3.o.fin (deep:=deep+1) HA3.o HT3.o HE3.o HGD.o _ rfl
   refine bodyPost_ret (v:=stv k 0 nm (.slice ax xs.len cx) (.slice ath th.len cth) (.slice ael el.len cel)) (by simp[results,Tryz.results70,go_sem,q0,q1,q2,q3,q4,q5]) rfl ?_
   exact HF.o
  by_cases e8:y=8
  ·subst e8
   clear y0 y2
   go_wp2_with fail
   refine(Yj gc 3 (by omega) _ HX2.o.mkr.cod).mono ?_
   rintro e w3 ⟨z,rfl,z0,z1,hH,hg⟩
   have HX3:=Xj (HX2.o.grown hg hH)
   clear hH hg z0 z1
   by_cases hz:z=0
   ·subst hz
    go_wp2_with fail
    refine(HEX.o 2 (by omega) _ HX3.o.mkr).mono ?_
    intro e w4 hp
    obtain⟨hd4,ar4,a4,k4,rfl,HR4⟩:=hp.open
    clear hp
    have HX4:=Xj (HX3.o.grown HR4.o.2.2.2 HR4.o.2.2.1)
    go_wp2_with fail
    refine(Zc 6 _ hd4 a4 ar4.len k4 _).mono ?_
    rintro e w5 ⟨gq,rfl,hgq,hrq,hbO⟩
    have HX5:=Xj (HX4.o.below hbO)
    have HA5:Xq (Xk w5 (TB (g+1) M) (Xb hd4 ar4) (.slice (some ⟨gq,0,none⟩) 1 1)):=Xj (Ym hrq (HR4.o.1.keep (λ b hb hlt=>⟨hbO.block b hlt,TB.of HX3.o.mkr HX3.o.lts b hb⟩) hbO.size) (TB.of HX3.o.mkr HX3.o.lts gq (by have:=HR4.o.2.2.2.size;omega)))
    clear hgq hrq hbO
    obtain⟨jl,f0,f1,f2,f3,f4,f5,r0,r1,r2,r3,r4,r5⟩:=HX5.o.cells
    go_wp2_with fail
    obtain⟨q0,q1,q2,q3,q4,q5,HF⟩:=HX5.o.fin (deep:=dp) (k:=6) (nm:=[]) HA5.o (Xf.nil _ _) (Xf.nil _ _) (Ug (.inr (.inr (.inr (.inr (.inl ⟨.inl rfl,rfl,rfl,rfl,rfl⟩))))) HR4.o.2.1 HH.o.1 HH.o.2) _ rfl
    refine bodyPost_ret (v:=stv 6 0 [] (.slice (some ⟨gq,0,none⟩) 1 1) (.slice none 0 0) (.slice none 0 0)) (by simp[results,Tryz.results70,go_sem,q0,q1,q2,q3,q4,q5]) rfl ?_
    exact HF.o
   have dz:(z==0)=false:=by rw[beq_eq_false_iff_ne];exact hz
   go_wp2_with fail
   refine(HCA.o _ HX3.o.mkr).mono ?_
   rintro e w4 ⟨hp,hkk⟩
   obtain⟨hd4,ar4,a4,k4,rfl,HR4⟩:=hp.open
   have HKD:Xq (hd4.k=9\/hd4.k=10):=Xj (by
    obtain⟨h',sl',e1,hk⟩:=hkk
    injection e1 with e1
    injection e1 with e1
    simp at e1
    omega)
   clear hp hkk
   have HX4:=Xj (HX3.o.grown HR4.o.2.2.2 HR4.o.2.2.1)
   go_wp2_with fail
   refine(Zc 8 _ hd4 a4 ar4.len k4 _).mono ?_
   rintro e w5 ⟨gq,rfl,hgq,hrq,hbO⟩
   have HX5:=Xj (HX4.o.below hbO)
   have HA5:Xq (Xk w5 (TB (g+1) M) (Xb hd4 ar4) (.slice (some ⟨gq,0,none⟩) 1 1)):=Xj (Ym hrq (HR4.o.1.keep (λ b hb hlt=>⟨hbO.block b hlt,TB.of HX3.o.mkr HX3.o.lts b hb⟩) hbO.size) (TB.of HX3.o.mkr HX3.o.lts gq (by have:=HR4.o.2.2.2.size;omega)))
   clear hgq hrq hbO
   obtain⟨jl,f0,f1,f2,f3,f4,f5,r0,r1,r2,r3,r4,r5⟩:=HX5.o.cells
   go_wp2_with fail
   obtain⟨q0,q1,q2,q3,q4,q5,HF⟩:=HX5.o.fin (deep:=dp) (k:=8) (nm:=[]) HA5.o (Xf.nil _ _) (Xf.nil _ _) (Ug (.inr (.inr (.inr (.inr (.inr ⟨rfl,rfl,rfl,rfl,hd4,ar4,rfl,HKD.o⟩))))) HR4.o.2.1 HH.o.1 HH.o.2) _ rfl
   refine bodyPost_ret (v:=stv 8 0 [] (.slice (some ⟨gq,0,none⟩) 1 1) (.slice none 0 0) (.slice none 0 0)) (by simp[results,Tryz.results70,go_sem,q0,q1,q2,q3,q4,q5]) rfl ?_
   exact HF.o
  have d0:(y==0)=false:=by rw[beq_eq_false_iff_ne];exact e0
  have d1:(y==1)=false:=by rw[beq_eq_false_iff_ne];exact e1
  have d2:(y==2)=false:=by rw[beq_eq_false_iff_ne];exact e2
  have d3:(y==3)=false:=by rw[beq_eq_false_iff_ne];exact e3
  have d4:(y==4)=false:=by rw[beq_eq_false_iff_ne];exact e4
  have d5:(y==5)=false:=by rw[beq_eq_false_iff_ne];exact e5
  have d6:(y==6)=false:=by rw[beq_eq_false_iff_ne];exact e6
  have d7:(y==7)=false:=by rw[beq_eq_false_iff_ne];exact e7
  have d8:(y==8)=false:=by rw[beq_eq_false_iff_ne];exact e8
  clear e0 e1 e2 e3 e4 e5 e6 e7 e8 y0 y2
  go_wp2_with fail
  go_meet
  exact HX2
 have HX:=hcut
 clear HX2 hcut y0 y2
 go_wp2_with fail
 refine(HEX.o 2 (by omega) _ HX.o.mkr).mono ?_
 intro e w4 hp
 obtain⟨hd4,ar4,a4,k4,rfl,HR4⟩:=hp.open
 clear hp
 have HX4:=Xj (HX.o.grown HR4.o.2.2.2 HR4.o.2.2.1)
 go_wp2_with fail
 refine(Zc 7 _ hd4 a4 ar4.len k4 _).mono ?_
 rintro e w5 ⟨gq,rfl,hgq,hrq,hbO⟩
 have HX5:=Xj (HX4.o.below hbO)
 have HA5:Xq (Xk w5 (TB (g+1) M) (Xb hd4 ar4) (.slice (some ⟨gq,0,none⟩) 1 1)):=Xj (Ym hrq (HR4.o.1.keep (λ b hb hlt=>⟨hbO.block b hlt,TB.of HX.o.mkr HX.o.lts b hb⟩) hbO.size) (TB.of HX.o.mkr HX.o.lts gq (by have:=HR4.o.2.2.2.size;omega)))
 clear hgq hrq hbO
 obtain⟨jl,f0,f1,f2,f3,f4,f5,r0,r1,r2,r3,r4,r5⟩:=HX5.o.cells
 go_wp2_with fail
 obtain⟨q0,q1,q2,q3,q4,q5,HF⟩:=HX5.o.fin (deep:=dp) (k:=7) (nm:=[]) HA5.o (Xf.nil _ _) (Xf.nil _ _) (Ug (.inr (.inr (.inr (.inr (.inl ⟨.inr rfl,rfl,rfl,rfl,rfl⟩))))) HR4.o.2.1 HH.o.1 HH.o.2) _ rfl
 refine bodyPost_ret (v:=stv 7 0 [] (.slice (some ⟨gq,0,none⟩) 1 1) (.slice none 0 0) (.slice none 0 0)) (by simp[results,Tryz.results70,go_sem,q0,q1,q2,q3,q4,q5]) rfl ?_
 exact HF.o
theorem Af (gc gm:Nat) (dp:Nat) (hdp:dp<=1000) :
  (∀ M W,Yg W gc gm M->0<=M.bud->M.ls.length+M.bud<=8->Calls Tryz.prog 70 #[.pointer (some ⟨gm,0,none⟩),.int .i64 (dp:Int)] W (Ku gc gm dp M W)) /\
  (∀ M W (most:Int),0<=most->most<=9->Yg W gc gm M->0<=M.bud->M.ls.length+M.bud<=9->Calls Tryz.prog 34 #[.pointer (some ⟨gm,0,none⟩),.int .i64 (dp:Int),.int .i64 most] W (Hw gc gm dp M W)):=by
 induction dp with
 | zero =>
  have hs:∀ M W,Yg W gc gm M->0<=M.bud->M.ls.length+M.bud<=8->Calls Tryz.prog 70 #[.pointer (some ⟨gm,0,none⟩),.int .i64 ((0:Nat):Int)] W (Ku gc gm 0 M W):=λ M W hM h0 h8 =>
   Sx gc gm 0 (by omega) (λ deep h=>absurd h (by omega)) (λ deep h=>absurd h (by omega)) M W hM h0 h8
  refine⟨hs,λ M W most hm0 hm9 hM h0 h9=>?_⟩
  obtain⟨m,rfl⟩:=Int.eq_ofNat_of_zero_le hm0
  exact Mr gc gm 0 m (by omega) hs M W hM h0 h9
 | succ dp ih =>
  obtain⟨ih1,ih2⟩:=ih (by omega)
  have hs:∀ M W,Yg W gc gm M->0<=M.bud->M.ls.length+M.bud<=8->Calls Tryz.prog 70 #[.pointer (some ⟨gm,0,none⟩),.int .i64 ((dp+1:Nat):Int)] W (Ku gc gm (dp+1) M W):=λ M W hM h0 h8 =>
   Sx gc gm (dp+1) hdp (λ deep h=>by have e:deep=dp:=(by omega);subst e;exact ih2) (λ deep h=>by have e:deep=dp:=(by omega);subst e;exact λ M W hM h0 h8=>xqj gc gm deep (by omega) ih2 M W hM h0 h8) M W hM h0 h8
  refine⟨hs,λ M W most hm0 hm9 hM h0 h9=>?_⟩
  obtain⟨m,rfl⟩:=Int.eq_ofNat_of_zero_le hm0
  exact Mr gc gm (dp+1) m (by omega) hs M W hM h0 h9
end Go.Proofs.YtldgghnjminhiaaGreatDoor
