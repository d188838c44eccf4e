/-
  WORDS, PLAIN LAWS and WALKS (QsV PsY PsC PsJ PsE QsX), pressed. (Filled in from templates of this repo.)
-/
import Derived.Test.YtldgghnjminhiaaGreatDoorG7
import Derived.Test.YtldgghnjminhiaaGreatDoorG6
import Derived.OrdersHeld
import Derived.Deep.RegionLaw
namespace Go.Proofs.YtldgghnjminhiaaGreatDoor
open Go.ChangeAt Go.ChangeShapes Go.RowKit Go.WideShapes
set_option linter.unusedVariables false
set_option linter.unusedSimpArgs false
set_option maxRecDepth 100000
set_option maxHeartbeats 16000000
theorem RAt.setBad {w:World} {K:PC} {at_:Nat} {bad:Bool} {rest:List Tk} (h:RAt w K at_ bad rest):RAt (w.setCell ⟨K.g,2,none⟩ (.bool true)) K at_ true rest :=
 have hjp:=Xc w K.g 2 (.bool true)
 {row:=heap_setCell_same w K.g 2 _ _ _ h.row
  tk:=λ j x hj=>by
   obtain⟨b,off,e,hb,h0,h1,h2,h3⟩:=h.tk j x hj
   have key:(w.setCell ⟨K.g,2,none⟩ (.bool true)).heap[b]?=w.heap[b]?:=hjp.block b hb (λ e2=>by injection e2 with e2;exact h.ne _ e e2)
   have kc:∀ o,(w.setCell ⟨K.g,2,none⟩ (.bool true)).cell? ⟨b,o,none⟩=w.cell? ⟨b,o,none⟩:=λ o=>World.cell?_of_block (a:=⟨b,o,none⟩) key
   exact⟨b,off,e,by have:=hjp.size;omega,(kc _).trans h0,(kc _).trans h1,(kc _).trans h2,(kc _).trans h3⟩
  ne:=h.ne
  dr:=h.dr
  en:=h.en
  cap:=h.cap
  n:=h.n }
def Ct (K:PC) (at_:Nat) (bad:Bool) (rest:List Tk) (t:Bt) (w:World) (e:Ending) (w':World):Prop :=
 ∃ at2 bad2 rest2,e=.returned (.tuple #[])/\RAt w' K at2 bad2 rest2/\w.grownBy w' (some K.g)/\((bad=false/\bad2=false/\isT t rest=true/\at2=at_+1/\rest2=rest.tail)\/((!bad&&isT t rest)=false/\bad2=true/\at2=at_/\rest2=rest))
theorem Ql (K:PC) (at_:Nat) (bad:Bool) (rest:List Tk) (t:Bt) (w:World) (h:RAt w K at_ bad rest):Calls Tryz.prog 104 #[.pointer (some ⟨K.g,0,none⟩),.string (st t)] w (Ct K at_ bad rest t w):=by
 have HP:=Xj h
 clear h
 go_enter Tryz.func104,Tryz.ntmps104
 go_wp2_with fail
 refine(Zh K at_ bad rest t _ HP.o).mono ?_
 rintro e w2 ⟨at2,rest2,rfl,hp2,hg2,hc⟩
 have HP2:=Xj hp2
 have HG2:=Xj hg2
 clear hp2 hg2
 rcases hc with⟨rfl,hT,rfl,rfl⟩|⟨hT,rfl,rfl⟩
 ·have HT:=Xj hT
  (try rw[hT])
  clear hT
  go_wp2_with fail
  refine bodyPost_end (results_none rfl _ _ _) rfl ?_
  exact⟨_,false,_,rfl,HP2.o,HG2.o,.inl ⟨rfl,rfl,HT.o,rfl,rfl⟩⟩
 have HT:=Xj hT
 (try rw[hT])
 clear hT
 obtain⟨-,-,p2,-,f2,hl⟩:=HP2.o.cells
 have HF:=Xj (And.intro HP2.o.setBad (Xg HG2.o (Xc w2 K.g 2 (.bool true))))
 go_wp2_with fail
 refine bodyPost_end (results_none rfl _ _ _) rfl ?_
 exact⟨_,true,_,rfl,HF.o.1,HF.o.2,.inr ⟨HT.o,rfl,rfl,rfl⟩⟩
def Fk (K:PC) (at_:Nat) (bad:Bool) (rest:List Tk) (k:Int) (w:World) (e:Ending) (w':World):Prop :=
 ∃ at2 bad2 rest2,RAt w' K at2 bad2 rest2/\w.grownBy w' (some K.g)/\((bad=false/\bad2=false/\kOf rest=k/\e=.returned (Hx (hdT rest))/\at2=at_+1/\rest2=rest.tail)\/((bad=true\/kOf rest≠k)/\bad2=true/\e=.returned (Hx ⟨0,0,0,[]⟩)/\at2=at_/\rest2=rest))
theorem RAt.sc1 {w:World} {K:PC} {at_:Nat} {bad:Bool} {rest:List Tk} (h:RAt w K at_ bad rest) {b o:Nat} (hb:b≠K.g/\∀ x,K.al=some x->x.block≠b) (v:Value):RAt (w.setCell ⟨b,o,none⟩ v) K at_ bad rest :=
 h.grown (Xc w b o v) (λ k e=>by injection e with e;subst e;exact hb)
theorem RAt.s4 {w:World} {K:PC} {at_:Nat} {bad:Bool} {rest:List Tk} (h:RAt w K at_ bad rest) {b:Nat} (hb:b≠K.g/\∀ x,K.al=some x->x.block≠b) (v0 v1 v2 v3:Value):RAt ((((w.setCell ⟨b,0,none⟩ v0).setCell ⟨b,1,none⟩ v1).setCell ⟨b,2,none⟩ v2).setCell ⟨b,3,none⟩ v3) K at_ bad rest :=
 (((h.sc1 hb v0).sc1 hb v1).sc1 hb v2).sc1 hb v3
theorem Gu {w0 w:World} {b:Nat} {row:Option Nat} {v0 v1 v2 v3:Value} (h:w0.grownBy w row) (hb:w0.heap.size<=b):w0.grownBy ((((w.setCell ⟨b,0,none⟩ v0).setCell ⟨b,1,none⟩ v1).setCell ⟨b,2,none⟩ v2).setCell ⟨b,3,none⟩ v3) row :=
 Yv (p:=⟨b,3,none⟩) (Yv (p:=⟨b,2,none⟩) (Yv (p:=⟨b,1,none⟩) (Yv (p:=⟨b,0,none⟩) h hb) hb) hb) hb
theorem Lt.froz {wx:World} {b:Nat} {x:Tk} (k:Lt wx b x):wx.frozen? ⟨b,0,none⟩=false/\wx.frozen? ⟨b,1,none⟩=false/\wx.frozen? ⟨b,2,none⟩=false/\wx.frozen? ⟨b,3,none⟩=false :=
 ⟨frozen_of_row _ b 0 _ _ k,frozen_of_row _ b 1 _ _ k,frozen_of_row _ b 2 _ _ k,frozen_of_row _ b 3 _ _ k⟩
theorem Lt.s4 {wx:World} {b:Nat} {x:Tk} (k:Lt wx b x) (y:Tk):Lt ((((wx.setCell ⟨b,0,none⟩ (.int .i64 y.k)).setCell ⟨b,1,none⟩ (.int .i64 y.n)).setCell ⟨b,2,none⟩ (.int .i64 y.v)).setCell ⟨b,3,none⟩ (.string (st y.t))) b y :=
 heap_setCell_same _ b 3 _ _ _ (heap_setCell_same _ b 2 _ _ _ (heap_setCell_same _ b 1 _ _ _ (heap_setCell_same _ b 0 _ _ _ k)))
theorem Rg (K:PC) (at_:Nat) (bad:Bool) (rest:List Tk) (k:Int) (w:World) (h:RAt w K at_ bad rest) (hk0:k≠0):Calls Tryz.prog 148 #[.pointer (some ⟨K.g,0,none⟩),.int .i64 k] w (Fk K at_ bad rest k w):=by
 obtain⟨⟨rk,rn,rv,rt⟩,r,hxr⟩:=h.en.cons
 have HX:=Xj hxr
 have HAL:Xq (K.g<w.heap.size/\∀ x,K.al=some x->x.block≠w.heap.size):=Xj ⟨h.glt,λ x hx=>by
  obtain⟨b,off,e,hb,_⟩:=h.tk at_ ⟨rk,rn,rv,rt⟩ (by have h1:=h.dr;rw[hxr] at h1;have:=congrArg (λ l=>l[0]?) h1;simpa using this)
  rw[e] at hx
  injection hx with hx
  subst hx
  show b≠_
  omega⟩
 have HP:=Xj (h.below (Xk w (.cells #[.int .i64 0,.int .i64 0,.int .i64 0,.string ⟨#[]⟩] 103)))
 have HR1:=Xj (Lt.new w ⟨0,0,0,[]⟩)
 have HG1:=Xj (Xm (Xk w (.cells #[.int .i64 0,.int .i64 0,.int .i64 0,.string ⟨#[]⟩] 103)) (some K.g))
 have HK0:=Xj hk0
 clear h hxr hk0
 go_enter Tryz.func148,Tryz.ntmps148
 go_upto_region 1 with fail
 obtain⟨w1,hw1⟩:∃ W,w.alloc (.cells #[.int .i64 0,.int .i64 0,.int .i64 0,.string ⟨#[]⟩] 103)=W:=⟨_,rfl⟩
 obtain⟨gr,hgr⟩:∃ x,w.heap.size=x:=⟨_,rfl⟩
 have HR1':Xq (Lt w1 gr ⟨0,0,0,[]⟩):=Xj (by rw[<- hw1,<- hgr];exact HR1.o)
 rw[hw1] at HP HG1 ⊢
 rw[hgr] at HAL
 (try rw[hgr])
 have HGR:=Xj hgr
 clear hw1 hgr HR1
 go_wp2_with fail
 refine(Jp K at_ bad rk rn rv rt r _ (HX.o▸HP.o)).mono ?_
 rintro e w2 ⟨rfl,hb2⟩
 have hb3:=Xk w2 (.cells #[.int .i64 rk,.int .i64 rn,.int .i64 rv,.string (st rt)] 103)
 have HB:=Xj (hb2.trans (hb3.mono hb2.size))
 have HT3:=Xj (Lt.new w2 ⟨rk,rn,rv,rt⟩)
 have HS2:Xq (gr<w2.heap.size):=Xj (by have:=HR1'.o.lt;have:=hb2.size;omega)
 go_upto_region 2 with fail
 obtain⟨w3,hw3⟩:∃ W,w2.alloc (.cells #[.int .i64 rk,.int .i64 rn,.int .i64 rv,.string (st rt)] 103)=W:=⟨_,rfl⟩
 obtain⟨gt,hgt⟩:∃ x,w2.heap.size=x:=⟨_,rfl⟩
 have HT4:Xq (Lt w3 gt ⟨rk,rn,rv,rt⟩):=Xj (by rw[<- hw3,<- hgt];exact HT3.o)
 rw[hw3] at HB ⊢
 rw[hgt] at HS2
 (try rw[hgt])
 clear hw3 hgt hb2 hb3 HT3
 have HP3:=Xj (HP.o.below HB.o)
 have HR3:=Xj (HR1'.o.be HB.o)
 have HG3:=Xj (Xg HG1.o (Xm HB.o (some K.g)))
 have hgl:=HAL.o.1
 have hgrt:=HS2.o
 obtain⟨t0,t1,t2,t3⟩:=HT4.o.cells
 obtain⟨y0,y1,y2,y3⟩:=HR3.o.cells
 obtain⟨g0,g1,g2,g3⟩:=HR3.o.froz
 have hlR:=HR3.o.lt
 have hlT:=HT4.o.lt
 (try dsimp only at t0 t1 t2 t3 y0 y1 y2 y3)
 obtain⟨-,p1,p2,f1,f2,hlp⟩:=HP3.o.cells
 have hjg:Xq (∀ W,W=(((((w3.setCell ⟨K.g,2,none⟩ (.bool true)).setCell ⟨gr,0,none⟩ (.int .i64 0)).setCell ⟨gr,1,none⟩ (.int .i64 0)).setCell ⟨gr,2,none⟩ (.int .i64 0)).setCell ⟨gr,3,none⟩ (.string ⟨#[]⟩))->Lt W gr ⟨0,0,0,[]⟩/\RAt W K at_ true rest/\w.grownBy W (some K.g)):=Xj (λ W hW=>by
  subst hW
  exact⟨(HR3.o.s1 (p:=⟨K.g,2,none⟩) (v:=.bool true) (by show gr≠K.g;omega)).s4 ⟨0,0,0,[]⟩,HP3.o.setBad.s4 ⟨by omega,HAL.o.2⟩ _ _ _ _,Gu (Xg HG3.o (Xc w3 K.g 2 (.bool true))) (by have:=HGR.o;omega)⟩)
 cases bad
 ·by_cases hk:rk=k
  ·subst hk
   have HK:Xq (kOf rest=rk/\hdT rest=⟨rk,rn,rv,rt⟩):=Xj (by rw[HX.o];exact⟨rfl,rfl⟩)
   have hn:=HP3.o.n
   have hlt:=HP3.o.lt.1
   have hw1:IntKind.i64.wrap ((at_:Int)+1)=(at_:Int)+1:=by rw[IntKind.wrap_i64];omega
   have HOK:Xq (∀ W,W=(((((w3.setCell ⟨K.g,1,none⟩ (.int .i64 ((at_:Int)+1))).setCell ⟨gr,0,none⟩ (.int .i64 rk)).setCell ⟨gr,1,none⟩ (.int .i64 rn)).setCell ⟨gr,2,none⟩ (.int .i64 rv)).setCell ⟨gr,3,none⟩ (.string (st rt)))->Lt W gr ⟨rk,rn,rv,rt⟩/\RAt W K (at_+1) false rest.tail/\w.grownBy W (some K.g)):=Xj (λ W hW=>by
    subst hW
    exact⟨(HR3.o.s1 (p:=⟨K.g,1,none⟩) (v:=.int .i64 ((at_:Int)+1)) (by show gr≠K.g;omega)).s4 ⟨rk,rn,rv,rt⟩,(HP3.o.step (by rw[HK.o.1];exact HK0.o)).s4 ⟨by omega,HAL.o.2⟩ _ _ _ _,Gu (Xg HG3.o (Xc w3 K.g 1 (.int .i64 ((at_:Int)+1)))) (by have:=HGR.o;omega)⟩)
   clear hn hlt
   go_wp2_with fail
   obtain⟨wz,hwz⟩:∃ W,(((((w3.setCell ⟨K.g,1,none⟩ (.int .i64 ((at_:Int)+1))).setCell ⟨gr,0,none⟩ (.int .i64 rk)).setCell ⟨gr,1,none⟩ (.int .i64 rn)).setCell ⟨gr,2,none⟩ (.int .i64 rv)).setCell ⟨gr,3,none⟩ (.string (st rt)))=W:=⟨_,rfl⟩
   (try rw[hwz])
   obtain⟨hd,hr,hg⟩:=HOK.o wz hwz.symm
   obtain⟨d0,d1,d2,d3⟩:=hd.cells
   (try dsimp only at d0 d1 d2 d3)
   refine bodyPost_ret (v:=Hx ⟨rk,rn,rv,rt⟩) (by simp[results,Tryz.results148,go_sem,d0,d1,d2,d3]) rfl ?_
   exact⟨at_+1,false,rest.tail,hr,hg,.inl ⟨rfl,rfl,HK.o.1,by rw[HK.o.2],rfl,rfl⟩⟩
  have dk:(rk==k)=false:=by rw[beq_eq_false_iff_ne];exact hk
  have dk2:(rk != k)=true:=by rw[bne_iff_ne];exact hk
  have HK:Xq (kOf rest≠k):=Xj (by rw[HX.o];exact hk)
  clear hk
  go_wp2_with fail
  obtain⟨wz,hwz⟩:∃ W,(((((w3.setCell ⟨K.g,2,none⟩ (.bool true)).setCell ⟨gr,0,none⟩ (.int .i64 0)).setCell ⟨gr,1,none⟩ (.int .i64 0)).setCell ⟨gr,2,none⟩ (.int .i64 0)).setCell ⟨gr,3,none⟩ (.string ⟨#[]⟩))=W:=⟨_,rfl⟩
  (try rw[hwz])
  obtain⟨hd,hr,hg⟩:=hjg.o wz hwz.symm
  obtain⟨d0,d1,d2,d3⟩:=hd.cells
  (try dsimp only at d0 d1 d2 d3)
  refine bodyPost_ret (v:=Hx ⟨0,0,0,[]⟩) (by simp[results,Tryz.results148,go_sem,d0,d1,d2,d3]) rfl ?_
  exact⟨at_,true,rest,hr,hg,.inr ⟨.inr HK.o,rfl,rfl,rfl,rfl⟩⟩
 go_wp2_with fail
 obtain⟨wz,hwz⟩:∃ W,(((((w3.setCell ⟨K.g,2,none⟩ (.bool true)).setCell ⟨gr,0,none⟩ (.int .i64 0)).setCell ⟨gr,1,none⟩ (.int .i64 0)).setCell ⟨gr,2,none⟩ (.int .i64 0)).setCell ⟨gr,3,none⟩ (.string ⟨#[]⟩))=W:=⟨_,rfl⟩
 (try rw[hwz])
 obtain⟨hd,hr,hg⟩:=hjg.o wz hwz.symm
 obtain⟨d0,d1,d2,d3⟩:=hd.cells
 (try dsimp only at d0 d1 d2 d3)
 refine bodyPost_ret (v:=Hx ⟨0,0,0,[]⟩) (by simp[results,Tryz.results148,go_sem,d0,d1,d2,d3]) rfl ?_
 exact⟨at_,true,rest,hr,hg,.inr ⟨.inl rfl,rfl,rfl,rfl,rfl⟩⟩
theorem Dj (m:Nat) (hA:CE 169 .su m):CE 145 .cm m:=by
 intro K at_ rest w hP hm
 have HM1:=Xj ((MS.init hP).al zex)
 have HR1:=Xj (Lc.zero w)
 have HA:=Xj hA
 have HMm:=Xj hm
 clear hA hP hm
 go_enter Tryz.func145,Tryz.ntmps145
 go_upto_region 1 with fail
 obtain⟨w1,hw1⟩:∃ W,w.alloc zex=W:=⟨_,rfl⟩
 obtain⟨gR,hgR⟩:∃ x,w.heap.size=x:=⟨_,rfl⟩
 (try rw[show w.alloc (.cells #[.int .i64 0,.int .i64 0,.int .i64 0,.int .i64 0,.string { data := #[] },.slice none 0 0] 37)=w1 from hw1])
 rw[hw1] at HM1 HR1
 rw[hgR] at HR1
 (try rw[hgR])
 have HGR:=Xj hgR
 have HS1:Xq (w1.heap.size=gR+1):=Xj (by rw[<- hw1,<- hgR];simp)
 clear hw1 hgR
 go_wp2_with fail
 refine(HA.o K at_ rest _ HM1.o.pat HMm.o).mono ?_
 rintro e w2 ⟨h,a,n,c,ok,at2,r,rfl,hp2,H6,hg2,hO⟩
 have HM2:=Xj (HM1.o.call hp2 hg2)
 have HR2:=Xj (HR1.o.gr hg2 (by have:=HM1.o.gl;have:=HGR.o;omega))
 have hs2:=hg2.size
 have HM3:=Xj (HM2.o.al (.cells (ecs h (.slice a n c)) 37))
 have HR3:=Xj (HR2.o.al (.cells (ecs h (.slice a n c)) 37))
 have HX3:=Xj (Lc.new w2 h (.slice a n c))
 have HJ:Xq ((ok=true/\∃ ar,Ps .su rest (.ok (Xb h ar) r)/\Xv (w2.alloc (.cells (ecs h (.slice a n c)) 37)) (TBk w gR w2.heap.size) ar (.slice a n c)/\r.length<rest.length)\/(ok=false/\Ps .su rest (.bad r))):=Xj (by
  rcases hO.o with⟨h1,ar,h2,h3,h4⟩|⟨h1,h2⟩
  ·exact .inl ⟨h1,ar,h2,Xy (Yu _ h3) (λ b hb _=>⟨by have:=hb.1;have:=HS1.o;have:=HGR.o;omega,by have:=hb.1;have:=HS1.o;omega,hb.2⟩),h4⟩
  exact .inr ⟨h1,h2⟩)
 clear hO hp2 hg2
 go_upto_region 2 with fail
 obtain⟨w3,hw3⟩:∃ W,w2.alloc (.cells (ecs h (.slice a n c)) 37)=W:=⟨_,rfl⟩
 obtain⟨gx,hgx⟩:∃ x,w2.heap.size=x:=⟨_,rfl⟩
 (try rw[show w2.alloc (.cells #[.int .i64 h.k,.int .i64 h.op,.int .i64 h.v,.int .i64 h.ln,.string (st h.nm),.slice a n c] 37)=w3 from hw3])
 rw[hw3] at HM3 HR3 HX3 HJ
 rw[hgx] at HX3 HJ
 (try rw[hgx])
 have HGX:Xq (gR<gx):=Xj (by have:=HS1.o;omega)
 have HLE:=Xj H6
 have hgg:=HM3.o.gl
 have hqv:=HGR.o
 have hzj:=HGX.o
 clear hw3 hgx hs2 H6 HM2 HR2 HM1 HR1
 obtain⟨x0,x1,x2,x3,x4,x5⟩:=HX3.o.cells
 obtain⟨y0,y1,y2,y3,y4,y5⟩:=HR3.o.cells
 obtain⟨g0,g1,g2,g3,g4,g5⟩:=HR3.o.froz
 have hlR:=HR3.o.lt
 have hlX:=HX3.o.lt
 cases ok
 ·have HB:Xq (Ps .cm rest (.bad r)):=Xj (by
   rcases HJ.o with⟨h1,_⟩|⟨_,h1⟩
   ·cases h1
   exact Ps.cm_bad h1)
  have HRf:=HR3
  have HMf:=HM3
  go_wp2_with fail
  have HDZ:=Xj (HRf.o.s6 h (.slice a n c))
  have HMZ:=Xj (HMf.o.s6 (b:=gR) (by have:=HGR.o;omega) (.int .i64 (Hd.k h)) (.int .i64 (Hd.op h)) (.int .i64 (Hd.v h)) (.int .i64 (Hd.ln h)) (.string (st (Hd.nm h))) (.slice a n c))
  have HEZ:=Xj (show _ from (Or.inr ⟨rfl,HB.o⟩:(false=true/\∃ ar,Ps .cm rest (.ok (Xb h ar) r)/\Xv (set6 w3 gR (.int .i64 (Hd.k h)) (.int .i64 (Hd.op h)) (.int .i64 (Hd.v h)) (.int .i64 (Hd.ln h)) (.string (st (Hd.nm h))) (.slice a n c)) (λ b=>w.heap.size<=b) ar (.slice a n c)/\r.length<rest.length)\/(false=false/\Ps .cm rest (.bad r))))
  obtain⟨wz,hwz⟩:∃ W,set6 w3 gR (.int .i64 (Hd.k h)) (.int .i64 (Hd.op h)) (.int .i64 (Hd.v h)) (.int .i64 (Hd.ln h)) (.string (st (Hd.nm h))) (.slice a n c)=W:=⟨_,rfl⟩
  have hZ:=hwz
  unfold set6 at hZ
  (try rw[hZ])
  rw[hwz] at HDZ HMZ HEZ
  obtain⟨d0,d1,d2,d3,d4,d5⟩:=HDZ.o.cells
  refine bodyPost_ret (v:=.tuple #[exv h (.slice a n c),.bool false]) (by simp[results,Tryz.results145,go_sem,d0,d1,d2,d3,d4,d5]) rfl ?_
  exact⟨h,_,_,_,false,at2,r,rfl,HMZ.o.pat,by exact HLE.o,HMZ.o.gr,Xj HEZ.o⟩
 obtain⟨ar,hps,har,hlt⟩:∃ ar,Ps .su rest (.ok (Xb h ar) r)/\Xv w3 (TBk w gR gx) ar (.slice a n c)/\r.length<rest.length:=by
  rcases HJ.o with⟨_,h1⟩|⟨h1,_⟩
  ·exact h1
  cases h1
 have HPS:=Xj hps
 have HAR:=Xj har
 have HLT:=Xj hlt
 have HOP:=Xj (Jb K 8 11 (by omega) at2 r w3 HM3.o.pat)
 clear hps har hlt HJ x0 x1 x2 x3 x4 x5 y0 y1 y2 y3 y4 y5 g0 g1 g2 g3 g4 g5
 go_wp2_with fail
 refine HOP.o.mono ?_
 rintro e w4 ⟨at4,r4,hp4,hg4,hO⟩
 have HM4:=Xj (HM3.o.call hp4 hg4)
 have HR4:=Xj (HR3.o.gr hg4 (by omega))
 have HX4:=Xj (HX3.o.gr hg4 (by omega))
 have hju:=Xj (Yl HAR.o hg4 (λ b hb=>by have:=hb.1;omega))
 obtain⟨x0,x1,x2,x3,x4,x5⟩:=HX4.o.cells
 obtain⟨y0,y1,y2,y3,y4,y5⟩:=HR4.o.cells
 obtain⟨g0,g1,g2,g3,g4,g5⟩:=HR4.o.froz
 have hzy:=HR4.o.lt
 have hlX4:=HX4.o.lt
 clear hp4 hg4
 rcases hO with⟨hT,rfl,rfl,rfl⟩|⟨hT,rfl,rfl,rfl⟩
 ·have HT:=Xj hT
  obtain⟨op,hop⟩:∃ o,Yy 8 11 r=o:=⟨_,rfl⟩
  obtain⟨tn,htn⟩:∃ o,Yj r=o:=⟨_,rfl⟩
  have HLN:=Xj (And.intro hop htn)
  have HRT:Xq (r.tail.length<r.length):=Xj (Jv (by intro e;rw[e] at hT;exact hT rfl))
  have dop:(op==0)=false:=by rw[beq_eq_false_iff_ne,<- hop];exact hT
  have dop2:(op != 0)=true:=by rw[bne_iff_ne,<- hop];exact hT
  (try rw[hop])
  (try rw[htn])
  clear hT hop htn x0 x1 x2 x3 x4 x5 y0 y1 y2 y3 y4 y5 g0 g1 g2 g3 g4 g5
  go_wp2_with fail
  refine(HA.o K (at2+1) r.tail _ HM4.o.pat (by have:=HRT.o;have:=HLE.o;have:=HMm.o;omega)).mono ?_
  rintro e w7 ⟨h2,a2,n2,c2,ok2,at7,r7,rfl,hp7,hI,hg7,hH⟩
  have hs7:=hg7.size
  have HM7:=Xj ((HM4.o.call hp7 hg7).al (.cells (ecs h2 (.slice a2 n2 c2)) 37))
  have HR7:=Xj ((HR4.o.gr hg7 (by omega)).al (.cells (ecs h2 (.slice a2 n2 c2)) 37))
  have HX7:=Xj ((HX4.o.gr hg7 (by omega)).al (.cells (ecs h2 (.slice a2 n2 c2)) 37))
  have HY7:=Xj (Lc.new w7 h2 (.slice a2 n2 c2))
  have hjc:=Xj (Xy (Yu (.cells (ecs h2 (.slice a2 n2 c2)) 37) (Yl hju.o hg7 (λ b hb=>by have:=hb.1;omega))) (λ b hb _=>hb.1))
  have hjz:Xq ((ok2=true/\∃ ar2,Ps .su r.tail (.ok (Xb h2 ar2) r7)/\Xv (w7.alloc (.cells (ecs h2 (.slice a2 n2 c2)) 37)) (TBk w gR gx) ar2 (.slice a2 n2 c2)/\r7.length<r.tail.length)\/(ok2=false/\Ps .su r.tail (.bad r7))):=Xj (by
   rcases hH.o with⟨h1,ar2,h2',h3,h4⟩|hr
   ·exact .inl ⟨h1,ar2,h2',Xy (Yu _ h3) (λ b hb _=>⟨by have:=hb.1;omega,by have:=hb.1;omega,by have:=hb.1;omega⟩),h4⟩
   exact .inr hr)
  clear hH hp7 hg7 HM4 HR4 HX4 hju
  go_upto_region 7 with fail
  obtain⟨w8,hw8⟩:∃ W,w7.alloc (.cells (ecs h2 (.slice a2 n2 c2)) 37)=W:=⟨_,rfl⟩
  obtain⟨gy,hgy⟩:∃ x,w7.heap.size=x:=⟨_,rfl⟩
  (try rw[show w7.alloc (.cells #[.int .i64 h2.k,.int .i64 h2.op,.int .i64 h2.v,.int .i64 h2.ln,.string (st h2.nm),.slice a2 n2 c2] 37)=w8 from hw8])
  rw[hw8] at HM7 HR7 HX7 HY7 hjc hjz
  rw[hgy] at HY7 hs7
  (try rw[hgy])
  clear hw8 hgy
  obtain⟨q0,q1,q2,q3,q4,q5⟩:=HX7.o.cells
  obtain⟨v0,v1,v2,v3,v4,v5⟩:=HY7.o.cells
  obtain⟨k0,k1,k2,k3,k4,k5⟩:=HR7.o.froz
  obtain⟨u0,u1,u2,u3,u4,u5⟩:=HR7.o.cells
  have hqd:=HX7.o.lt
  have hqh:=HY7.o.lt
  have hxw:=HR7.o.lt
  have hY:∀ W,W=(set6 w8 gR (.int .i64 6) (.int .i64 op) (.int .i64 0) (.int .i64 tn) (.string { data := #[] }) (.slice (some ⟨w8.heap.size,0,none⟩) 2 2)).alloc (.cells #[.int .i64 h.k,.int .i64 h.op,.int .i64 h.v,.int .i64 h.ln,.string (st h.nm),.slice a n c,.int .i64 h2.k,.int .i64 h2.op,.int .i64 h2.v,.int .i64 h2.ln,.string (st h2.nm),.slice a2 n2 c2] 37) ->
    Lc W gR ⟨6,op,0,tn,[]⟩ (.slice (some ⟨w8.heap.size,0,none⟩) 2 2)/\EP K .cm rest w (.returned (.tuple #[exv ⟨6,op,0,tn,[]⟩ (.slice (some ⟨w8.heap.size,0,none⟩) 2 2),.bool ok2])) W:=λ W hW=>by
   rw[<- Yf _ HR7.o.lt] at hW
   have hA:=HR7.o.al (.cells #[.int .i64 h.k,.int .i64 h.op,.int .i64 h.v,.int .i64 h.ln,.string (st h.nm),.slice a n c,.int .i64 h2.k,.int .i64 h2.op,.int .i64 h2.v,.int .i64 h2.ln,.string (st h2.nm),.slice a2 n2 c2] 37)
   subst hW
   have hms:=(HM7.o.al (.cells #[.int .i64 h.k,.int .i64 h.op,.int .i64 h.v,.int .i64 h.ln,.string (st h.nm),.slice a n c,.int .i64 h2.k,.int .i64 h2.op,.int .i64 h2.v,.int .i64 h2.ln,.string (st h2.nm),.slice a2 n2 c2] 37)).s6 (b:=gR) (by omega) (.int .i64 6) (.int .i64 op) (.int .i64 0) (.int .i64 tn) (.string { data := #[] }) (.slice (some ⟨w8.heap.size,0,none⟩) 2 2)
   refine⟨hA.s6 ⟨6,op,0,tn,[]⟩ (.slice (some ⟨w8.heap.size,0,none⟩) 2 2),⟨6,op,0,tn,[]⟩,_,_,_,ok2,at7,r7,rfl,hms.pat,by have:=HRT.o;have:=HLE.o;omega,hms.gr,Xj ?_⟩
   rcases hjz.o with⟨h1,ar2,h2',h3,h4⟩|⟨h1,h2'⟩
   ·refine .inl ⟨h1,(Xb h ar).app (Xb h2 ar2),?_,?_,by have:=HRT.o;have:=HLT.o;omega⟩
    ·have:=Ps.cm_two HPS.o HT.o h2'
     rw[HLN.o.1,HLN.o.2] at this
     exact this
    exact Xy (Xd (Qt (Q:=TBk w gR gx) hjc.o h3 (λ b hb _=>hb) ⟨by have:=HM7.o.gr.size;omega,by have:=HR7.o.lt;omega,by have:=HX7.o.lt;omega⟩) (λ b hb=>hb.2.1)) (λ b hb _=>hb.1)
   exact .inr ⟨h1,Ps.cm_two_bad HPS.o HT.o h2'⟩
  have H9:=Xj hY
  clear hY
  go_wp2_with fail
  obtain⟨wz,hwz⟩:∃ W,(set6 w8 gR (.int .i64 6) (.int .i64 op) (.int .i64 0) (.int .i64 tn) (.string { data := #[] }) (.slice (some ⟨w8.heap.size,0,none⟩) 2 2)).alloc (.cells #[.int .i64 h.k,.int .i64 h.op,.int .i64 h.v,.int .i64 h.ln,.string (st h.nm),.slice a n c,.int .i64 h2.k,.int .i64 h2.op,.int .i64 h2.v,.int .i64 h2.ln,.string (st h2.nm),.slice a2 n2 c2] 37)=W:=⟨_,rfl⟩
  have hZ:=hwz
  unfold set6 at hZ
  (try rw[hZ])
  obtain⟨hd,hep⟩:=H9.o wz hwz.symm
  obtain⟨d0,d1,d2,d3,d4,d5⟩:=hd.cells
  refine bodyPost_ret (v:=.tuple #[exv ⟨6,op,0,tn,[]⟩ (.slice (some ⟨w8.heap.size,0,none⟩) 2 2),.bool ok2]) (by simp[results,Tryz.results145,go_sem,d0,d1,d2,d3,d4,d5]) rfl ?_
  exact hep
 have HZ:Xq (Ps .cm rest (.ok (Xb h ar) r4)):=Xj (Ps.cm_end HPS.o hT)
 have HRf:=HR4
 have HMf:=HM4
 clear hT
 go_wp2_with fail
 have HDZ:=Xj (HRf.o.s6 h (.slice a n c))
 have HMZ:=Xj (HMf.o.s6 (b:=gR) (by have:=HGR.o;omega) (.int .i64 (Hd.k h)) (.int .i64 (Hd.op h)) (.int .i64 (Hd.v h)) (.int .i64 (Hd.ln h)) (.string (st (Hd.nm h))) (.slice a n c))
 have HEZ:=Xj (Xy (Xd (v0:=.int .i64 (Hd.k h)) (v1:=.int .i64 (Hd.op h)) (v2:=.int .i64 (Hd.v h)) (v3:=.int .i64 (Hd.ln h)) (v4:=.string (st (Hd.nm h))) (v5:=.slice a n c) hju.o (λ b hb=>hb.2.1)) (Q:=λ b=>w.heap.size<=b) (λ b hb _=>hb.1))
 obtain⟨wz,hwz⟩:∃ W,set6 w4 gR (.int .i64 (Hd.k h)) (.int .i64 (Hd.op h)) (.int .i64 (Hd.v h)) (.int .i64 (Hd.ln h)) (.string (st (Hd.nm h))) (.slice a n c)=W:=⟨_,rfl⟩
 have hZ:=hwz
 unfold set6 at hZ
 (try rw[hZ])
 rw[hwz] at HDZ HMZ HEZ
 obtain⟨d0,d1,d2,d3,d4,d5⟩:=HDZ.o.cells
 refine bodyPost_ret (v:=.tuple #[exv h (.slice a n c),.bool true]) (by simp[results,Tryz.results145,go_sem,d0,d1,d2,d3,d4,d5]) rfl ?_
 exact⟨h,_,_,_,true,at4,r4,rfl,HMZ.o.pat,HLE.o,HMZ.o.gr,Xj (.inl ⟨rfl,ar,HZ.o,HEZ.o,HLT.o⟩)⟩
theorem Hz (m:Nat) (hC:CE 206 .ca m) (hU:∀ j,j<m->CE 202 .un j):CE 202 .un m:=by
 intro K at_ rest w hP hm
 have HM1:=Xj ((MS.init hP).al zex)
 have HR1:=Xj (Lc.zero w)
 have HC:=Xj hC
 have HMm:=Xj hm
 have HU:Xq (∀ (w2:World),PAt w2 K (at_+1) rest.tail->rest.tail.length<m->Calls Tryz.prog 202 #[.pointer (some ⟨K.g,0,none⟩)] w2 (EP K .un rest.tail w2)):=Xj (λ w2 hp hl=>hU _ hl K (at_+1) rest.tail w2 hp (Nat.le_refl _))
 obtain⟨⟨tk,tn,tv,tt⟩,r0,hr0⟩:=hP.en.cons
 have HRT:Xq (rest.tail.length<rest.length):=Xj (by rw[hr0];simp)
 have HLN:Xq (Yj rest=tn):=Xj (by rw[hr0];rfl)
 have HX0:=Xj hr0
 clear hC hU hP hm hr0
 go_enter Tryz.func202,Tryz.ntmps202
 go_upto_region 1 with fail
 obtain⟨w1,hw1⟩:∃ W,w.alloc zex=W:=⟨_,rfl⟩
 obtain⟨gR,hgR⟩:∃ x,w.heap.size=x:=⟨_,rfl⟩
 (try rw[show w.alloc (.cells #[.int .i64 0,.int .i64 0,.int .i64 0,.int .i64 0,.string { data := #[] },.slice none 0 0] 37)=w1 from hw1])
 rw[hw1] at HM1 HR1
 rw[hgR] at HR1
 (try rw[hgR])
 have HGR:=Xj hgR
 have HS1:Xq (w1.heap.size=gR+1):=Xj (by rw[<- hw1,<- hgR];simp)
 clear hw1 hgR
 have HLO:=Xj (Zv K at_ tk tn tv tt r0 w1 (HX0.o▸HM1.o.pat))
 have hfd:∀ W:World,(Instr.field 103 (.agg #[.int .i64 tk,.int .i64 tn,.int .i64 tv,.string (st tt)]) 1).run Tryz.prog W=.ok (.int .i64 tn) W:=λ _=>by kernel_rfl
 go_wp2_with fail
 refine HLO.o.mono ?_
 rintro e w2 ⟨rfl,hb2⟩
 have HM2:=Xj (HM1.o.be hb2)
 have HR2:=Xj (HR1.o.be hb2)
 clear hb2 HM1 HR1
 go_wp2_with fail
 refine(Yd K at_ rest [45] _ HM2.o.pat).mono ?_
 rintro e w3 ⟨at3,r3,rfl,hp3,hg3,hc3⟩
 have HM3:=Xj (HM2.o.call hp3 hg3)
 have HR3:=Xj (HR2.o.gr hg3 (by have:=HM2.o.gl;have:=HGR.o;omega))
 clear hp3 hg3 HM2 HR2
 rcases hc3 with⟨hT,rfl,rfl⟩|⟨hT,rfl,rfl⟩
 ·have HT:=Xj hT
  rw[hT]
  clear hT
  have hqk:=HM3
  have hzq:=HR3
  have hU:=HU.o
  go_wp2_with fail
  refine(hU _ hqk.o.pat (by have:=HRT.o;have:=HMm.o;omega)).mono ?_
  rintro e w7 ⟨h,a,n,c,ok,at7,r7,rfl,hp7,hI,hg7,hH⟩
  have hs7:=hg7.size
  have hgl:=hqk.o.gl
  have hwb:=hqk.o.gr.size
  have HM7:=Xj ((hqk.o.call hp7 hg7).al (.cells (ecs h (.slice a n c)) 37))
  have HR7:=Xj ((hzq.o.gr hg7 (by have:=HGR.o;omega)).al (.cells (ecs h (.slice a n c)) 37))
  have HY7:=Xj (Lc.new w7 h (.slice a n c))
  have HWB:Xq (gR<w3.heap.size):=Xj hzq.o.lt
  have hjz:Xq ((ok=true/\∃ ar,Ps .un rest.tail (.ok (Xb h ar) r7)/\Xv (w7.alloc (.cells (ecs h (.slice a n c)) 37)) (TBk w gR w7.heap.size) ar (.slice a n c)/\r7.length<rest.tail.length)\/(ok=false/\Ps .un rest.tail (.bad r7))):=Xj (by
   rcases hH.o with⟨h1,ar2,h2',h3,h4⟩|hr
   ·exact .inl ⟨h1,ar2,h2',Xy (Yu _ h3) (λ b hb _=>⟨by have:=hb.1;omega,by have:=hb.1;have:=HWB.o;omega,hb.2⟩),h4⟩
   exact .inr hr)
  clear hH hp7 hg7
  go_upto_region 8 with fail
  obtain⟨w8,hw8⟩:∃ W,w7.alloc (.cells (ecs h (.slice a n c)) 37)=W:=⟨_,rfl⟩
  obtain⟨gx,hgx⟩:∃ x,w7.heap.size=x:=⟨_,rfl⟩
  (try rw[show w7.alloc (.cells #[.int .i64 h.k,.int .i64 h.op,.int .i64 h.v,.int .i64 h.ln,.string (st h.nm),.slice a n c] 37)=w8 from hw8])
  rw[hw8] at HM7 HR7 HY7 hjz
  rw[hgx] at HY7 hjz hs7
  (try rw[hgx])
  clear hw8 hgx
  obtain⟨v0,v1,v2,v3,v4,v5⟩:=HY7.o.cells
  obtain⟨k0,k1,k2,k3,k4,k5⟩:=HR7.o.froz
  obtain⟨u0,u1,u2,u3,u4,u5⟩:=HR7.o.cells
  have hqh:=HY7.o.lt
  have hxw:=HR7.o.lt
  have hqv:=HGR.o
  have hY:∀ W,W=(set6 w8 gR (.int .i64 5) (.int .i64 1) (.int .i64 0) (.int .i64 tn) (.string { data := #[] }) (.slice (some ⟨w8.heap.size,0,none⟩) 1 1)).alloc (.cells #[.int .i64 h.k,.int .i64 h.op,.int .i64 h.v,.int .i64 h.ln,.string (st h.nm),.slice a n c] 37) ->
    Lc W gR ⟨5,1,0,tn,[]⟩ (.slice (some ⟨w8.heap.size,0,none⟩) 1 1)/\EP K .un rest w (.returned (.tuple #[exv ⟨5,1,0,tn,[]⟩ (.slice (some ⟨w8.heap.size,0,none⟩) 1 1),.bool ok])) W:=λ W hW=>by
   rw[<- Yf _ HR7.o.lt] at hW
   have hA:=HR7.o.al (.cells #[.int .i64 h.k,.int .i64 h.op,.int .i64 h.v,.int .i64 h.ln,.string (st h.nm),.slice a n c] 37)
   subst hW
   have hms:=(HM7.o.al (.cells #[.int .i64 h.k,.int .i64 h.op,.int .i64 h.v,.int .i64 h.ln,.string (st h.nm),.slice a n c] 37)).s6 (b:=gR) (by omega) (.int .i64 5) (.int .i64 1) (.int .i64 0) (.int .i64 tn) (.string { data := #[] }) (.slice (some ⟨w8.heap.size,0,none⟩) 1 1)
   refine⟨hA.s6 ⟨5,1,0,tn,[]⟩ (.slice (some ⟨w8.heap.size,0,none⟩) 1 1),⟨5,1,0,tn,[]⟩,_,_,_,ok,at7,r7,rfl,hms.pat,by have:=HRT.o;omega,hms.gr,Xj ?_⟩
   rcases hjz.o with⟨h1,ar,h2,h3,h4⟩|⟨h1,h2⟩
   ·refine .inl ⟨h1,Xb h ar,?_,?_,by have:=HRT.o;omega⟩
    ·have:=Ps.un_neg HT.o h2
     rw[HLN.o] at this
     exact this
    exact Xy (Xd (Jq (Q:=TBk w gR gx) h3 (λ b hb _=>hb) ⟨by have:=HM7.o.gr.size;omega,by have:=HR7.o.lt;omega,by have:=HY7.o.lt;omega⟩) (λ b hb=>hb.2.1)) (λ b hb _=>hb.1)
   exact .inr ⟨h1,Ps.un_neg_bad HT.o h2⟩
  have H9:=Xj hY
  clear hY
  go_wp2_with fail
  obtain⟨wz,hwz⟩:∃ W,(set6 w8 gR (.int .i64 5) (.int .i64 1) (.int .i64 0) (.int .i64 tn) (.string { data := #[] }) (.slice (some ⟨w8.heap.size,0,none⟩) 1 1)).alloc (.cells #[.int .i64 h.k,.int .i64 h.op,.int .i64 h.v,.int .i64 h.ln,.string (st h.nm),.slice a n c] 37)=W:=⟨_,rfl⟩
  have hZ:=hwz
  unfold set6 at hZ
  (try rw[hZ])
  obtain⟨hd,hep⟩:=H9.o wz hwz.symm
  obtain⟨d0,d1,d2,d3,d4,d5⟩:=hd.cells
  refine bodyPost_ret (v:=.tuple #[exv ⟨5,1,0,tn,[]⟩ (.slice (some ⟨w8.heap.size,0,none⟩) 1 1),.bool ok]) (by simp[results,Tryz.results202,go_sem,d0,d1,d2,d3,d4,d5]) rfl ?_
  exact hep
 have HN0:=Xj hT
 rw[hT]
 clear hT
 go_wp2_with fail
 refine(Yd K at3 r3 [33] _ HM3.o.pat).mono ?_
 rintro e w4 ⟨at4,r4,rfl,hp4,hg4,hc4⟩
 have HM4:=Xj (HM3.o.call hp4 hg4)
 have HR4:=Xj (HR3.o.gr hg4 (by have:=HM3.o.gl;have:=HGR.o;omega))
 clear hp4 hg4 HM3 HR3
 rcases hc4 with⟨hT,rfl,rfl⟩|⟨hT,rfl,rfl⟩
 ·have HT:=Xj hT
  rw[hT]
  clear hT
  have hqk:=HM4
  have hzq:=HR4
  have hU:=HU.o
  go_wp2_with fail
  refine(hU _ hqk.o.pat (by have:=HRT.o;have:=HMm.o;omega)).mono ?_
  rintro e w7 ⟨h,a,n,c,ok,at7,r7,rfl,hp7,hI,hg7,hH⟩
  have hs7:=hg7.size
  have hgl:=hqk.o.gl
  have hwb:=hqk.o.gr.size
  have HM7:=Xj ((hqk.o.call hp7 hg7).al (.cells (ecs h (.slice a n c)) 37))
  have HR7:=Xj ((hzq.o.gr hg7 (by have:=HGR.o;omega)).al (.cells (ecs h (.slice a n c)) 37))
  have HY7:=Xj (Lc.new w7 h (.slice a n c))
  have HWB:Xq (gR<w4.heap.size):=Xj hzq.o.lt
  have hjz:Xq ((ok=true/\∃ ar,Ps .un r3.tail (.ok (Xb h ar) r7)/\Xv (w7.alloc (.cells (ecs h (.slice a n c)) 37)) (TBk w gR w7.heap.size) ar (.slice a n c)/\r7.length<r3.tail.length)\/(ok=false/\Ps .un r3.tail (.bad r7))):=Xj (by
   rcases hH.o with⟨h1,ar2,h2',h3,h4⟩|hr
   ·exact .inl ⟨h1,ar2,h2',Xy (Yu _ h3) (λ b hb _=>⟨by have:=hb.1;omega,by have:=hb.1;have:=HWB.o;omega,hb.2⟩),h4⟩
   exact .inr hr)
  clear hH hp7 hg7
  go_upto_region 8 with fail
  obtain⟨w8,hw8⟩:∃ W,w7.alloc (.cells (ecs h (.slice a n c)) 37)=W:=⟨_,rfl⟩
  obtain⟨gx,hgx⟩:∃ x,w7.heap.size=x:=⟨_,rfl⟩
  (try rw[show w7.alloc (.cells #[.int .i64 h.k,.int .i64 h.op,.int .i64 h.v,.int .i64 h.ln,.string (st h.nm),.slice a n c] 37)=w8 from hw8])
  rw[hw8] at HM7 HR7 HY7 hjz
  rw[hgx] at HY7 hjz hs7
  (try rw[hgx])
  clear hw8 hgx
  obtain⟨v0,v1,v2,v3,v4,v5⟩:=HY7.o.cells
  obtain⟨k0,k1,k2,k3,k4,k5⟩:=HR7.o.froz
  obtain⟨u0,u1,u2,u3,u4,u5⟩:=HR7.o.cells
  have hqh:=HY7.o.lt
  have hxw:=HR7.o.lt
  have hqv:=HGR.o
  have hY:∀ W,W=(set6 w8 gR (.int .i64 5) (.int .i64 2) (.int .i64 0) (.int .i64 tn) (.string { data := #[] }) (.slice (some ⟨w8.heap.size,0,none⟩) 1 1)).alloc (.cells #[.int .i64 h.k,.int .i64 h.op,.int .i64 h.v,.int .i64 h.ln,.string (st h.nm),.slice a n c] 37) ->
    Lc W gR ⟨5,2,0,tn,[]⟩ (.slice (some ⟨w8.heap.size,0,none⟩) 1 1)/\EP K .un r3 w (.returned (.tuple #[exv ⟨5,2,0,tn,[]⟩ (.slice (some ⟨w8.heap.size,0,none⟩) 1 1),.bool ok])) W:=λ W hW=>by
   rw[<- Yf _ HR7.o.lt] at hW
   have hA:=HR7.o.al (.cells #[.int .i64 h.k,.int .i64 h.op,.int .i64 h.v,.int .i64 h.ln,.string (st h.nm),.slice a n c] 37)
   subst hW
   have hms:=(HM7.o.al (.cells #[.int .i64 h.k,.int .i64 h.op,.int .i64 h.v,.int .i64 h.ln,.string (st h.nm),.slice a n c] 37)).s6 (b:=gR) (by omega) (.int .i64 5) (.int .i64 2) (.int .i64 0) (.int .i64 tn) (.string { data := #[] }) (.slice (some ⟨w8.heap.size,0,none⟩) 1 1)
   refine⟨hA.s6 ⟨5,2,0,tn,[]⟩ (.slice (some ⟨w8.heap.size,0,none⟩) 1 1),⟨5,2,0,tn,[]⟩,_,_,_,ok,at7,r7,rfl,hms.pat,by have:=HRT.o;omega,hms.gr,Xj ?_⟩
   rcases hjz.o with⟨h1,ar,h2,h3,h4⟩|⟨h1,h2⟩
   ·refine .inl ⟨h1,Xb h ar,?_,?_,by have:=HRT.o;omega⟩
    ·have:=Ps.un_not HN0.o HT.o h2
     rw[HLN.o] at this
     exact this
    exact Xy (Xd (Jq (Q:=TBk w gR gx) h3 (λ b hb _=>hb) ⟨by have:=HM7.o.gr.size;omega,by have:=HR7.o.lt;omega,by have:=HY7.o.lt;omega⟩) (λ b hb=>hb.2.1)) (λ b hb _=>hb.1)
   exact .inr ⟨h1,Ps.un_not_bad HN0.o HT.o h2⟩
  have H9:=Xj hY
  clear hY
  go_wp2_with fail
  obtain⟨wz,hwz⟩:∃ W,(set6 w8 gR (.int .i64 5) (.int .i64 2) (.int .i64 0) (.int .i64 tn) (.string { data := #[] }) (.slice (some ⟨w8.heap.size,0,none⟩) 1 1)).alloc (.cells #[.int .i64 h.k,.int .i64 h.op,.int .i64 h.v,.int .i64 h.ln,.string (st h.nm),.slice a n c] 37)=W:=⟨_,rfl⟩
  have hZ:=hwz
  unfold set6 at hZ
  (try rw[hZ])
  obtain⟨hd,hep⟩:=H9.o wz hwz.symm
  obtain⟨d0,d1,d2,d3,d4,d5⟩:=hd.cells
  refine bodyPost_ret (v:=.tuple #[exv ⟨5,2,0,tn,[]⟩ (.slice (some ⟨w8.heap.size,0,none⟩) 1 1),.bool ok]) (by simp[results,Tryz.results202,go_sem,d0,d1,d2,d3,d4,d5]) rfl ?_
  exact hep
 have HN1:=Xj hT
 rw[hT]
 clear hT
 go_wp2_with fail
 refine(HC.o K _ _ _ HM4.o.pat HMm.o).mono ?_
 rintro e w7 ⟨h,a,n,c,ok,at7,r7,rfl,hp7,hI,hg7,hH⟩
 have hwb:=HM4.o.gr.size
 have HWB:Xq (gR<w4.heap.size):=Xj HR4.o.lt
 have HMf:=Xj (HM4.o.call hp7 hg7)
 have HRf:=Xj (HR4.o.gr hg7 (by have:=HM4.o.gl;have:=HGR.o;omega))
 have HRS:=Xj hH.o
 have HL7:=Xj hI
 clear hH hp7 hg7 hI
 obtain⟨k0,k1,k2,k3,k4,k5⟩:=HRf.o.froz
 obtain⟨u0,u1,u2,u3,u4,u5⟩:=HRf.o.cells
 have hxw:=HRf.o.lt
 have hqv:=HGR.o
 go_wp2_with fail
 have HDZ:=Xj (HRf.o.s6 h (.slice a n c))
 have HMZ:=Xj (HMf.o.s6 (b:=gR) (by have:=HGR.o;omega) (.int .i64 (Hd.k h)) (.int .i64 (Hd.op h)) (.int .i64 (Hd.v h)) (.int .i64 (Hd.ln h)) (.string (st (Hd.nm h))) (.slice a n c))
 have HEZ:=Xj (show (ok=true/\∃ ar,Ps .un r4 (.ok (Xb h ar) r7)/\Xv (set6 w7 gR (.int .i64 (Hd.k h)) (.int .i64 (Hd.op h)) (.int .i64 (Hd.v h)) (.int .i64 (Hd.ln h)) (.string (st (Hd.nm h))) (.slice a n c)) (λ b=>w.heap.size<=b) ar (.slice a n c)/\r7.length<r4.length)\/(ok=false/\Ps .un r4 (.bad r7)) from by
     rcases HRS.o with⟨h1,ar,h2,h3,h4⟩|⟨h1,h2⟩
     ·exact .inl ⟨h1,ar,Ps.un_ca HN0.o HN1.o h2,Xy (Xd h3 (λ b hb=>by have:=HWB.o;omega)) (λ b hb _=>by omega),h4⟩
     exact .inr ⟨h1,Ps.un_ca HN0.o HN1.o h2⟩)
 obtain⟨wz,hwz⟩:∃ W,set6 w7 gR (.int .i64 (Hd.k h)) (.int .i64 (Hd.op h)) (.int .i64 (Hd.v h)) (.int .i64 (Hd.ln h)) (.string (st (Hd.nm h))) (.slice a n c)=W:=⟨_,rfl⟩
 have hZ:=hwz
 unfold set6 at hZ
 (try rw[hZ])
 rw[hwz] at HDZ HMZ HEZ
 obtain⟨d0,d1,d2,d3,d4,d5⟩:=HDZ.o.cells
 refine bodyPost_ret (v:=.tuple #[exv h (.slice a n c),.bool ok]) (by simp[results,Tryz.results202,go_sem,d0,d1,d2,d3,d4,d5]) rfl ?_
 exact⟨h,_,_,_,ok,at7,r7,rfl,HMZ.o.pat,HL7.o,HMZ.o.gr,Xj HEZ.o⟩
section
structure D5 (K:PC) (w:World) (gR gx B at2:Nat) (r:List Tk) (h:Hd) (sl:Value) (ar:Fo) (wx:World):Prop where
 ms:MS K w wx at2 r
 rc:Lc wx gR zhd (.slice none 0 0)
 xc:Lc wx gx h sl
 ar:Xv wx (λ b=>TBk w gR gx b/\b<B) ar sl
 bs:B<=wx.heap.size
section
variable {K:PC} {w wx wy:World} {gR gx B at2:Nat} {r:List Tk} {h:Hd} {sl:Value} {ar:Fo}
theorem D5.be (d:D5 K w gR gx B at2 r h sl ar wx) (hb:Below wx.heap.size wx wy):D5 K w gR gx B at2 r h sl ar wy :=
 ⟨d.ms.be hb,d.rc.be hb,d.xc.be hb,d.ar.keep (λ b hP hlt=>⟨hb.block b hlt,hP⟩) hb.size,Nat.le_trans d.bs hb.size⟩
end
structure CI (K:PC) (w:World) (gR gx gc:Nat) (h:Hd) (sl:Value) (hd:Hd) (v:Value) (nn:Nat) (xs:List Value) (at2:Nat) (r:List Tk) (wx:World):Prop where
 ms:MS K w wx at2 r
 rc:Lc wx gR zhd (.slice none 0 0)
 xc:Lc wx gx h sl
 cc:Lc wx gc hd v
 own:wx.ownsRow w.heap.size 37 6 v nn xs
 ne:gc≠gR/\gc≠gx/\w.heap.size<=gc/\w.heap.size<=gR/\w.heap.size<=gx/\gR≠gx/\v.ownBlock≠some gR/\v.ownBlock≠some gx/\v.ownBlock≠some gc
def CF (w:World) (gR gx gc:Nat) (v:Value) (nn:Nat) (xs:List Value) (F:Fo) (wx:World):Prop:=Qu wx (λ b=>TBk w gR gx b/\b≠gc/\some b≠v.ownBlock) F xs/\F.len=nn
theorem D5.ci {K:PC} {w wx:World} {gR gx B gc gs at2:Nat} {r:List Tk} {h:Hd} {sl:Value} {ar:Fo} (d:D5 K w gR gx B at2 r h sl ar wx) (hs:Lc wx gs h sl) (hc:Lc wx gc zhd (.slice none 0 0)) (ln:Int)
  (hB1:B<=gc) (hB2:B<=gs) (h1:w.heap.size<=gR) (h2:gR<gx) (h3:gx<gs) (h4:gx<gc) (h5:gs≠gc) :
  CI K w gR gx gc h sl ⟨10,0,0,ln,[]⟩ (.slice (some ⟨gs,0,none⟩) 1 1) 1 (hdc h sl) at2 r (set6 wx gc (.int .i64 10) (.int .i64 0) (.int .i64 0) (.int .i64 ln) (.string { data := #[] }) (.slice (some ⟨gs,0,none⟩) 1 1)) /\
  CF w gR gx gc (.slice (some ⟨gs,0,none⟩) 1 1) 1 (hdc h sl) (Xb h ar) (set6 wx gc (.int .i64 10) (.int .i64 0) (.int .i64 0) (.int .i64 ln) (.string { data := #[] }) (.slice (some ⟨gs,0,none⟩) 1 1)):=by
 refine⟨⟨d.ms.s6 (by omega) _ _ _ _ _ _,d.rc.s6o (by omega),d.xc.s6o (by omega),hc.s6 ⟨10,0,0,ln,[]⟩ _,?_,by omega,by omega,by omega,h1,by omega,by omega,?_,?_,?_⟩,?_,rfl⟩
 ·exact⟨by simp[hdc],.inr ⟨gs,1,_,rfl,by omega,hs.s6o (by omega),Nat.le_refl _,by simp[maxLen],by simp,by simp[hdc]⟩⟩
 ·show some gs≠some gR;simp;omega
 ·show some gs≠some gx;simp;omega
 ·show some gs≠some gc;simp;omega
 exact Xv.one (Xd (Xy d.ar (λ b hb _=>⟨hb.1,by have:=hb.2;omega,by show some b≠some gs;simp;have:=hb.2;omega⟩)) (λ b hb=>hb.2.1))
section
variable {K:PC} {w wx wy:World} {gR gx gc at2 at3:Nat} {r r3:List Tk} {h:Hd} {sl:Value} {hd:Hd} {v:Value} {nn:Nat} {xs:List Value} {F:Fo}
theorem CI.call (k:CI K w gR gx gc h sl hd v nn xs at2 r wx) (ln:Int) (nm:Bt) :
  CI K w gR gx gc h sl ⟨9,0,0,ln,nm⟩ (.slice none 0 0) 0 [] at2 r (set6 wx gc (.int .i64 9) (.int .i64 0) (.int .i64 0) (.int .i64 ln) (.string (st nm)) (.slice none 0 0)) :=
 ⟨k.ms.s6 k.ne.2.2.1 _ _ _ _ _ _,k.rc.s6o (by have:=k.ne.1;omega),k.xc.s6o (by have:=k.ne.2.1;omega),k.cc.s6 ⟨9,0,0,ln,nm⟩ _,World.ownsRow_nil _ _ _ _,k.ne.1,k.ne.2.1,k.ne.2.2.1,k.ne.2.2.2.1,k.ne.2.2.2.2.1,k.ne.2.2.2.2.2.1,(λ e=>nomatch e),(λ e=>nomatch e),(λ e=>nomatch e)⟩
theorem CI.gr (k:CI K w gR gx gc h sl hd v nn xs at2 r wx) (hg:wx.grownBy wy (some K.g)) (hp:PAt wy K at3 r3):CI K w gR gx gc h sl hd v nn xs at3 r3 wy :=
 have hl:=k.ms.gl
 ⟨k.ms.call hp hg,k.rc.gr hg (by have:=k.ne.2.2.2.1;omega),k.xc.gr hg (by have:=k.ne.2.2.2.2.1;omega),k.cc.gr hg (by have:=k.ne.2.2.1;omega),Yb k.own hg hl,k.ne⟩
theorem CI.al (k:CI K w gR gx gc h sl hd v nn xs at2 r wx) (o:Obj):CI K w gR gx gc h sl hd v nn xs at2 r (wx.alloc o) :=
 ⟨k.ms.al o,k.rc.al o,k.xc.al o,k.cc.al o,k.own.alloc o,k.ne⟩
theorem CI.s6n {g:Nat} {v0 v1 v2 v3 v4 v5:Value} (k:CI K w gR gx gc h sl hd v nn xs at2 r wx) (h0:w.heap.size<=g) (h1:gR≠g) (h2:gx≠g) (h3:gc≠g) (h4:v.ownBlock≠some g):CI K w gR gx gc h sl hd v nn xs at2 r (set6 wx g v0 v1 v2 v3 v4 v5) :=
 ⟨k.ms.s6 h0 _ _ _ _ _ _,k.rc.s6o h1,k.xc.s6o h2,k.cc.s6o h3,⟨k.own.1,by
  rcases k.own.2 with h|⟨g9,cap,cur,e1,e2,e3,e4⟩
  ·exact .inl h
  exact .inr ⟨g9,cap,cur,e1,e2,(Zj g9 (λ e=>h4 (by rw[e1,<- e];rfl))).trans e3,e4⟩⟩,k.ne⟩
theorem CF.gr (k:CF w gR gx gc v nn xs F wx) {g:Nat} (hg:wx.grownBy wy (some g)) (h0:g<w.heap.size):CF w gR gx gc v nn xs F wy :=
 ⟨k.1.keep (λ b hb hlt=>⟨hg.block b hlt (λ e=>by injection e with e;have:=hb.1.1;omega),hb⟩) hg.size,k.2⟩
theorem CF.call (w:World) (gR gx gc:Nat) (wx:World):CF w gR gx gc (.slice none 0 0) 0 [] .nil wx:=⟨rfl,rfl⟩
theorem CF.kp (k:CF w gR gx gc v nn xs F wx) {P:Nat->Prop} (hk:∀ b,TBk w gR gx b->b≠gc->some b≠v.ownBlock->b<wx.heap.size->wy.heap[b]?=wx.heap[b]?) (hs:wx.heap.size<=wy.heap.size):CF w gR gx gc v nn xs F wy :=
 ⟨k.1.keep (λ b hb hlt=>⟨hk b hb.1 hb.2.1 hb.2.2 hlt,hb⟩) hs,k.2⟩
end
theorem MS.own {K:PC} {w wx wy:World} {at2:Nat} {r:List Tk} {row:Option Nat} (h:MS K w wx at2 r) (hg:wx.grownBy wy row) (hqp:∀ k,row=some k->w.heap.size<=k):MS K w wy at2 r :=
 ⟨h.pat.grown hg (λ k e=>⟨by have:=hqp k e;have:=h.gl;omega,λ x hx=>by have:=hqp k e;have:=h.tl x hx;omega⟩),
  ⟨hg.os.trans h.gr.os,hg.tape.trans h.gr.tape,hg.output.trans h.gr.output,Nat.le_trans h.gr.size hg.size,λ k hk hn=>(hg.block k (by have:=h.gr.size;omega) (λ e=>by have:=hqp k e.symm;omega)).trans (h.gr.block k hk hn)⟩,h.gl,h.tl⟩
theorem Lc.grw {wx wy:World} {b:Nat} {h:Hd} {sl:Value} {row:Option Nat} (k:Lc wx b h sl) (hg:wx.grownBy wy row) (hn:row≠some b):Lc wy b h sl:=(hg.block b k.lt (λ e=>hn e.symm)).trans k
section
variable {K:PC} {w wx wy:World} {gR gx gc at2 at3:Nat} {r r3:List Tk} {h:Hd} {sl:Value} {hd:Hd} {v:Value} {nn:Nat} {xs:List Value} {F:Fo}
theorem CI.push (k:CI K w gR gx gc h sl hd v nn xs at2 r wx) {ob:Obj} {g9 c9:Nat} {w9:World} {xs9:List Value} (hg9:(wx.alloc ob).grownBy w9 v.ownBlock) (h9:v.ownBlock=some g9\/g9=(wx.alloc ob).heap.size)
  (ho:w9.ownsRow w.heap.size 37 6 (.slice (some ⟨g9,0,none⟩) (nn+1) c9) (nn+1) xs9) :
  CI K w gR gx gc h sl hd (.slice (some ⟨g9,0,none⟩) (nn+1) c9) (nn+1) xs9 at2 r (w9.setCell ⟨gc,5,none⟩ (.slice (some ⟨g9,0,none⟩) (nn+1) c9)):=by
 have ka:=k.al ob
 obtain⟨n1,n2,n3,n4,n5,n6,n7,n8,n9⟩:=k.ne
 have l1:=ka.rc.lt
 have l2:=ka.xc.lt
 have l3:=ka.cc.lt
 have q7:g9≠gR:=by rcases h9 with e|e;(intro e2;rw[e,e2] at n7;exact n7 rfl);omega
 have q8:g9≠gx:=by rcases h9 with e|e;(intro e2;rw[e,e2] at n8;exact n8 rfl);omega
 have q9:g9≠gc:=by rcases h9 with e|e;(intro e2;rw[e,e2] at n9;exact n9 rfl);omega
 refine⟨(ka.ms.own hg9 (λ k2 e=>(k.own.lt k2 e).1)).sc (p:=⟨gc,5,none⟩) n3 _,(ka.rc.grw hg9 n7).s1 (p:=⟨gc,5,none⟩) (λ e=>n1 e.symm),(ka.xc.grw hg9 n8).s1 (p:=⟨gc,5,none⟩) (λ e=>n2 e.symm),heap_setCell_same w9 gc 5 _ _ _ (ka.cc.grw hg9 n9),?_,n1,n2,n3,n4,n5,n6,?_,?_,?_⟩
 ·exact ho.kept (Xc w9 gc 5 _) (.inr (by show some g9≠some gc;simp;exact q9))
 ·show some g9≠some gR;simp;exact q7
 ·show some g9≠some gx;simp;exact q8
 show some g9≠some gc;simp;exact q9
theorem CF.push (f:CF w gR gx gc v nn xs F wx) (k:CI K w gR gx gc h sl hd v nn xs at2 r wx) {h2:Hd} {s2:Value} {ar2:Fo} (ha:Xv wx (λ b=>TBk w gR gx b/\b≠gc/\some b≠v.ownBlock) ar2 s2) {ob:Obj} {g9 c9:Nat} {w9:World} {u:Value} (hg9:(wx.alloc ob).grownBy w9 v.ownBlock) (h9:v.ownBlock=some g9\/g9=(wx.alloc ob).heap.size) :
  CF w gR gx gc (.slice (some ⟨g9,0,none⟩) (nn+1) c9) (nn+1) (xs++hdc h2 s2) (F.app (Xb h2 ar2)) (w9.setCell ⟨gc,5,none⟩ u):=by
 have hsA:(wx.alloc ob).heap.size=wx.heap.size+1:=by simp
 have hs9:=hg9.size
 have key:∀ b,(TBk w gR gx b/\b≠gc/\some b≠v.ownBlock)->b<wx.heap.size->(w9.setCell ⟨gc,5,none⟩ u).heap[b]?=wx.heap[b]?/\(TBk w gR gx b/\b≠gc/\some b≠(Value.slice (some ⟨g9,0,none⟩) (nn+1) c9).ownBlock):=λ b hb hlt =>
  ⟨((heap_setCell_other w9 ⟨gc,5,none⟩ b u hb.2.1).trans (hg9.block b (by omega) hb.2.2)).trans (Below.heap_alloc wx ob b hlt),hb.1,hb.2.1,by
   show some b≠some g9
   rcases h9 with e|e
   ·rw[<- e];exact hb.2.2
   simp;omega⟩
 have hsz:wx.heap.size<=(w9.setCell ⟨gc,5,none⟩ u).heap.size:=by simp[World.setCell];omega
 exact⟨Qu.app (f.1.keep key hsz) (Xv.one (ha.keep key hsz)),by rw[Fo.len_app,f.2];rfl⟩
theorem CI.args (k:CI K w gR gx gc h sl hd v nn xs at2 r wx) (f:CF w gR gx gc v nn xs F wx):Xv wx (TBk w gR gx) F v :=
 Xv.of_own (e:=37) (size:=6) (base:=w.heap.size) (by rw[f.2];exact k.own) (f.1.keep (λ b hb _=>⟨rfl,hb.1⟩) (Nat.le_refl _)) (λ b hb=>⟨(k.own.lt b hb).1,λ e=>k.ne.2.2.2.2.2.2.1 (by rw[hb,e]),λ e=>k.ne.2.2.2.2.2.2.2.1 (by rw[hb,e])⟩)
theorem CI.shape (k:CI K w gR gx gc h sl hd v nn xs at2 r wx):∃ a c,v=.slice a nn c:=by
 rcases k.own.2 with⟨e,e2⟩|⟨g9,cap,cur,e,_⟩
 ·exact⟨none,0,by rw[e,e2]⟩
 exact⟨_,_,e⟩
end
theorem Fo.app_nil2 (F:Fo):F.app .nil=F:=by
 induction F with
 | nil=>rfl
 | cons h ar r _ ih=>show Fo.cons h ar (r.app .nil)=_;rw[ih]
theorem Fo.app_assoc2 (F G H:Fo):(F.app G).app H=F.app (G.app H):=by
 induction F with
 | nil=>rfl
 | cons h ar r _ ih=>show Fo.cons h ar ((r.app G).app H)=Fo.cons h ar (r.app (G.app H));rw[ih]
def Rz:Value->Nat
 | .bool true=>1
 | _=>0
structure AI (K:PC) (w:World) (gR gx gc:Nat) (r0:List Tk) (h:Hd) (sl:Value) (hd:Hd) (G:Fo) (first ok:Bool) (v:Value) (nn:Nat) (xs:List Value) (at2:Nat) (r:List Tk) (wx:World):Prop where
 ci:CI K w gR gx gc h sl hd v nn xs at2 r wx
 le:r.length<=r0.tail.length
 res:(ok=true/\nn<=at2/\∃ Fa,CF w gR gx gc v nn xs (G.app Fa) wx/\∀ z,Ps (.ag first Fa) r z->Ps (.ag true .nil) r0.tail z)\/(ok=false/\Ps (.ag true .nil) r0.tail (.bad r))
theorem Nn (m:Nat) (hE:∀ j,j<m->CE 56 .ex j) (hPr:CE 208 .pr m):CE 206 .ca m:=by
 intro K at_ rest w hP hm
 have HM1:=Xj ((MS.init hP).al zex)
 have HR1:=Xj (Lc.zero w)
 have HMm:=Xj hm
 have HE:Xq (∀ (w2:World) (at2:Nat) (r:List Tk),PAt w2 K at2 r->r.length<rest.length->Calls Tryz.prog 56 #[.pointer (some ⟨K.g,0,none⟩)] w2 (EP K .ex r w2)):=Xj (λ w2 at2 r hp hl=>hE r.length (by omega) K at2 r w2 hp (Nat.le_refl _))
 have HA:=Xj hPr
 obtain⟨⟨tk,tn,tv,tt⟩,r0,hr0⟩:=hP.en.cons
 have HX0:=Xj hr0
 clear hE hPr hP hm hr0
 have hfd0:∀ W:World,(Instr.field 103 (.agg #[.int .i64 tk,.int .i64 tn,.int .i64 tv,.string (st tt)]) 0).run Tryz.prog W=.ok (.int .i64 tk) W:=λ _=>by kernel_rfl
 go_enter Tryz.func206,Tryz.ntmps206
 go_upto_region 1 with fail
 obtain⟨w1,hw1⟩:∃ W,w.alloc zex=W:=⟨_,rfl⟩
 obtain⟨gR,hgR⟩:∃ x,w.heap.size=x:=⟨_,rfl⟩
 (try rw[show w.alloc (.cells #[.int .i64 0,.int .i64 0,.int .i64 0,.int .i64 0,.string { data := #[] },.slice none 0 0] 37)=w1 from hw1])
 rw[hw1] at HM1 HR1
 rw[hgR] at HR1
 (try rw[hgR])
 have HGR:=Xj hgR
 have HS1:Xq (w1.heap.size=gR+1):=Xj (by rw[<- hw1,<- hgR];simp)
 clear hw1 hgR
 go_wp2_with fail
 refine(Zv K at_ tk tn tv tt r0 w1 (HX0.o▸HM1.o.pat)).mono ?_
 rintro e w0 ⟨rfl,hb2⟩
 have HM0:=Xj (HM1.o.be hb2)
 have HR0:=Xj (HR1.o.be hb2)
 have HS0:Xq (gR<w0.heap.size):=Xj (by have:=HS1.o;have:=hb2.size;omega)
 clear hb2 HM1 HR1
 go_wp2_with fail
 refine(HA.o K at_ rest _ HM0.o.pat HMm.o).mono ?_
 rintro e w2 ⟨h,a,n,c,ok,at2,r,rfl,hp2,H6,hg2,hO⟩
 have HM3:=Xj ((HM0.o.call hp2 hg2).al (.cells (ecs h (.slice a n c)) 37))
 have HR3:=Xj ((HR0.o.gr hg2 (by have:=HM0.o.gl;have:=HGR.o;omega)).al (.cells (ecs h (.slice a n c)) 37))
 have HX3:=Xj (Lc.new w2 h (.slice a n c))
 have hs2:=hg2.size
 have HJ:Xq ((ok=true/\∃ ar,(∀ z,Ps (.caL (kOf rest==1&&h.k==13) (Xb h ar)) r z->Ps .ca rest z)/\Xv (w2.alloc (.cells (ecs h (.slice a n c)) 37)) (TBk w gR w2.heap.size) ar (.slice a n c)/\r.length<rest.length)\/(ok=false/\Ps .ca rest (.bad r))):=Xj (by
  rcases hO.o with⟨h1,ar,h2,h3,h4⟩|⟨h1,h2⟩
  ·exact .inl ⟨h1,ar,λ z hz=>Ps.ca_ok h2 rfl hz,Xy (Yu _ h3) (λ b hb _=>⟨by have:=hb.1;have:=HS0.o;have:=HGR.o;omega,by have:=hb.1;have:=HS0.o;omega,hb.2⟩),h4⟩
  exact .inr ⟨h1,Ps.ca_bad h2⟩)
 clear hO hp2 hg2
 go_upto_region 3 with fail
 obtain⟨w3,hw3⟩:∃ W,w2.alloc (.cells (ecs h (.slice a n c)) 37)=W:=⟨_,rfl⟩
 obtain⟨gx,hgx⟩:∃ x,w2.heap.size=x:=⟨_,rfl⟩
 (try rw[show w2.alloc (.cells #[.int .i64 h.k,.int .i64 h.op,.int .i64 h.v,.int .i64 h.ln,.string (st h.nm),.slice a n c] 37)=w3 from hw3])
 rw[hw3] at HM3 HR3 HX3 HJ
 rw[hgx] at HX3 HJ
 (try rw[hgx])
 have HGX:Xq (gR<gx):=Xj (by have:=HS0.o;omega)
 have HLE:=Xj H6
 clear hw3 hgx hs2 H6 HM0 HR0
 obtain⟨b1,hb1⟩:∃ b,(tk==1)=b:=⟨_,rfl⟩
 have HB1:Xq ((kOf rest==1)=b1):=Xj (by rw[HX0.o];exact hb1)
 (try rw[hb1])
 clear hb1
 go_cut [4] from 19 to 24 (λ v4 wx=>v4=.bool (b1&&(h.k==13))/\wx=w3)
 case first =>
  obtain⟨x0,x1,x2,x3,x4,x5⟩:=HX3.o.cells
  cases b1
  ·go_wp2_with fail
   go_meet
   exact⟨rfl,rfl⟩
  go_wp2_with fail
  go_meet
  exact⟨rfl,rfl⟩
 case rest =>
 obtain⟨rfl,rfl⟩:=hcut
 obtain⟨pl,hpl⟩:∃ b,(b1&&(h.k==13))=b:=⟨_,rfl⟩
 rw[HB1.o,hpl] at HJ
 (try rw[hpl])
 clear hpl
 clear HB1
 go_upto_block 0 with fail
 go_wp2_with fail
 go_loopw [4,6] (λ v4 v6 wr=>∃ (h:Hd) (a:Option Addr) (n c:Nat) (pl ok:Bool) (at2:Nat) (r:List Tk),v4=.bool pl/\v6=.bool ok/\Xq (LI K w gR gx .ca (.caL pl) rest h a n c ok at2 r wr)) (λ _ _ wr=>K.ts.length-natAt wr K.g)
 case atStart=>exact⟨h,a,n,c,pl,ok,at2,r,rfl,rfl,Xj ⟨HM3.o,HR3.o,HX3.o,HLE.o,HJ.o⟩⟩
 rename World=>wa
 obtain⟨h,a,n,c,pl,ok,at2,r,rfl,rfl,HL⟩:=hrel
 have hgg:=HL.o.ms.gl
 have hqv:=HGR.o
 have hzj:=HGX.o
 cases ok
 ·have HB:Xq (Ps .ca rest (.bad r)):=Xj (by
   rcases HL.o.res with⟨h1,_⟩|⟨_,h1⟩
   ·cases h1
   exact h1)
  obtain⟨x0,x1,x2,x3,x4,x5⟩:=HL.o.xc.cells
  obtain⟨g0,g1,g2,g3,g4,g5⟩:=HL.o.rc.froz
  obtain⟨y0,y1,y2,y3,y4,y5⟩:=HL.o.rc.cells
  have hlR:=HL.o.rc.lt
  have hlX:=HL.o.xc.lt
  go_wp2_with fail
  obtain⟨wz,hwz⟩:∃ W,set6 wa gR (.int .i64 h.k) (.int .i64 h.op) (.int .i64 h.v) (.int .i64 h.ln) (.string (st h.nm)) (.slice a n c)=W:=⟨_,rfl⟩
  have HMZ:=Xj (HL.o.ms.s6 (b:=gR) (by omega) (.int .i64 h.k) (.int .i64 h.op) (.int .i64 h.v) (.int .i64 h.ln) (.string (st h.nm)) (.slice a n c))
  have HDZ:=Xj (HL.o.rc.s6 h (.slice a n c))
  have hZ:=hwz
  unfold set6 at hZ
  (try rw[hZ])
  skip
  rw[hwz] at HMZ HDZ
  obtain⟨d0,d1,d2,d3,d4,d5⟩:=HDZ.o.cells
  refine bodyPost_ret (v:=.tuple #[exv h (.slice a n c),.bool false]) (by simp[results,Tryz.results206,go_sem,d0,d1,d2,d3,d4,d5]) rfl ?_
  exact⟨h,a,n,c,false,at2,r,rfl,HMZ.o.pat,HL.o.le,HMZ.o.gr,Xj (.inr ⟨rfl,HB.o⟩)⟩
 obtain⟨ar,H8,har,hlt⟩:∃ ar,(∀ z,Ps (.caL pl (Xb h ar)) r z->Ps .ca rest z)/\Xv wa (TBk w gR gx) ar (.slice a n c)/\r.length<rest.length:=by
  rcases HL.o.res with⟨_,h1⟩|⟨h1,_⟩
  ·exact h1
  cases h1
 have HCO:=Xj H8
 have HAR:=Xj har
 have HLT:=Xj hlt
 clear H8 har hlt
 have HIS:=Xj (Ez K at2 r [40] wa HL.o.ms.pat)
 go_wp2_with fail
 refine HIS.o.mono ?_
 rintro e w4 ⟨rfl,hb4⟩
 have HD:Xq (D5 K w gR gx wa.heap.size at2 r h (.slice a n c) ar w4):=Xj (D5.be ⟨HL.o.ms,HL.o.rc,HL.o.xc,HAR.o.keep (λ b hb hlt=>⟨rfl,hb,hlt⟩) (Nat.le_refl _),Nat.le_refl _⟩ hb4)
 clear hb4 HIS
 cases hT:isT [40] r
 ·have HZ:Xq (Ps .ca rest (.ok (Xb h ar) r)):=Xj (HCO.o _ (Ps.caL_end hT))
  clear hT
  obtain⟨x0,x1,x2,x3,x4,x5⟩:=HD.o.xc.cells
  obtain⟨g0,g1,g2,g3,g4,g5⟩:=HD.o.rc.froz
  obtain⟨y0,y1,y2,y3,y4,y5⟩:=HD.o.rc.cells
  have hlR:=HD.o.rc.lt
  have HAZ:=Xj (Xd (v0:=.int .i64 h.k) (v1:=.int .i64 h.op) (v2:=.int .i64 h.v) (v3:=.int .i64 h.ln) (v4:=.string (st h.nm)) (v5:=.slice a n c) HD.o.ar (λ b hb=>hb.1.2.1))
  go_wp2_with fail
  obtain⟨wz,hwz⟩:∃ W,set6 w4 gR (.int .i64 h.k) (.int .i64 h.op) (.int .i64 h.v) (.int .i64 h.ln) (.string (st h.nm)) (.slice a n c)=W:=⟨_,rfl⟩
  have HMZ:=Xj (HD.o.ms.s6 (b:=gR) (by omega) (.int .i64 h.k) (.int .i64 h.op) (.int .i64 h.v) (.int .i64 h.ln) (.string (st h.nm)) (.slice a n c))
  have HDZ:=Xj (HD.o.rc.s6 h (.slice a n c))
  have hZ:=hwz
  unfold set6 at hZ
  (try rw[hZ])
  skip
  rw[hwz] at HMZ HDZ HAZ
  obtain⟨d0,d1,d2,d3,d4,d5⟩:=HDZ.o.cells
  refine bodyPost_ret (v:=.tuple #[exv h (.slice a n c),.bool true]) (by simp[results,Tryz.results206,go_sem,d0,d1,d2,d3,d4,d5]) rfl ?_
  exact⟨h,a,n,c,true,at2,r,rfl,HMZ.o.pat,HL.o.le,HMZ.o.gr,Xj (.inl ⟨rfl,ar,HZ.o,Xy HAZ.o (λ b hb _=>hb.1.1),HLT.o⟩)⟩
 have HT:=Xj hT
 have HK0:Xq (kOf r≠0):=Xj (Ys hT).2.2.1
 clear hT
 go_upto_region 5 with fail
 go_cut [7] from 30 to 35 (λ v7 wx=>∃ gc gs,v7=.pointer (some ⟨gc,0,none⟩)/\Xq (CI K w gR gx gc h (.slice a n c) ⟨10,0,0,Yj r,[]⟩ (.slice (some ⟨gs,0,none⟩) 1 1) 1 (hdc h (.slice a n c)) at2 r wx/\CF w gR gx gc (.slice (some ⟨gs,0,none⟩) 1 1) 1 (hdc h (.slice a n c)) (Xb h ar) wx))
 case first =>
  obtain⟨⟨tk,tn,tv,tt⟩,r1,hr1⟩:=HD.o.ms.pat.en.cons
  have HLN:Xq (Yj r=tn):=Xj (by rw[hr1];rfl)
  have HR1:=Xj hr1
  clear hr1
  have hfd:∀ W:World,(Instr.field 103 (.agg #[.int .i64 tk,.int .i64 tn,.int .i64 tv,.string (st tt)]) 1).run Tryz.prog W=.ok (.int .i64 tn) W:=λ _=>by kernel_rfl
  obtain⟨q0,q1,q2,q3,q4,q5⟩:=HD.o.xc.cells
  have hlx0:=HD.o.xc.lt
  refine wp_region_held_drew (S:=(λ w'=>w'.cell? ⟨gx,0,none⟩=some (.int .i64 h.k)/\w'.cell? ⟨gx,1,none⟩=some (.int .i64 h.op)/\w'.cell? ⟨gx,2,none⟩=some (.int .i64 h.v)/\w'.cell? ⟨gx,3,none⟩=some (.int .i64 h.ln)/\w'.cell? ⟨gx,4,none⟩=some (.string (st h.nm))/\w'.cell? ⟨gx,5,none⟩=some (.slice a n c))) (by kernel_rfl) ⟨q0,q1,q2,q3,q4,q5⟩ (λ hJ=>?_)
  obtain⟨wd,hwd⟩:∃ W,w4.drew=W:=⟨_,rfl⟩
  have HDd:Xq (D5 K w gR gx wa.heap.size at2 r h (.slice a n c) ar wd):=Xj (by rw[<- hwd];exact HD.o.be (Below.refl _ _).drew)
  rw[hwd] at hJ ⊢
  clear hwd HD q0 q1 q2 q3 q4 q5 hlx0
  refine Xr (i:=0) (d:=some 30) (v:=?_) rfl (by kernel_rfl) (by kernel_rfl) (by kernel_rfl) (by kernel_rfl) (λ _ _ _ h=>h) (Or.inl ⟨by kernel_rfl,?_⟩) (by assumption) ?_
  rotate_left
  ·(intro w hSw;(try dsimp only at hSw);go_simp;(try simp only[hfd]);try with_reducible rfl)
  refine Xz ?_
  refine Xr (i:=3) (d:=some 33) (v:=?_) rfl (by kernel_rfl) (by kernel_rfl) (by kernel_rfl) (by kernel_rfl) (λ _ _ _ h=>h) (Or.inl ⟨by kernel_rfl,?_⟩) (by assumption) ?_
  rotate_left
  ·(intro w hSw;(try dsimp only at hSw);go_simp;(try simp only[hfd]);try with_reducible rfl)
  refine Xz ?_
  refine wpAnyH_ready (rs:=[1,4,6]) (by kernel_rfl) (by simp) ?_
  refine AllReadyH.cons rfl (λ K0 hK=>?_) (AllReadyH.cons rfl (λ K0 hK=>?_) (AllReadyH.cons rfl (λ K0 hK=>?_) AllReadyH.nil))
  ·go_simp
   refine(Zv K at2 tk tn tv tt r1 wd (HR1.o▸HDd.o.ms.pat)).mono ?_
   rintro e w_1 ⟨rfl,hb⟩
   have hlx:=HDd.o.xc.lt
   refine goH hK ⟨(World.cell?_of_block (a:=⟨gx,0,none⟩) (hb.block gx hlx)).trans hJ.1,(World.cell?_of_block (a:=⟨gx,1,none⟩) (hb.block gx hlx)).trans hJ.2.1,(World.cell?_of_block (a:=⟨gx,2,none⟩) (hb.block gx hlx)).trans hJ.2.2.1,(World.cell?_of_block (a:=⟨gx,3,none⟩) (hb.block gx hlx)).trans hJ.2.2.2.1,(World.cell?_of_block (a:=⟨gx,4,none⟩) (hb.block gx hlx)).trans hJ.2.2.2.2.1,(World.cell?_of_block (a:=⟨gx,5,none⟩) (hb.block gx hlx)).trans hJ.2.2.2.2.2⟩ λ hJ=>?_
   clear hK K0
   have HD1:=Xj (HDd.o.be hb)
   have hzw:=hb.size
   clear hb hlx
   refine Xr (i:=2) (d:=some 32) (v:=?_) rfl (by kernel_rfl) (by kernel_rfl) (by kernel_rfl) (by kernel_rfl) (λ _ _ _ h=>h) (Or.inl ⟨by kernel_rfl,?_⟩) (by assumption) ?_
   rotate_left
   ·(intro w hSw;(try dsimp only at hSw);go_simp;(try simp only[hfd]);try with_reducible rfl)
   refine Xz ?_
   refine wpAnyH_ready (rs:=[4,6]) (by kernel_rfl) (by simp) ?_
   refine AllReadyH.cons rfl (λ K0 hK=>?_) (AllReadyH.cons rfl (λ K0 hK=>?_) AllReadyH.nil)
   ·go_simp
    refine goH hK ⟨Xu _ hJ.1,Xu _ hJ.2.1,Xu _ hJ.2.2.1,Xu _ hJ.2.2.2.1,Xu _ hJ.2.2.2.2.1,Xu _ hJ.2.2.2.2.2⟩ λ hJ=>?_
    clear hK K0
    obtain⟨w_2,hwn⟩:∃ W,w_1.alloc (.cells #[.int .i64 h.k,.int .i64 h.op,.int .i64 h.v,.int .i64 h.ln,.string (st h.nm),.slice a n c] 37)=W:=⟨_,rfl⟩
    obtain⟨gs,hgn⟩:∃ x,w_1.heap.size=x:=⟨_,rfl⟩
    have HD2:Xq (D5 K w gR gx wa.heap.size at2 r h (.slice a n c) ar w_2):=Xj (by rw[<- hwn];exact HD1.o.be (Xk _ _))
    have hx2:gx<gs/\wa.heap.size<=gs:=by rw[<- hgn];exact⟨HD1.o.xc.lt,HD1.o.bs⟩
    have HS:Xq (Lc w_2 gs h (.slice a n c)):=Xj (by rw[<- hwn,<- hgn];exact Lc.new w_1 h (.slice a n c))
    rw[hwn] at hJ ⊢
    (try rw[hgn])
    clear hwn hgn
    refine Xr (i:=5) (d:=some 35) (v:=?_) rfl (by kernel_rfl) (by kernel_rfl) (by kernel_rfl) (by kernel_rfl) (λ _ _ _ h=>h) (Or.inl ⟨by kernel_rfl,?_⟩) (by assumption) ?_
    rotate_left
    ·(intro w hSw;(try dsimp only at hSw);go_simp;(try simp only[hfd]);try with_reducible rfl)
    refine Xz ?_
    refine rdH 6 λ K0 hK=>?_
    go_simp
    refine goH hK ⟨Xu _ hJ.1,Xu _ hJ.2.1,Xu _ hJ.2.2.1,Xu _ hJ.2.2.2.1,Xu _ hJ.2.2.2.2.1,Xu _ hJ.2.2.2.2.2⟩ λ hJ=>?_
    clear hK K0
    obtain⟨w_3,hwn⟩:∃ W,w_2.alloc (.cells #[.int .i64 0,.int .i64 0,.int .i64 0,.int .i64 0,.string { data := #[] },.slice none 0 0] 37)=W:=⟨_,rfl⟩
    obtain⟨gc,hgn⟩:∃ x,w_2.heap.size=x:=⟨_,rfl⟩
    have HD3:Xq (D5 K w gR gx wa.heap.size at2 r h (.slice a n c) ar w_3):=Xj (by rw[<- hwn];exact HD2.o.be (Xk _ _))
    have hx3:gx<gc/\wa.heap.size<=gc:=by rw[<- hgn];exact⟨HD2.o.xc.lt,HD2.o.bs⟩
    have HC:Xq (Lc w_3 gc zhd (.slice none 0 0)):=Xj (by rw[<- hwn,<- hgn];exact Lc.zero w_2)
    have hne:gs≠gc:=by have:=HS.o.lt;omega
    have HS_:Xq (Lc w_3 gs h (.slice a n c)):=Xj (by rw[<- hwn];exact HS.o.al _)
    clear HS
    have HS:=HS_
    clear HS_
    rw[hwn] at hJ ⊢
    (try rw[hgn])
    clear hwn hgn
    have HD:=HD3
    obtain⟨g0,g1,g2,g3,g4,g5⟩:=HC.o.froz
    obtain⟨y0,y1,y2,y3,y4,y5⟩:=HC.o.cells
    have hlC:=HC.o.lt
    have HF:=Xj (D5.ci HD.o HS.o HC.o tn (by omega) (by omega) (by omega) (by omega) (by omega) (by omega) (by omega))
    refine rdH 7 λ K0 hK=>?_
    go_simp
    refine goH hK ⟨Xw (by omega) hJ.1,Xw (by omega) hJ.2.1,Xw (by omega) hJ.2.2.1,Xw (by omega) hJ.2.2.2.1,Xw (by omega) hJ.2.2.2.2.1,Xw (by omega) hJ.2.2.2.2.2⟩ λ hJ=>?_
    clear hK K0
    refine wpAnyH_done (by kernel_rfl) ?_ _
    refine Xz ?_
    go_wp2_with fail
    go_meet
    exact⟨gc,gs,rfl,Xj (by rw[HLN.o];exact HF.o)⟩
   go_simp
   refine goH hK ⟨Xu _ hJ.1,Xu _ hJ.2.1,Xu _ hJ.2.2.1,Xu _ hJ.2.2.2.1,Xu _ hJ.2.2.2.2.1,Xu _ hJ.2.2.2.2.2⟩ λ hJ=>?_
   clear hK K0
   obtain⟨w_2,hwn⟩:∃ W,w_1.alloc (.cells #[.int .i64 0,.int .i64 0,.int .i64 0,.int .i64 0,.string { data := #[] },.slice none 0 0] 37)=W:=⟨_,rfl⟩
   obtain⟨gc,hgn⟩:∃ x,w_1.heap.size=x:=⟨_,rfl⟩
   have HD2:Xq (D5 K w gR gx wa.heap.size at2 r h (.slice a n c) ar w_2):=Xj (by rw[<- hwn];exact HD1.o.be (Xk _ _))
   have hx2:gx<gc/\wa.heap.size<=gc:=by rw[<- hgn];exact⟨HD1.o.xc.lt,HD1.o.bs⟩
   have HC:Xq (Lc w_2 gc zhd (.slice none 0 0)):=Xj (by rw[<- hwn,<- hgn];exact Lc.zero w_1)
   rw[hwn] at hJ ⊢
   (try rw[hgn])
   clear hwn hgn
   refine rdH 4 λ K0 hK=>?_
   go_simp
   refine goH hK ⟨Xu _ hJ.1,Xu _ hJ.2.1,Xu _ hJ.2.2.1,Xu _ hJ.2.2.2.1,Xu _ hJ.2.2.2.2.1,Xu _ hJ.2.2.2.2.2⟩ λ hJ=>?_
   clear hK K0
   obtain⟨w_3,hwn⟩:∃ W,w_2.alloc (.cells #[.int .i64 h.k,.int .i64 h.op,.int .i64 h.v,.int .i64 h.ln,.string (st h.nm),.slice a n c] 37)=W:=⟨_,rfl⟩
   obtain⟨gs,hgn⟩:∃ x,w_2.heap.size=x:=⟨_,rfl⟩
   have HD3:Xq (D5 K w gR gx wa.heap.size at2 r h (.slice a n c) ar w_3):=Xj (by rw[<- hwn];exact HD2.o.be (Xk _ _))
   have hx3:gx<gs/\wa.heap.size<=gs:=by rw[<- hgn];exact⟨HD2.o.xc.lt,HD2.o.bs⟩
   have HS:Xq (Lc w_3 gs h (.slice a n c)):=Xj (by rw[<- hwn,<- hgn];exact Lc.new w_2 h (.slice a n c))
   have hne:gs≠gc:=by have:=HC.o.lt;omega
   have HC_:Xq (Lc w_3 gc zhd (.slice none 0 0)):=Xj (by rw[<- hwn];exact HC.o.al _)
   clear HC
   have HC:=HC_
   clear HC_
   rw[hwn] at hJ ⊢
   (try rw[hgn])
   clear hwn hgn
   refine Xr (i:=5) (d:=some 35) (v:=?_) rfl (by kernel_rfl) (by kernel_rfl) (by kernel_rfl) (by kernel_rfl) (λ _ _ _ h=>h) (Or.inl ⟨by kernel_rfl,?_⟩) (by assumption) ?_
   rotate_left
   ·(intro w hSw;(try dsimp only at hSw);go_simp;(try simp only[hfd]);try with_reducible rfl)
   refine Xz ?_
   have HD:=HD3
   obtain⟨g0,g1,g2,g3,g4,g5⟩:=HC.o.froz
   obtain⟨y0,y1,y2,y3,y4,y5⟩:=HC.o.cells
   have hlC:=HC.o.lt
   have HF:=Xj (D5.ci HD.o HS.o HC.o tn (by omega) (by omega) (by omega) (by omega) (by omega) (by omega) (by omega))
   refine rdH 7 λ K0 hK=>?_
   go_simp
   refine goH hK ⟨Xw (by omega) hJ.1,Xw (by omega) hJ.2.1,Xw (by omega) hJ.2.2.1,Xw (by omega) hJ.2.2.2.1,Xw (by omega) hJ.2.2.2.2.1,Xw (by omega) hJ.2.2.2.2.2⟩ λ hJ=>?_
   clear hK K0
   refine wpAnyH_done (by kernel_rfl) ?_ _
   refine Xz ?_
   go_wp2_with fail
   go_meet
   exact⟨gc,gs,rfl,Xj (by rw[HLN.o];exact HF.o)⟩
  ·go_simp
   refine goH hK ⟨Xu _ hJ.1,Xu _ hJ.2.1,Xu _ hJ.2.2.1,Xu _ hJ.2.2.2.1,Xu _ hJ.2.2.2.2.1,Xu _ hJ.2.2.2.2.2⟩ λ hJ=>?_
   clear hK K0
   obtain⟨w_1,hwn⟩:∃ W,wd.alloc (.cells #[.int .i64 h.k,.int .i64 h.op,.int .i64 h.v,.int .i64 h.ln,.string (st h.nm),.slice a n c] 37)=W:=⟨_,rfl⟩
   obtain⟨gs,hgn⟩:∃ x,wd.heap.size=x:=⟨_,rfl⟩
   have HD1:Xq (D5 K w gR gx wa.heap.size at2 r h (.slice a n c) ar w_1):=Xj (by rw[<- hwn];exact HDd.o.be (Xk _ _))
   have hx1:gx<gs/\wa.heap.size<=gs:=by rw[<- hgn];exact⟨HDd.o.xc.lt,HDd.o.bs⟩
   have HS:Xq (Lc w_1 gs h (.slice a n c)):=Xj (by rw[<- hwn,<- hgn];exact Lc.new wd h (.slice a n c))
   rw[hwn] at hJ ⊢
   (try rw[hgn])
   clear hwn hgn
   refine wpAnyH_ready (rs:=[1,6]) (by kernel_rfl) (by simp) ?_
   refine AllReadyH.cons rfl (λ K0 hK=>?_) (AllReadyH.cons rfl (λ K0 hK=>?_) AllReadyH.nil)
   ·go_simp
    refine(Zv K at2 tk tn tv tt r1 w_1 (HR1.o▸HD1.o.ms.pat)).mono ?_
    rintro e w_2 ⟨rfl,hb⟩
    have hlx:=HD1.o.xc.lt
    refine goH hK ⟨(World.cell?_of_block (a:=⟨gx,0,none⟩) (hb.block gx hlx)).trans hJ.1,(World.cell?_of_block (a:=⟨gx,1,none⟩) (hb.block gx hlx)).trans hJ.2.1,(World.cell?_of_block (a:=⟨gx,2,none⟩) (hb.block gx hlx)).trans hJ.2.2.1,(World.cell?_of_block (a:=⟨gx,3,none⟩) (hb.block gx hlx)).trans hJ.2.2.2.1,(World.cell?_of_block (a:=⟨gx,4,none⟩) (hb.block gx hlx)).trans hJ.2.2.2.2.1,(World.cell?_of_block (a:=⟨gx,5,none⟩) (hb.block gx hlx)).trans hJ.2.2.2.2.2⟩ λ hJ=>?_
    clear hK K0
    have HD2:=Xj (HD1.o.be hb)
    have HS_:=Xj (HS.o.be hb)
    clear HS
    have HS:=HS_
    clear HS_
    have hzc:=hb.size
    clear hb hlx
    refine Xr (i:=2) (d:=some 32) (v:=?_) rfl (by kernel_rfl) (by kernel_rfl) (by kernel_rfl) (by kernel_rfl) (λ _ _ _ h=>h) (Or.inl ⟨by kernel_rfl,?_⟩) (by assumption) ?_
    rotate_left
    ·(intro w hSw;(try dsimp only at hSw);go_simp;(try simp only[hfd]);try with_reducible rfl)
    refine Xz ?_
    refine Xr (i:=5) (d:=some 35) (v:=?_) rfl (by kernel_rfl) (by kernel_rfl) (by kernel_rfl) (by kernel_rfl) (λ _ _ _ h=>h) (Or.inl ⟨by kernel_rfl,?_⟩) (by assumption) ?_
    rotate_left
    ·(intro w hSw;(try dsimp only at hSw);go_simp;(try simp only[hfd]);try with_reducible rfl)
    refine Xz ?_
    refine rdH 6 λ K0 hK=>?_
    go_simp
    refine goH hK ⟨Xu _ hJ.1,Xu _ hJ.2.1,Xu _ hJ.2.2.1,Xu _ hJ.2.2.2.1,Xu _ hJ.2.2.2.2.1,Xu _ hJ.2.2.2.2.2⟩ λ hJ=>?_
    clear hK K0
    obtain⟨w_3,hwn⟩:∃ W,w_2.alloc (.cells #[.int .i64 0,.int .i64 0,.int .i64 0,.int .i64 0,.string { data := #[] },.slice none 0 0] 37)=W:=⟨_,rfl⟩
    obtain⟨gc,hgn⟩:∃ x,w_2.heap.size=x:=⟨_,rfl⟩
    have HD3:Xq (D5 K w gR gx wa.heap.size at2 r h (.slice a n c) ar w_3):=Xj (by rw[<- hwn];exact HD2.o.be (Xk _ _))
    have hx3:gx<gc/\wa.heap.size<=gc:=by rw[<- hgn];exact⟨HD2.o.xc.lt,HD2.o.bs⟩
    have HC:Xq (Lc w_3 gc zhd (.slice none 0 0)):=Xj (by rw[<- hwn,<- hgn];exact Lc.zero w_2)
    have hne:gs≠gc:=by have:=HS.o.lt;omega
    have HS_:Xq (Lc w_3 gs h (.slice a n c)):=Xj (by rw[<- hwn];exact HS.o.al _)
    clear HS
    have HS:=HS_
    clear HS_
    rw[hwn] at hJ ⊢
    (try rw[hgn])
    clear hwn hgn
    have HD:=HD3
    obtain⟨g0,g1,g2,g3,g4,g5⟩:=HC.o.froz
    obtain⟨y0,y1,y2,y3,y4,y5⟩:=HC.o.cells
    have hlC:=HC.o.lt
    have HF:=Xj (D5.ci HD.o HS.o HC.o tn (by omega) (by omega) (by omega) (by omega) (by omega) (by omega) (by omega))
    refine rdH 7 λ K0 hK=>?_
    go_simp
    refine goH hK ⟨Xw (by omega) hJ.1,Xw (by omega) hJ.2.1,Xw (by omega) hJ.2.2.1,Xw (by omega) hJ.2.2.2.1,Xw (by omega) hJ.2.2.2.2.1,Xw (by omega) hJ.2.2.2.2.2⟩ λ hJ=>?_
    clear hK K0
    refine wpAnyH_done (by kernel_rfl) ?_ _
    refine Xz ?_
    go_wp2_with fail
    go_meet
    exact⟨gc,gs,rfl,Xj (by rw[HLN.o];exact HF.o)⟩
   go_simp
   refine goH hK ⟨Xu _ hJ.1,Xu _ hJ.2.1,Xu _ hJ.2.2.1,Xu _ hJ.2.2.2.1,Xu _ hJ.2.2.2.2.1,Xu _ hJ.2.2.2.2.2⟩ λ hJ=>?_
   clear hK K0
   obtain⟨w_2,hwn⟩:∃ W,w_1.alloc (.cells #[.int .i64 0,.int .i64 0,.int .i64 0,.int .i64 0,.string { data := #[] },.slice none 0 0] 37)=W:=⟨_,rfl⟩
   obtain⟨gc,hgn⟩:∃ x,w_1.heap.size=x:=⟨_,rfl⟩
   have HD2:Xq (D5 K w gR gx wa.heap.size at2 r h (.slice a n c) ar w_2):=Xj (by rw[<- hwn];exact HD1.o.be (Xk _ _))
   have hx2:gx<gc/\wa.heap.size<=gc:=by rw[<- hgn];exact⟨HD1.o.xc.lt,HD1.o.bs⟩
   have HC:Xq (Lc w_2 gc zhd (.slice none 0 0)):=Xj (by rw[<- hwn,<- hgn];exact Lc.zero w_1)
   have hne:gs≠gc:=by have:=HS.o.lt;omega
   have HS_:Xq (Lc w_2 gs h (.slice a n c)):=Xj (by rw[<- hwn];exact HS.o.al _)
   clear HS
   have HS:=HS_
   clear HS_
   rw[hwn] at hJ ⊢
   (try rw[hgn])
   clear hwn hgn
   refine rdH 1 λ K0 hK=>?_
   go_simp
   refine(Zv K at2 tk tn tv tt r1 w_2 (HR1.o▸HD2.o.ms.pat)).mono ?_
   rintro e w_3 ⟨rfl,hb⟩
   have hlx:=HD2.o.xc.lt
   refine goH hK ⟨(World.cell?_of_block (a:=⟨gx,0,none⟩) (hb.block gx hlx)).trans hJ.1,(World.cell?_of_block (a:=⟨gx,1,none⟩) (hb.block gx hlx)).trans hJ.2.1,(World.cell?_of_block (a:=⟨gx,2,none⟩) (hb.block gx hlx)).trans hJ.2.2.1,(World.cell?_of_block (a:=⟨gx,3,none⟩) (hb.block gx hlx)).trans hJ.2.2.2.1,(World.cell?_of_block (a:=⟨gx,4,none⟩) (hb.block gx hlx)).trans hJ.2.2.2.2.1,(World.cell?_of_block (a:=⟨gx,5,none⟩) (hb.block gx hlx)).trans hJ.2.2.2.2.2⟩ λ hJ=>?_
   clear hK K0
   have HD3:=Xj (HD2.o.be hb)
   have HS_:=Xj (HS.o.be hb)
   clear HS
   have HS:=HS_
   clear HS_
   have HC_:=Xj (HC.o.be hb)
   clear HC
   have HC:=HC_
   clear HC_
   have hsz3:=hb.size
   clear hb hlx
   refine Xr (i:=2) (d:=some 32) (v:=?_) rfl (by kernel_rfl) (by kernel_rfl) (by kernel_rfl) (by kernel_rfl) (λ _ _ _ h=>h) (Or.inl ⟨by kernel_rfl,?_⟩) (by assumption) ?_
   rotate_left
   ·(intro w hSw;(try dsimp only at hSw);go_simp;(try simp only[hfd]);try with_reducible rfl)
   refine Xz ?_
   refine Xr (i:=5) (d:=some 35) (v:=?_) rfl (by kernel_rfl) (by kernel_rfl) (by kernel_rfl) (by kernel_rfl) (λ _ _ _ h=>h) (Or.inl ⟨by kernel_rfl,?_⟩) (by assumption) ?_
   rotate_left
   ·(intro w hSw;(try dsimp only at hSw);go_simp;(try simp only[hfd]);try with_reducible rfl)
   refine Xz ?_
   have HD:=HD3
   obtain⟨g0,g1,g2,g3,g4,g5⟩:=HC.o.froz
   obtain⟨y0,y1,y2,y3,y4,y5⟩:=HC.o.cells
   have hlC:=HC.o.lt
   have HF:=Xj (D5.ci HD.o HS.o HC.o tn (by omega) (by omega) (by omega) (by omega) (by omega) (by omega) (by omega))
   refine rdH 7 λ K0 hK=>?_
   go_simp
   refine goH hK ⟨Xw (by omega) hJ.1,Xw (by omega) hJ.2.1,Xw (by omega) hJ.2.2.1,Xw (by omega) hJ.2.2.2.1,Xw (by omega) hJ.2.2.2.2.1,Xw (by omega) hJ.2.2.2.2.2⟩ λ hJ=>?_
   clear hK K0
   refine wpAnyH_done (by kernel_rfl) ?_ _
   refine Xz ?_
   go_wp2_with fail
   go_meet
   exact⟨gc,gs,rfl,Xj (by rw[HLN.o];exact HF.o)⟩
  go_simp
  refine goH hK ⟨Xu _ hJ.1,Xu _ hJ.2.1,Xu _ hJ.2.2.1,Xu _ hJ.2.2.2.1,Xu _ hJ.2.2.2.2.1,Xu _ hJ.2.2.2.2.2⟩ λ hJ=>?_
  clear hK K0
  obtain⟨w_1,hwn⟩:∃ W,wd.alloc (.cells #[.int .i64 0,.int .i64 0,.int .i64 0,.int .i64 0,.string { data := #[] },.slice none 0 0] 37)=W:=⟨_,rfl⟩
  obtain⟨gc,hgn⟩:∃ x,wd.heap.size=x:=⟨_,rfl⟩
  have HD1:Xq (D5 K w gR gx wa.heap.size at2 r h (.slice a n c) ar w_1):=Xj (by rw[<- hwn];exact HDd.o.be (Xk _ _))
  have hx1:gx<gc/\wa.heap.size<=gc:=by rw[<- hgn];exact⟨HDd.o.xc.lt,HDd.o.bs⟩
  have HC:Xq (Lc w_1 gc zhd (.slice none 0 0)):=Xj (by rw[<- hwn,<- hgn];exact Lc.zero wd)
  rw[hwn] at hJ ⊢
  (try rw[hgn])
  clear hwn hgn
  refine wpAnyH_ready (rs:=[1,4]) (by kernel_rfl) (by simp) ?_
  refine AllReadyH.cons rfl (λ K0 hK=>?_) (AllReadyH.cons rfl (λ K0 hK=>?_) AllReadyH.nil)
  ·go_simp
   refine(Zv K at2 tk tn tv tt r1 w_1 (HR1.o▸HD1.o.ms.pat)).mono ?_
   rintro e w_2 ⟨rfl,hb⟩
   have hlx:=HD1.o.xc.lt
   refine goH hK ⟨(World.cell?_of_block (a:=⟨gx,0,none⟩) (hb.block gx hlx)).trans hJ.1,(World.cell?_of_block (a:=⟨gx,1,none⟩) (hb.block gx hlx)).trans hJ.2.1,(World.cell?_of_block (a:=⟨gx,2,none⟩) (hb.block gx hlx)).trans hJ.2.2.1,(World.cell?_of_block (a:=⟨gx,3,none⟩) (hb.block gx hlx)).trans hJ.2.2.2.1,(World.cell?_of_block (a:=⟨gx,4,none⟩) (hb.block gx hlx)).trans hJ.2.2.2.2.1,(World.cell?_of_block (a:=⟨gx,5,none⟩) (hb.block gx hlx)).trans hJ.2.2.2.2.2⟩ λ hJ=>?_
   clear hK K0
   have HD2:=Xj (HD1.o.be hb)
   have HC_:=Xj (HC.o.be hb)
   clear HC
   have HC:=HC_
   clear HC_
   have hzc:=hb.size
   clear hb hlx
   refine Xr (i:=2) (d:=some 32) (v:=?_) rfl (by kernel_rfl) (by kernel_rfl) (by kernel_rfl) (by kernel_rfl) (λ _ _ _ h=>h) (Or.inl ⟨by kernel_rfl,?_⟩) (by assumption) ?_
   rotate_left
   ·(intro w hSw;(try dsimp only at hSw);go_simp;(try simp only[hfd]);try with_reducible rfl)
   refine Xz ?_
   refine rdH 4 λ K0 hK=>?_
   go_simp
   refine goH hK ⟨Xu _ hJ.1,Xu _ hJ.2.1,Xu _ hJ.2.2.1,Xu _ hJ.2.2.2.1,Xu _ hJ.2.2.2.2.1,Xu _ hJ.2.2.2.2.2⟩ λ hJ=>?_
   clear hK K0
   obtain⟨w_3,hwn⟩:∃ W,w_2.alloc (.cells #[.int .i64 h.k,.int .i64 h.op,.int .i64 h.v,.int .i64 h.ln,.string (st h.nm),.slice a n c] 37)=W:=⟨_,rfl⟩
   obtain⟨gs,hgn⟩:∃ x,w_2.heap.size=x:=⟨_,rfl⟩
   have HD3:Xq (D5 K w gR gx wa.heap.size at2 r h (.slice a n c) ar w_3):=Xj (by rw[<- hwn];exact HD2.o.be (Xk _ _))
   have hx3:gx<gs/\wa.heap.size<=gs:=by rw[<- hgn];exact⟨HD2.o.xc.lt,HD2.o.bs⟩
   have HS:Xq (Lc w_3 gs h (.slice a n c)):=Xj (by rw[<- hwn,<- hgn];exact Lc.new w_2 h (.slice a n c))
   have hne:gs≠gc:=by have:=HC.o.lt;omega
   have HC_:Xq (Lc w_3 gc zhd (.slice none 0 0)):=Xj (by rw[<- hwn];exact HC.o.al _)
   clear HC
   have HC:=HC_
   clear HC_
   rw[hwn] at hJ ⊢
   (try rw[hgn])
   clear hwn hgn
   refine Xr (i:=5) (d:=some 35) (v:=?_) rfl (by kernel_rfl) (by kernel_rfl) (by kernel_rfl) (by kernel_rfl) (λ _ _ _ h=>h) (Or.inl ⟨by kernel_rfl,?_⟩) (by assumption) ?_
   rotate_left
   ·(intro w hSw;(try dsimp only at hSw);go_simp;(try simp only[hfd]);try with_reducible rfl)
   refine Xz ?_
   have HD:=HD3
   obtain⟨g0,g1,g2,g3,g4,g5⟩:=HC.o.froz
   obtain⟨y0,y1,y2,y3,y4,y5⟩:=HC.o.cells
   have hlC:=HC.o.lt
   have HF:=Xj (D5.ci HD.o HS.o HC.o tn (by omega) (by omega) (by omega) (by omega) (by omega) (by omega) (by omega))
   refine rdH 7 λ K0 hK=>?_
   go_simp
   refine goH hK ⟨Xw (by omega) hJ.1,Xw (by omega) hJ.2.1,Xw (by omega) hJ.2.2.1,Xw (by omega) hJ.2.2.2.1,Xw (by omega) hJ.2.2.2.2.1,Xw (by omega) hJ.2.2.2.2.2⟩ λ hJ=>?_
   clear hK K0
   refine wpAnyH_done (by kernel_rfl) ?_ _
   refine Xz ?_
   go_wp2_with fail
   go_meet
   exact⟨gc,gs,rfl,Xj (by rw[HLN.o];exact HF.o)⟩
  go_simp
  refine goH hK ⟨Xu _ hJ.1,Xu _ hJ.2.1,Xu _ hJ.2.2.1,Xu _ hJ.2.2.2.1,Xu _ hJ.2.2.2.2.1,Xu _ hJ.2.2.2.2.2⟩ λ hJ=>?_
  clear hK K0
  obtain⟨w_2,hwn⟩:∃ W,w_1.alloc (.cells #[.int .i64 h.k,.int .i64 h.op,.int .i64 h.v,.int .i64 h.ln,.string (st h.nm),.slice a n c] 37)=W:=⟨_,rfl⟩
  obtain⟨gs,hgn⟩:∃ x,w_1.heap.size=x:=⟨_,rfl⟩
  have HD2:Xq (D5 K w gR gx wa.heap.size at2 r h (.slice a n c) ar w_2):=Xj (by rw[<- hwn];exact HD1.o.be (Xk _ _))
  have hx2:gx<gs/\wa.heap.size<=gs:=by rw[<- hgn];exact⟨HD1.o.xc.lt,HD1.o.bs⟩
  have HS:Xq (Lc w_2 gs h (.slice a n c)):=Xj (by rw[<- hwn,<- hgn];exact Lc.new w_1 h (.slice a n c))
  have hne:gs≠gc:=by have:=HC.o.lt;omega
  have HC_:Xq (Lc w_2 gc zhd (.slice none 0 0)):=Xj (by rw[<- hwn];exact HC.o.al _)
  clear HC
  have HC:=HC_
  clear HC_
  rw[hwn] at hJ ⊢
  (try rw[hgn])
  clear hwn hgn
  refine rdH 1 λ K0 hK=>?_
  go_simp
  refine(Zv K at2 tk tn tv tt r1 w_2 (HR1.o▸HD2.o.ms.pat)).mono ?_
  rintro e w_3 ⟨rfl,hb⟩
  have hlx:=HD2.o.xc.lt
  refine goH hK ⟨(World.cell?_of_block (a:=⟨gx,0,none⟩) (hb.block gx hlx)).trans hJ.1,(World.cell?_of_block (a:=⟨gx,1,none⟩) (hb.block gx hlx)).trans hJ.2.1,(World.cell?_of_block (a:=⟨gx,2,none⟩) (hb.block gx hlx)).trans hJ.2.2.1,(World.cell?_of_block (a:=⟨gx,3,none⟩) (hb.block gx hlx)).trans hJ.2.2.2.1,(World.cell?_of_block (a:=⟨gx,4,none⟩) (hb.block gx hlx)).trans hJ.2.2.2.2.1,(World.cell?_of_block (a:=⟨gx,5,none⟩) (hb.block gx hlx)).trans hJ.2.2.2.2.2⟩ λ hJ=>?_
  clear hK K0
  have HD3:=Xj (HD2.o.be hb)
  have HS_:=Xj (HS.o.be hb)
  clear HS
  have HS:=HS_
  clear HS_
  have HC_:=Xj (HC.o.be hb)
  clear HC
  have HC:=HC_
  clear HC_
  have hsz3:=hb.size
  clear hb hlx
  refine Xr (i:=2) (d:=some 32) (v:=?_) rfl (by kernel_rfl) (by kernel_rfl) (by kernel_rfl) (by kernel_rfl) (λ _ _ _ h=>h) (Or.inl ⟨by kernel_rfl,?_⟩) (by assumption) ?_
  rotate_left
  ·(intro w hSw;(try dsimp only at hSw);go_simp;(try simp only[hfd]);try with_reducible rfl)
  refine Xz ?_
  refine Xr (i:=5) (d:=some 35) (v:=?_) rfl (by kernel_rfl) (by kernel_rfl) (by kernel_rfl) (by kernel_rfl) (λ _ _ _ h=>h) (Or.inl ⟨by kernel_rfl,?_⟩) (by assumption) ?_
  rotate_left
  ·(intro w hSw;(try dsimp only at hSw);go_simp;(try simp only[hfd]);try with_reducible rfl)
  refine Xz ?_
  have HD:=HD3
  obtain⟨g0,g1,g2,g3,g4,g5⟩:=HC.o.froz
  obtain⟨y0,y1,y2,y3,y4,y5⟩:=HC.o.cells
  have hlC:=HC.o.lt
  have HF:=Xj (D5.ci HD.o HS.o HC.o tn (by omega) (by omega) (by omega) (by omega) (by omega) (by omega) (by omega))
  refine rdH 7 λ K0 hK=>?_
  go_simp
  refine goH hK ⟨Xw (by omega) hJ.1,Xw (by omega) hJ.2.1,Xw (by omega) hJ.2.2.1,Xw (by omega) hJ.2.2.2.1,Xw (by omega) hJ.2.2.2.2.1,Xw (by omega) hJ.2.2.2.2.2⟩ λ hJ=>?_
  clear hK K0
  refine wpAnyH_done (by kernel_rfl) ?_ _
  refine Xz ?_
  go_wp2_with fail
  go_meet
  exact⟨gc,gs,rfl,Xj (by rw[HLN.o];exact HF.o)⟩
 case rest =>
 obtain⟨gc,gs,rfl,HC⟩:=hcut
 clear HD
 have HLT2:=HLT.o
 have HRT:Xq (r.tail.length<r.length):=Xj (Jv (by intro e;have:=HK0.o;rw[e] at this;exact this rfl))
 go_upto_if 36 with fail
 go_cut [] from 37 to 41 (λ wx=>∃ (hd:Hd) (v:Value) (nn:Nat) (xs:List Value) (G:Fo),Xq (nn<=1/\CI K w gR gx gc h (.slice a n c) hd v nn xs at2 r wx/\CF w gR gx gc v nn xs G wx/\(∀ y r2 z,Ps (.ag true .nil) r.tail (.ok y r2)->Ps (.caL false (Xb hd (G.app y))) r2 z->Ps .ca rest z)/\(∀ r2,Ps (.ag true .nil) r.tail (.bad r2)->Ps .ca rest (.bad r2))))
 case first =>
  obtain⟨x0,x1,x2,x3,x4,x5⟩:=HC.o.1.xc.cells
  obtain⟨y0,y1,y2,y3,y4,y5⟩:=HC.o.1.cc.cells
  obtain⟨g0,g1,g2,g3,g4,g5⟩:=HC.o.1.cc.froz
  have hlC:=HC.o.1.cc.lt
  have hjg:Xq (∀ r2,Ps (.ag true .nil) r.tail (.bad r2)->Ps .ca rest (.bad r2)):=Xj (λ r2 h1=>HCO.o _ (Ps.caL_bad HT.o h1))
  cases pl
  ·go_wp2_with fail
   go_meet
   exact⟨_,_,_,_,_,Xj ⟨Nat.le_refl _,HC.o.1,HC.o.2,λ y r2 z h1 h2=>HCO.o z (Ps.caL_value HT.o h1 h2),hjg.o⟩⟩
  go_wp2_with fail
  go_meet
  exact⟨_,_,_,_,_,Xj ⟨Nat.zero_le _,HC.o.1.call (Yj r) h.nm,CF.call _ _ _ _ _,λ y r2 z h1 h2=>HCO.o z (Ps.caL_call HT.o h1 h2),hjg.o⟩⟩
 case rest =>
 clear HC
 obtain⟨hd,v,nn,xs,G,HC⟩:=hcut
 have HCN:=Xj (And.intro HC.o.2.2.2.1 HC.o.2.2.2.2)
 obtain⟨-,p1,-,f1,-,hlp⟩:=HC.o.2.1.ms.pat.cells
 have hw1:=HC.o.2.1.ms.w1
 have hgg2:=HC.o.2.1.ms.gl
 have HC2:=Xj (HC.o.2.1.gr (Xc wc K.g 1 (.int .i64 ((at2:Int)+1))) (HC.o.2.1.ms.pat.step HK0.o))
 have HF2:=Xj (HC.o.2.2.1.gr (Xc wc K.g 1 (.int .i64 ((at2:Int)+1))) hgg2)
 have HN1:=Xj HC.o.1
 go_upto_block 2 with fail
 clear p1 f1 hlp hw1
 obtain⟨w5,hw5⟩:∃ W,wc.setCell ⟨K.g,1,none⟩ (.int .i64 ((at2:Int)+1))=W:=⟨_,rfl⟩
 rw[hw5] at HC2 HF2 ⊢
 clear hw5
 go_wp2_with fail
 go_loopw [6,8] (λ v6 v8 wr=>∃ (ok first:Bool) (v:Value) (nn:Nat) (xs:List Value) (at3:Nat) (r3:List Tk),v6=.bool ok/\v8=.bool first/\Xq (AI K w gR gx gc r h (.slice a n c) hd G first ok v nn xs at3 r3 wr)) (λ v6 _ wr=>2*(K.ts.length-natAt wr K.g)+Rz v6)
 case atStart=>exact⟨true,true,v,nn,xs,at2+1,r.tail,rfl,rfl,Xj ⟨HC2.o,Nat.le_refl _,.inl ⟨rfl,by have:=HN1.o;omega,.nil,by rw[Fo.app_nil2];exact HF2.o,λ z h=>h⟩⟩⟩
 rename World=>wb
 obtain⟨ok,first,v,nn,xs,at3,r3,rfl,rfl,HI⟩:=hrel
 cases ok
 ·have HB:Xq (Ps (.ag true .nil) r.tail (.bad r3)):=Xj (by
   rcases HI.o.res with⟨h1,_⟩|⟨_,h1⟩
   ·cases h1
   exact h1)
  obtain⟨sa,sc,hvs⟩:=HI.o.ci.shape
  subst hvs
  obtain⟨y0,y1,y2,y3,y4,y5⟩:=HI.o.ci.cc.cells
  obtain⟨g0,g1,g2,g3,g4,g5⟩:=HI.o.ci.xc.froz
  obtain⟨x0,x1,x2,x3,x4,x5⟩:=HI.o.ci.xc.cells
  have hlX:=HI.o.ci.xc.lt
  have hlC:=HI.o.ci.cc.lt
  have HNE:=Xj HI.o.ci.ne
  have HL2:Xq (LI K w gR gx .ca (.caL false) rest hd sa nn sc false (at3) (r3) (set6 wb gx (.int .i64 hd.k) (.int .i64 hd.op) (.int .i64 hd.v) (.int .i64 hd.ln) (.string (st hd.nm)) (.slice sa nn sc))):=Xj ⟨HI.o.ci.ms.s6 HNE.o.2.2.2.2.1 _ _ _ _ _ _,HI.o.ci.rc.s6o HNE.o.2.2.2.2.2.1,HI.o.ci.xc.s6 hd _,by have h1:=HI.o.le;have h2:=HRT.o;have h3:=HLT.o;omega,.inr ⟨rfl,HCN.o.2 r3 HB.o⟩⟩
  have HM2:Xq (K.ts.length-natAt (set6 wb gx (.int .i64 hd.k) (.int .i64 hd.op) (.int .i64 hd.v) (.int .i64 hd.ln) (.string (st hd.nm)) (.slice sa nn sc)) K.g<K.ts.length-natAt wa K.g):=Xj (by
   rw[HL2.o.ms.pat.natAt,HL.o.ms.pat.natAt]
   have h1:=HL2.o.ms.pat.lt
   have h2:=HL.o.ms.pat.lt
   have h3:=HRT.o
   have h4:=HI.o.le
   (try simp only[List.length_tail] at h1 h3 h4)
   omega)
  go_wp2_with fail
  go_roundw
  case rel=>exact⟨hd,sa,nn,sc,false,false,at3,r3,rfl,rfl,HL2⟩
  exact HM2.o
 obtain⟨hnn,Fa,hcf,hco⟩:nn<=at3/\∃ Fa,CF w gR gx gc v nn xs (G.app Fa) wb/\∀ z,Ps (.ag first Fa) r3 z->Ps (.ag true .nil) r.tail z:=by
  rcases HI.o.res with⟨_,h1⟩|⟨h1,_⟩
  ·exact h1
  cases h1
 have HNN:=Xj hnn
 have HCF:=Xj hcf
 have HAC:=Xj hco
 clear hnn hcf hco
 go_wp2_with fail
 refine(Yd K at3 r3 [41] _ HI.o.ci.ms.pat).mono ?_
 rintro e w5 ⟨at5,r5,rfl,hp5,hg5,hc5⟩
 have HC5:=Xj (HI.o.ci.gr hg5 hp5)
 have HF5:=Xj (HCF.o.gr hg5 HI.o.ci.ms.gl)
 clear hp5 hg5
 rcases hc5 with⟨h41,rfl,rfl⟩|⟨h41,rfl,rfl⟩
 ·have H41:=Xj h41
  (try rw[h41])
  clear h41
  obtain⟨sa,sc,hvs⟩:=HC5.o.shape
  subst hvs
  obtain⟨y0,y1,y2,y3,y4,y5⟩:=HC5.o.cc.cells
  obtain⟨g0,g1,g2,g3,g4,g5⟩:=HC5.o.xc.froz
  obtain⟨x0,x1,x2,x3,x4,x5⟩:=HC5.o.xc.cells
  have hlX:=HC5.o.xc.lt
  have hlC:=HC5.o.cc.lt
  have HNE:=Xj HC5.o.ne
  have HL2:Xq (LI K w gR gx .ca (.caL false) rest hd sa nn sc true (at3+1) (r3.tail) (set6 w5 gx (.int .i64 hd.k) (.int .i64 hd.op) (.int .i64 hd.v) (.int .i64 hd.ln) (.string (st hd.nm)) (.slice sa nn sc))):=Xj ⟨HC5.o.ms.s6 HNE.o.2.2.2.2.1 _ _ _ _ _ _,HC5.o.rc.s6o HNE.o.2.2.2.2.2.1,HC5.o.xc.s6 hd _,by have h1:=HI.o.le;have h2:=HRT.o;have h3:=HLT.o;simp only[List.length_tail] at *;omega,(by
    have HARS:=Xd (v0:=.int .i64 hd.k) (v1:=.int .i64 hd.op) (v2:=.int .i64 hd.v) (v3:=.int .i64 hd.ln) (v4:=.string (st hd.nm)) (v5:=.slice sa nn sc) (HC5.o.args HF5.o) (λ b hb=>hb.2.2)
    exact .inl ⟨rfl,_,λ z hz=>HCN.o.1 Fa _ z (HAC.o _ (Ps.ag_end H41.o)) hz,HARS,by have h1:=HI.o.le;have h2:=HRT.o;have h3:=HLT.o;simp only[List.length_tail] at *;omega⟩)⟩
  have HM2:Xq (K.ts.length-natAt (set6 w5 gx (.int .i64 hd.k) (.int .i64 hd.op) (.int .i64 hd.v) (.int .i64 hd.ln) (.string (st hd.nm)) (.slice sa nn sc)) K.g<K.ts.length-natAt wa K.g):=Xj (by
   rw[HL2.o.ms.pat.natAt,HL.o.ms.pat.natAt]
   have h1:=HL2.o.ms.pat.lt
   have h2:=HL.o.ms.pat.lt
   have h3:=HRT.o
   have h4:=HI.o.le
   (try simp only[List.length_tail] at h1 h3 h4)
   omega)
  go_wp2_with fail
  go_roundw
  case rel=>exact⟨hd,sa,nn,sc,false,true,at3+1,r3.tail,rfl,rfl,HL2⟩
  exact HM2.o
 have H41:=Xj h41
 (try rw[h41])
 clear h41
 go_upto_region 12 with fail
 go_cut [61] from 55 to 61 (λ v61 wx=>∃ (b:Bool) (at6:Nat) (r6:List Tk),v61=.bool b/\Xq (CI K w gR gx gc h (.slice a n c) hd v nn xs at6 r6 wx/\CF w gR gx gc v nn xs (G.app Fa) wx/\r6.length<=r5.length/\((b=false/\(∀ x r2 z,Ps .ex r6 (.ok x r2)->Ps (.ag false (Fa.app x)) r2 z->Ps (.ag true .nil) r.tail z)/\(∀ r2,Ps .ex r6 (.bad r2)->Ps (.ag true .nil) r.tail (.bad r2)))\/(b=true/\Ps (.ag true .nil) r.tail (.bad r6)))))
 case first =>
  cases first
  ·go_wp2_with fail
   refine(Yd K _ _ [44] _ HC5.o.ms.pat).mono ?_
   rintro e w6 ⟨at6,r6,rfl,hp6,hg6,hc6⟩
   have HC6:=Xj (HC5.o.gr hg6 hp6)
   have HF6:=Xj (HF5.o.gr hg6 HC5.o.ms.gl)
   clear hp6 hg6
   rcases hc6 with⟨h44,rfl,rfl⟩|⟨h44,rfl,rfl⟩
   ·have H44:=Xj h44
    (try rw[h44])
    clear h44
    go_wp2_with fail
    go_meet
    exact⟨false,_,_,rfl,Xj ⟨HC6.o,HF6.o,by simp,.inl ⟨rfl,λ x r2 z h1 h2=>HAC.o z (Ps.ag_next H41.o H44.o h1 h2),λ r2 h1=>HAC.o _ (Ps.ag_next_bad H41.o H44.o h1)⟩⟩⟩
   have H44:=Xj h44
   (try rw[h44])
   clear h44
   go_wp2_with fail
   go_meet
   exact⟨true,_,_,rfl,Xj ⟨HC6.o,HF6.o,Nat.le_refl _,.inr ⟨rfl,HAC.o _ (Ps.ag_bad H41.o H44.o)⟩⟩⟩
  go_wp2_with fail
  go_meet
  exact⟨false,_,_,rfl,Xj ⟨HC5.o,HF5.o,Nat.le_refl _,.inl ⟨rfl,λ x r2 z h1 h2=>HAC.o z (Ps.ag_first H41.o h1 h2),λ r2 h1=>HAC.o _ (Ps.ag_first_bad H41.o h1)⟩⟩⟩
 case rest =>
 clear HC5 HF5
 obtain⟨b,at6,r6,rfl,HC6⟩:=hcut
 cases b
 ·have hcx:(∀ x r2 z,Ps .ex r6 (.ok x r2)->Ps (.ag false (Fa.app x)) r2 z->Ps (.ag true .nil) r.tail z)/\(∀ r2,Ps .ex r6 (.bad r2)->Ps (.ag true .nil) r.tail (.bad r2)):=by
   rcases HC6.o.2.2.2 with⟨_,h1⟩|⟨h1,_⟩
   ·exact h1
   cases h1
  have HCX:=Xj hcx
  clear hcx
  have hzp:Xq (r6.length<=r.tail.length/\r6.length<rest.length):=Xj (by have h1:=HI.o.le;have h2:=HRT.o;have h3:=HLT.o;have h4:=HC6.o.2.2.1;exact⟨by omega,by omega⟩)
  have HN6:Xq (nn<100000):=Xj (by have h1:=HC6.o.1.ms.pat.lt;have h2:=HI.o.ci.ms.pat.lt;have h3:=HC6.o.2.2.1;have h4:=HNN.o;have h5:=HC6.o.1.ms.pat.n;omega)
  have HK6:Xq (nn<=at6):=Xj (by have h1:=HC6.o.1.ms.pat.lt;have h2:=HI.o.ci.ms.pat.lt;have h3:=HC6.o.2.2.1;have h4:=HNN.o;omega)
  have HD6:=Xj (HC6.o.1.al zex)
  have HY6:=Xj (Lc.zero wc)
  have HNE:=Xj HC6.o.1.ne
  have HL6:=Xj (And.intro HC6.o.1.rc.lt (And.intro HC6.o.1.xc.lt HC6.o.1.cc.lt))
  have HO6:Xq (v.ownBlock≠some wc.heap.size):=Xj (λ e=>by have:=(HC6.o.1.own.lt _ e).2;omega)
  go_upto_region 15 with fail
  obtain⟨w6,hw6⟩:∃ W,wc.alloc zex=W:=⟨_,rfl⟩
  obtain⟨gy,hgy⟩:∃ x,wc.heap.size=x:=⟨_,rfl⟩
  (try rw[show wc.alloc (.cells #[.int .i64 0,.int .i64 0,.int .i64 0,.int .i64 0,.string { data := #[] },.slice none 0 0] 37)=w6 from hw6])
  rw[hw6] at HD6 HY6
  rw[hgy] at HY6 HO6 HL6
  (try rw[hgy])
  have HS6:Xq (w6.heap.size=gy+1):=Xj (by rw[<- hw6,<- hgy];simp)
  have HF6:Xq (Qu w6 (λ b=>(TBk w gR gx b/\b≠gc/\some b≠v.ownBlock)/\b<gy) (G.app Fa) xs/\(G.app Fa).len=nn):=Xj ⟨HC6.o.2.1.1.keep (λ b hb hlt=>⟨by rw[<- hw6];exact Below.heap_alloc wc zex b hlt,hb,by omega⟩) (by rw[<- hw6];simp),HC6.o.2.1.2⟩
  clear hw6 hgy
  go_wp2_with fail
  refine(HE.o _ _ _ HD6.o.ms.pat hzp.o.2).mono ?_
  rintro e w7 ⟨h2,a2,n2,c2,ok2,at7,r7,rfl,hp7,hI,hg7,hH⟩
  have HD7:=Xj (HD6.o.gr hg7 hp7)
  have hl6:=HL6.o
  have hne:=HNE.o
  have hs7:=hg7.size
  have hS6:=HS6.o
  have HY7:=Xj (HY6.o.gr hg7 (by omega))
  have HF7:Xq (Qu w7 (λ b=>(TBk w gR gx b/\b≠gc/\some b≠v.ownBlock)/\b<gy) (G.app Fa) xs/\(G.app Fa).len=nn):=Xj ⟨HF6.o.1.keep (λ b hb hlt=>⟨hg7.block b hlt (λ e=>by injection e with e;have:=hb.1.1.1;omega),hb⟩) hg7.size,HF6.o.2⟩
  have hqg:=Xj hI
  have hjz:=hH
  obtain⟨v0,v1,v2,v3,v4,v5⟩:=HY7.o.froz
  obtain⟨u0,u1,u2,u3,u4,u5⟩:=HY7.o.cells
  have hqw:=HY7.o.lt
  clear hp7 hg7 hI hH
  go_upto_region 16 with fail
  clear v0 v1 v2 v3 v4 v5 u0 u1 u2 u3 u4 u5 hqw
  have HOB:Xq (∀ k,v.ownBlock=some k->w.heap.size<=k/\k<gy):=Xj (λ k hk=>⟨(HC6.o.1.own.lt k hk).1,by have h1:=(HC6.o.1.own.lt k hk).2;have h2:=HO6.o;have h3:=HS6.o;have h4:=(HD6.o.own.lt k hk).2;rcases Nat.lt_or_ge k gy with h|h;exact h;exact absurd (show v.ownBlock=some gy by rw[hk,show k=gy by omega]) h2⟩)
  have HD8:=Xj (HD7.o.s6n (g:=gy) (v0:=.int .i64 h2.k) (v1:=.int .i64 h2.op) (v2:=.int .i64 h2.v) (v3:=.int .i64 h2.ln) (v4:=.string (st h2.nm)) (v5:=.slice a2 n2 c2) (by omega) (by omega) (by omega) (by omega) HO6.o)
  have HY8:=Xj (HY7.o.s6 h2 (.slice a2 n2 c2))
  have HF8:Xq (CF w gR gx gc v nn xs (G.app Fa) (set6 w7 gy (.int .i64 h2.k) (.int .i64 h2.op) (.int .i64 h2.v) (.int .i64 h2.ln) (.string (st h2.nm)) (.slice a2 n2 c2))):=Xj ⟨HF7.o.1.keep (λ b hb hlt=>⟨Zj b (by have:=hb.2;omega),hb.1⟩) (by rw[Qz];exact Nat.le_refl _),HF7.o.2⟩
  have H5:Xq ((ok2=true/\∃ ar2,Ps .ex r6 (.ok (Xb h2 ar2) r7)/\Xv (set6 w7 gy (.int .i64 h2.k) (.int .i64 h2.op) (.int .i64 h2.v) (.int .i64 h2.ln) (.string (st h2.nm)) (.slice a2 n2 c2)) (λ b=>TBk w gR gx b/\b≠gc/\some b≠v.ownBlock) ar2 (.slice a2 n2 c2)/\r7.length<r6.length)\/(ok2=false/\Ps .ex r6 (.bad r7))):=Xj (by
   rcases hjz.o with⟨e1,ar2,e2,e3,e4⟩|hr
   ·exact .inl ⟨e1,ar2,e2,Xy (Xd e3 (λ b hb=>by omega)) (λ b hb _=>⟨⟨by omega,by omega,by omega⟩,by omega,λ e=>by have:=(HOB.o b e.symm).2;omega⟩),e4⟩
   exact .inr hr)
  obtain⟨w8,hw8⟩:∃ W,set6 w7 gy (.int .i64 h2.k) (.int .i64 h2.op) (.int .i64 h2.v) (.int .i64 h2.ln) (.string (st h2.nm)) (.slice a2 n2 c2)=W:=⟨_,rfl⟩
  have hjb:=hw8
  unfold set6 at hjb
  (try rw[hjb])
  rw[hw8] at HD8 HY8 HF8 H5
  clear hw8 hjb HF7 HD7 HY7 hjz
  obtain⟨q0,q1,q2,q3,q4,q5⟩:=HY8.o.cells
  obtain⟨y0,y1,y2,y3,y4,y5⟩:=HD8.o.cc.cells
  have hlY:=HY8.o.lt
  have hlC:=HD8.o.cc.lt
  obtain⟨i0,hi0,hz0,hz1,hz2⟩:=info_parts Tryz.infoExpr
  have HIF:=Xj hi0
  have HZ0:=Xj hz0
  have HZ1:=Xj hz1
  have HZ2:=Xj hz2
  clear hi0 hz0 hz1 hz2
  have HOA:=Xj (HD8.o.own.alloc (.cells (ecs h2 (.slice a2 n2 c2)) 37))
  have hn6:=HN6.o
  go_wp2_with (at_builtin;refine wpList_append_lies _ rfl _ _ _ rfl w.heap.size 37 i0 _ 6 72 Tryz.underlying35 HIF.o HZ0.o HZ1.o HZ2.o rfl (by omega) _ _ _ rfl HOA.o ⟨w8.heap.size,0,none⟩ 1 1 (hdc h2 (.slice a2 n2 c2)) rfl rfl (World.news_of_block (cs:=(hdc h2 (.slice a2 n2 c2)).toArray) (t:=37) (fr:=(0,0)) (heap_alloc_new w8 _)) (by simp[Value.oneCell']) (by omega) (by unfold maxLen;omega) (by omega) (by simp;omega) _ rfl ?_;intro g9 c9 w9 hown9 hgrow9 hor9 hlt9;have HO9:=Xj hown9;have HG9:=Xj hgrow9;have HR9:=Xj hor9;have HCC:=Xj ((HD8.o.cc.al (.cells (ecs h2 (.slice a2 n2 c2)) 37)).grw hgrow9 HNE.o.2.2.2.2.2.2.2.2);obtain⟨t0,t1,t2,t3,t4,t5⟩:=HCC.o.cells;obtain⟨j0,j1,j2,j3,j4,j5⟩:=HCC.o.froz;have hlC9:=HCC.o.lt;clear hown9 hgrow9 hor9 hlt9)
  have HP:=Xj (HD8.o.push HG9.o HR9.o HO9.o)
  go_roundw
  case rel =>
   refine⟨ok2,false,_,nn+1,_,at7,r7,rfl,rfl,Xj ⟨HP.o,by have:=hqg.o;have:=hzp.o.1;omega,?_⟩⟩
   rcases H5.o with⟨e1,ar2,e2,e3,e4⟩|⟨e1,e2⟩
   ·refine .inl ⟨e1,?_,Fa.app (Xb h2 ar2),?_,λ z hz=>HCX.o.1 _ _ z e2 hz⟩
    ·have h1:=HP.o.ms.pat.lt
     have h2:=HC6.o.1.ms.pat.lt
     have h3:=HK6.o
     omega
    rw[<- Fo.app_assoc2]
    exact HF8.o.push HD8.o e3 HG9.o HR9.o
   exact .inr ⟨e1,HCX.o.2 _ e2⟩
  have h1:=HP.o.ms.pat.natAt
  have h2:=HI.o.ci.ms.pat.natAt
  rw[h2]
  rw[h1]
  have h3:=HP.o.ms.pat.lt
  have h4:=HI.o.ci.ms.pat.lt
  have h5:=HC6.o.2.2.1
  rcases H5.o with⟨e1,ar2,e2,e3,e4⟩|⟨e1,e2⟩
  ·rw[e1]
   simp only[Rz]
   omega
  rw[e1]
  have:=hqg.o
  simp only[Rz]
  omega
 have HB:Xq (Ps (.ag true .nil) r.tail (.bad r6)):=Xj (by
  rcases HC6.o.2.2.2 with⟨h1,_⟩|⟨_,h1⟩
  ·cases h1
  exact h1)
 obtain⟨sa,sc,hvs⟩:=HC6.o.1.shape
 subst hvs
 obtain⟨y0,y1,y2,y3,y4,y5⟩:=HC6.o.1.cc.cells
 obtain⟨g0,g1,g2,g3,g4,g5⟩:=HC6.o.1.rc.froz
 obtain⟨x0,x1,x2,x3,x4,x5⟩:=HC6.o.1.rc.cells
 have hlR:=HC6.o.1.rc.lt
 have hlC:=HC6.o.1.cc.lt
 have HNE:=Xj HC6.o.1.ne
 have HMZ:=Xj (HC6.o.1.ms.s6 (b:=gR) HNE.o.2.2.2.1 (.int .i64 hd.k) (.int .i64 hd.op) (.int .i64 hd.v) (.int .i64 hd.ln) (.string (st hd.nm)) (.slice sa nn sc))
 have HDZ:=Xj (HC6.o.1.rc.s6 hd (.slice sa nn sc))
 have hzp:Xq (r6.length<=rest.length):=Xj (by have h1:=HI.o.le;have h2:=HRT.o;have h3:=HLT.o;have h4:=HC6.o.2.2.1;omega)
 go_wp2_with fail
 obtain⟨wz,hwz⟩:∃ W,set6 wc gR (.int .i64 hd.k) (.int .i64 hd.op) (.int .i64 hd.v) (.int .i64 hd.ln) (.string (st hd.nm)) (.slice sa nn sc)=W:=⟨_,rfl⟩
 have hZ:=hwz
 unfold set6 at hZ
 (try rw[hZ])
 rw[hwz] at HMZ HDZ
 obtain⟨d0,d1,d2,d3,d4,d5⟩:=HDZ.o.cells
 refine bodyPost_ret (v:=.tuple #[exv hd (.slice sa nn sc),.bool false]) (by simp[results,Tryz.results206,go_sem,d0,d1,d2,d3,d4,d5]) rfl ?_
 exact⟨hd,sa,nn,sc,false,at6,r6,rfl,HMZ.o.pat,hzp.o,HMZ.o.gr,Xj (.inr ⟨rfl,HCN.o.2 _ HB.o⟩)⟩
end
theorem Km (m:Nat):CE 56 .ex m/\CE 202 .un m:=by
 induction m using Nat.strongRecOn with
 | _ m ih =>
  have hE:∀ j,j<m->CE 56 .ex j:=λ j hj=>(ih j hj).1
  have hU:=Hz m (Nn m hE (Hg m hE)) (λ j hj=>(ih j hj).2)
  exact⟨Bq m (Cn m (Dj m (Cv m (Tm m hU)))),hU⟩
theorem Np (K:PC) (at_:Nat) (rest:List Tk) (w:World) (h:PAt w K at_ rest):Calls Tryz.prog 56 #[.pointer (some ⟨K.g,0,none⟩)] w (EP K .ex rest w) :=
 (Km rest.length).1 K at_ rest w h (Nat.le_refl _)
def Bn:Value->Nat
 | .int _ z=>z.toNat
 | _=>0
theorem Mt (ys:List Tk) (h:∀ x∈ys,Qb x):ys.length<=Yc 0 ys:=by
 induction ys with
 | nil=>simp[Yc]
 | cons x l ih =>
  have h1:=(h x (by simp)).pos
  have h2:=ih λ y hy=>h y (by simp[hy])
  simp only[List.length_cons,Yc]
  omega
theorem En {l:Bt} {ts:List Tk} (h:(scan l).1=some ts):ts.length<=l.length+1/\Qv ts:=by
 have e:scan l=(some ts,(scan l).2):=by rw[<- h]
 obtain⟨ys,ln,e1,_,h3,h4⟩:=Vx e
 have:=Mt ys h3
 refine⟨?_,Qv.scan e⟩
 rw[e1]
 simp
 omega
def PRes (y:PR) (w w':World) (e:Ending):Prop :=
 (∃ (h:Hd) (ar:Fo) (r:List Tk) (a:Option Addr) (n c:Nat),y=.ok (Xb h ar) r/\kOf r=0/\Xv w' (λ b=>w.heap.size<=b) ar (.slice a n c)/\e=.returned (.tuple #[exv h (.slice a n c),.int .i64 0,.int .i64 0])) \/
 (∃ r,((∃ F,y=.ok F r/\kOf r≠0)\/y=.bad r)/\e=.returned (.tuple #[exv zhd (.slice none 0 0),.int .i64 (Yj r),.int .i64 7]))
def Wj (l:Bt) (w:World) (e:Ending) (w':World):Prop:=Below w.heap.size w w' /\
 ((65536<l.length/\e=.returned (.tuple #[exv zhd (.slice none 0 0),.int .i64 0,.int .i64 5])) \/
  (l.length<=65536/\(scan l).1=none/\e=.returned (.tuple #[exv zhd (.slice none 0 0),.int .i64 (scan l).2,.int .i64 6])) \/
  (l.length<=65536/\∃ (ts:List Tk) (y:PR),(scan l).1=some ts/\Xq (Ps .ex ts y/\PRes y w w' e)))
theorem Vc {w wx:World} {g:Nat} (h:w.grownBy wx (some g)) (hg:w.heap.size<=g):Below w.heap.size w wx :=
 ⟨h.os,h.tape,h.output,h.size,λ k hk=>h.block k hk (λ e=>by injection e with e;omega)⟩
theorem Zt {w wx:World} {g:Nat} {v0 v1 v2 v3 v4 v5:Value} (h:Below w.heap.size w wx) (hg:w.heap.size<=g):Below w.heap.size w (set6 wx g v0 v1 v2 v3 v4 v5) :=
 have k:=Kg (v0:=v0) (v1:=v1) (v2:=v2) (v3:=v3) (v4:=v4) (v5:=v5) (row:=none) (⟨h.os,h.tape,h.output,h.size,λ k hk _=>h.block k hk⟩:w.grownBy wx none) hg
 ⟨k.os,k.tape,k.output,k.size,λ i hi=>k.block i hi (λ e=>nomatch e)⟩
theorem PAt.sc1 {w:World} {K:PC} {at_:Nat} {rest:List Tk} (h:PAt w K at_ rest) {b o:Nat} (hb:b≠K.g/\∀ x,K.al=some x->x.block≠b) (v:Value):PAt (w.setCell ⟨b,o,none⟩ v) K at_ rest :=
 h.grown (Xc w b o v) (λ k e=>by injection e with e;subst e;exact hb)
theorem PAt.s6 {w:World} {K:PC} {at_:Nat} {rest:List Tk} (h:PAt w K at_ rest) {b:Nat} (hb:b≠K.g/\∀ x,K.al=some x->x.block≠b) (v0 v1 v2 v3 v4 v5:Value):PAt (set6 w b v0 v1 v2 v3 v4 v5) K at_ rest :=
 (((((h.sc1 hb v0).sc1 hb v1).sc1 hb v2).sc1 hb v3).sc1 hb v4).sc1 hb v5
theorem Uy (T:Bt) (hT:T.length<=281474976710656) (w:World) (hw:Lad w):Calls Tryz.prog 19 #[.string (st T)] w (Wj T w):=by
 have HW:=Xj (hw.below (Xk w zex))
 have HR1:=Xj (Lc.zero w)
 have HTl:=Xj hT
 have HB1:=Xj (Xk w zex)
 clear hw hT
 go_enter Tryz.func19,Tryz.ntmps19
 go_upto_region 1 with fail
 obtain⟨w1,hw1⟩:∃ W,w.alloc zex=W:=⟨_,rfl⟩
 obtain⟨gR,hgR⟩:∃ x,w.heap.size=x:=⟨_,rfl⟩
 (try rw[show w.alloc (.cells #[.int .i64 0,.int .i64 0,.int .i64 0,.int .i64 0,.string { data := #[] },.slice none 0 0] 37)=w1 from hw1])
 rw[hw1] at HW HR1 HB1
 rw[hgR] at HR1
 (try rw[hgR])
 have HGR:=Xj hgR
 have HS1:Xq (w1.heap.size=gR+1):=Xj (by rw[<- hw1,<- hgR];simp)
 clear hw1 hgR
 go_wp2_with fail
 refine(Sl (st T) (by show T.length<=_;exact HTl.o) _ HW.o).mono ?_
 rintro e w2 ⟨hb2,hp⟩
 have ed:(st T).data.toList=T:=by simp
 rw[ed] at hp
 have HR2:=Xj (HR1.o.be hb2)
 have HB2:=Xj (HB1.o.trans (hb2.mono HB1.o.size))
 have HS2:Xq (gR<w2.heap.size):=Xj (by have:=HS1.o;have:=hb2.size;omega)
 have hjy:∀ (ln er:Int),(∀ W,W=set6 w2 gR (.int .i64 0) (.int .i64 0) (.int .i64 0) (.int .i64 0) (.string { data := #[] }) (.slice none 0 0)->Lc W gR zhd (.slice none 0 0)/\Below w.heap.size w W):=λ _ _ W hW=>by
  subst hW
  exact⟨HR2.o.s6 zhd _,Zt HB2.o (by have:=HGR.o;omega)⟩
 have hjv:=Xj hjy
 clear hjy hb2 ed
 obtain⟨y0,y1,y2,y3,y4,y5⟩:=HR2.o.cells
 obtain⟨g0,g1,g2,g3,g4,g5⟩:=HR2.o.froz
 have hlR:=HR2.o.lt
 rcases hp with⟨hjf,rfl⟩|⟨hle,hsc,rfl⟩|⟨hle,ts,v,hsc,rfl,hjk⟩
 ·have HX:=Xj hjf
  clear hjf
  go_wp2_with fail
  obtain⟨wz,hwz⟩:∃ W,set6 w2 gR (.int .i64 0) (.int .i64 0) (.int .i64 0) (.int .i64 0) (.string { data := #[] }) (.slice none 0 0)=W:=⟨_,rfl⟩
  have hZ:=hwz
  unfold set6 at hZ
  (try rw[hZ])
  obtain⟨hd,hbz⟩:=hjv.o 0 0 wz hwz.symm
  obtain⟨d0,d1,d2,d3,d4,d5⟩:=hd.cells
  refine bodyPost_ret (v:=.tuple #[exv zhd (.slice none 0 0),.int .i64 0,.int .i64 5]) (by simp[results,Tryz.results19,go_sem,d0,d1,d2,d3,d4,d5]) rfl ?_
  exact⟨hbz,.inl ⟨HX.o,rfl⟩⟩
 ·have HX:=Xj (And.intro hle hsc)
  clear hle hsc
  go_wp2_with fail
  obtain⟨wz,hwz⟩:∃ W,set6 w2 gR (.int .i64 0) (.int .i64 0) (.int .i64 0) (.int .i64 0) (.string { data := #[] }) (.slice none 0 0)=W:=⟨_,rfl⟩
  have hZ:=hwz
  unfold set6 at hZ
  (try rw[hZ])
  obtain⟨hd,hbz⟩:=hjv.o 0 0 wz hwz.symm
  obtain⟨d0,d1,d2,d3,d4,d5⟩:=hd.cells
  refine bodyPost_ret (v:=.tuple #[exv zhd (.slice none 0 0),.int .i64 (scan T).2,.int .i64 6]) (by simp[results,Tryz.results19,go_sem,d0,d1,d2,d3,d4,d5]) rfl ?_
  exact⟨hbz,.inr (.inl ⟨HX.o.1,HX.o.2,rfl⟩)⟩
 have hL:=En hsc
 obtain⟨al,cl,rfl,_,hc1,hc2,htl,hbl⟩:=Tks.of_own hjk
 have HX:=Xj (And.intro hle hsc)
 have HAL:Xq (∀ x,al=some x->x.block≠gR):=Xj (λ x hx=>by have:=hbl x hx;have:=HS1.o;omega)
 have HP:Xq (∀ W g,W=w2.alloc (.cells #[.slice al ts.length cl,.int .i64 0,.int .i64 0] 99)->g=w2.heap.size->PAt W ⟨g,al,cl,ts,0⟩ 0 ts):=Xj (λ W g hW hg=>by
  subst hW
  subst hg
  exact⟨heap_alloc_new w2 _,htl.below (Xk w2 _),λ x hx=>by obtain⟨b,off,e2,hb,_⟩:=htl 0 (hdT ts) (by obtain⟨x,r,e⟩:=hL.2.cons;rw[e];rfl);rw[e2] at hx;injection hx with hx;subst hx;show b≠w2.heap.size;omega,by simp,hL.2,⟨hc1,hc2⟩,by show ts.length<=100000;have:=hL.1;omega⟩)
 have HR3:=Xj (HR2.o.al (.cells #[.slice al ts.length cl,.int .i64 0,.int .i64 0] 99))
 have HB3:=Xj (HB2.o.alloc (by exact HB2.o.size) (.cells #[.slice al ts.length cl,.int .i64 0,.int .i64 0] 99))
 clear hL hc1 hc2 htl hbl hle hsc hjk y0 y1 y2 y3 y4 y5 g0 g1 g2 g3 g4 g5 hlR
 go_upto_region 5 with fail
 obtain⟨w3,hw3⟩:∃ W,w2.alloc (.cells #[.slice al ts.length cl,.int .i64 0,.int .i64 0] 99)=W:=⟨_,rfl⟩
 obtain⟨g,hg⟩:∃ x,w2.heap.size=x:=⟨_,rfl⟩
 have HP3:=Xj (HP.o w3 g hw3.symm hg.symm)
 (try rw[hw3])
 rw[hw3] at HR3 HB3
 (try rw[hg])
 have HG3:Xq (gR<g):=Xj (by have:=HS2.o;omega)
 clear HP hw3 hg
 go_wp2_with fail
 refine(Np ⟨g,al,cl,ts,0⟩ 0 ts _ HP3.o).mono ?_
 rintro e w4 ⟨h,a,n,c,ok,at2,r,rfl,hp4,hql,hg4,hO⟩
 have HP4:=Xj hp4
 have hgl:gR<g:=HG3.o
 have HR4:=Xj (HR3.o.gr hg4 (show gR≠g by omega))
 have HB4:Xq (Below w.heap.size w w4):=Xj (Vc (g:=g) ⟨hg4.os.trans HB3.o.os,hg4.tape.trans HB3.o.tape,hg4.output.trans HB3.o.output,Nat.le_trans HB3.o.size hg4.size,λ k hk hn=>(hg4.block k (by have:=HB3.o.size;omega) hn).trans (HB3.o.block k hk)⟩ (by have:=HGR.o;omega))
 have HSZ:=Xj (And.intro HB3.o.size HGR.o)
 have HS3:Xq (gR<w3.heap.size):=Xj HR3.o.lt
 have HR5:=Xj (HR4.o.s6 h (.slice a n c))
 have hp5:PAt (set6 w4 gR (.int .i64 h.k) (.int .i64 h.op) (.int .i64 h.v) (.int .i64 h.ln) (.string (st h.nm)) (.slice a n c)) ⟨g,al,cl,ts,0⟩ at2 r:=hp4.s6 ⟨by show gR≠g;omega,HAL.o⟩ _ _ _ _ _ _
 have HP5:=Xj hp5
 obtain⟨y0,y1,y2,y3,y4,y5⟩:=HR4.o.cells
 obtain⟨g0,g1,g2,g3,g4,g5⟩:=HR4.o.froz
 have hlR:=HR4.o.lt
 have hzz:Xq ((ok=true/\∃ ar,Ps .ex ts (.ok (Xb h ar) r)/\Xv w4 (λ b=>w3.heap.size<=b) ar (.slice a n c)/\r.length<ts.length)\/(ok=false/\Ps .ex ts (.bad r))):=hO
 clear hp4 hp5 hql hg4 hO HP4 HP3 HR3 HB3
 obtain⟨⟨rk,rn,rv,rt⟩,r1,hr1⟩:=HP5.o.en.cons
 have HKR:Xq (kOf r=rk/\Yj r=rn):=Xj (by rw[hr1];exact⟨rfl,rfl⟩)
 have HB5:=Xj (Zt (v0:=.int .i64 h.k) (v1:=.int .i64 h.op) (v2:=.int .i64 h.v) (v3:=.int .i64 h.ln) (v4:=.string (st h.nm)) (v5:=.slice a n c) HB4.o (g:=gR) (by have:=HGR.o;omega))
 have HA5:Xq (∀ ar,Xv w4 (λ b=>w3.heap.size<=b) ar (.slice a n c)->Xv (set6 w4 gR (.int .i64 h.k) (.int .i64 h.op) (.int .i64 h.v) (.int .i64 h.ln) (.string (st h.nm)) (.slice a n c)) (λ b=>w.heap.size<=b/\b≠gR) ar (.slice a n c)):=Xj (λ ar ha=>Xy (Xd ha (λ b hb=>by have:=HSZ.o.1;have:=HS3.o;omega)) (λ b hb _=>⟨by have:=HSZ.o.1;omega,by have:=HS3.o;omega⟩))
 go_upto_region 6 with fail
 obtain⟨w5,hw5⟩:∃ W,set6 w4 gR (.int .i64 h.k) (.int .i64 h.op) (.int .i64 h.v) (.int .i64 h.ln) (.string (st h.nm)) (.slice a n c)=W:=⟨_,rfl⟩
 have hqm:=hw5
 unfold set6 at hqm
 (try rw[hqm])
 rw[hw5] at HR5 HP5 HB5 HA5
 clear hw5 hqm y0 y1 y2 y3 y4 y5 g0 g1 g2 g3 g4 g5 hlR HR4 HB4
 have hfd0:∀ W:World,(Instr.field 103 (.agg #[.int .i64 rk,.int .i64 rn,.int .i64 rv,.string (st rt)]) 0).run Tryz.prog W=.ok (.int .i64 rk) W:=λ _=>by kernel_rfl
 have hfd1:∀ W:World,(Instr.field 103 (.agg #[.int .i64 rk,.int .i64 rn,.int .i64 rv,.string (st rt)]) 1).run Tryz.prog W=.ok (.int .i64 rn) W:=λ _=>by kernel_rfl
 have HLK:Xq (∀ wx,PAt wx ⟨g,al,cl,ts,0⟩ at2 r->Calls Tryz.prog 57 #[.pointer (some ⟨g,0,none⟩)] wx λ e w'=>e=.returned (.agg #[.int .i64 rk,.int .i64 rn,.int .i64 rv,.string (st rt)])/\Below wx.heap.size wx w'):=Xj (λ wx h=>Zv ⟨g,al,cl,ts,0⟩ at2 rk rn rv rt r1 wx (by rw[<- hr1];exact h))
 clear hr1
 go_cut [34] from 27 to 34 (λ v34 wx=>v34=.bool (!ok||(rk != 0))/\Xq (Below w5.heap.size w5 wx))
 case first =>
  cases ok
  ·go_wp2_with fail
   go_meet
   exact⟨rfl,Xj (Below.refl _ _)⟩
  go_wp2_with fail
  refine(HLK.o _ HP5.o).mono ?_
  rintro e w6 ⟨rfl,hb⟩
  have HB:=Xj hb
  clear hb
  go_wp2_with fail
  go_meet
  exact⟨by simp[bne],HB⟩
 case rest =>
 obtain⟨rfl,HBc⟩:=hcut
 have HPc:=Xj (HP5.o.below HBc.o)
 have HRc:=Xj (HR5.o.be HBc.o)
 have HBw:=Xj (HB5.o.trans (HBc.o.mono HB5.o.size))
 cases hq:(!ok||(rk != 0))
 ·obtain⟨rfl,rfl⟩:ok=true/\rk=0:=by
   cases ok
   ·simp at hq
   simp at hq;exact⟨rfl,hq⟩
  clear hq
  obtain⟨ar,hps,har,hlt⟩:∃ ar,Ps .ex ts (.ok (Xb h ar) r)/\Xv w4 (λ b=>w3.heap.size<=b) ar (.slice a n c)/\r.length<ts.length:=by
   rcases hzz.o with⟨_,h1⟩|⟨h1,_⟩
   ·exact h1
   cases h1
  have HPS:=Xj hps
  have HAc:=Xj ((HA5.o ar har).keep (Q:=λ b=>w.heap.size<=b/\b≠gR) (λ b hb hlt=>⟨HBc.o.block b hlt,hb⟩) HBc.o.size)
  clear hps har hlt
  obtain⟨y0,y1,y2,y3,y4,y5⟩:=HRc.o.cells
  obtain⟨g0,g1,g2,g3,g4,g5⟩:=HRc.o.froz
  have hlR:=HRc.o.lt
  have HAZ:=Xj (Xd (v0:=.int .i64 h.k) (v1:=.int .i64 h.op) (v2:=.int .i64 h.v) (v3:=.int .i64 h.ln) (v4:=.string (st h.nm)) (v5:=.slice a n c) HAc.o (λ b hb=>hb.2))
  have HDZ:=Xj (HRc.o.s6 h (.slice a n c))
  have HBZ:=Xj (Zt (v0:=.int .i64 h.k) (v1:=.int .i64 h.op) (v2:=.int .i64 h.v) (v3:=.int .i64 h.ln) (v4:=.string (st h.nm)) (v5:=.slice a n c) HBw.o (g:=gR) (by have:=HGR.o;omega))
  go_wp2_with fail
  obtain⟨wz,hwz⟩:∃ W,set6 wc gR (.int .i64 h.k) (.int .i64 h.op) (.int .i64 h.v) (.int .i64 h.ln) (.string (st h.nm)) (.slice a n c)=W:=⟨_,rfl⟩
  have hZ:=hwz
  unfold set6 at hZ
  (try rw[hZ])
  rw[hwz] at HAZ HDZ HBZ
  obtain⟨d0,d1,d2,d3,d4,d5⟩:=HDZ.o.cells
  refine bodyPost_ret (v:=.tuple #[exv h (.slice a n c),.int .i64 0,.int .i64 0]) (by simp[results,Tryz.results19,go_sem,d0,d1,d2,d3,d4,d5]) rfl ?_
  exact⟨HBZ.o,.inr (.inr ⟨HX.o.1,ts,_,HX.o.2,Xj ⟨HPS.o,.inl ⟨h,ar,r,a,n,c,rfl,HKR.o.1,Xy HAZ.o (λ b hb _=>hb.1),rfl⟩⟩⟩)⟩
 have HY:Xq (∃ y,Ps .ex ts y/\((∃ F,y=.ok F r/\kOf r≠0)\/y=.bad r)):=Xj (by
  rcases hzz.o with⟨rfl,ar,h1,_⟩|⟨rfl,h1⟩
  ·exact⟨_,h1,.inl ⟨_,rfl,by rw[HKR.o.1];simpa using hq⟩⟩
  exact⟨_,h1,.inr rfl⟩)
 clear hq
 go_wp2_with fail
 refine(HLK.o _ HPc.o).mono ?_
 rintro e w7 ⟨rfl,hb⟩
 have HR7:=Xj (HRc.o.be hb)
 have HB7:=Xj (HBw.o.trans (hb.mono HBw.o.size))
 clear hb
 obtain⟨y0,y1,y2,y3,y4,y5⟩:=HR7.o.cells
 obtain⟨g0,g1,g2,g3,g4,g5⟩:=HR7.o.froz
 have hlR:=HR7.o.lt
 have HDZ:=Xj (HR7.o.s6 zhd (.slice none 0 0))
 have HBZ:=Xj (Zt (v0:=.int .i64 0) (v1:=.int .i64 0) (v2:=.int .i64 0) (v3:=.int .i64 0) (v4:=.string { data := #[] }) (v5:=.slice none 0 0) HB7.o (g:=gR) (by have:=HGR.o;omega))
 go_wp2_with fail
 obtain⟨wz,hwz⟩:∃ W,set6 w7 gR (.int .i64 0) (.int .i64 0) (.int .i64 0) (.int .i64 0) (.string { data := #[] }) (.slice none 0 0)=W:=⟨_,rfl⟩
 have hZ:=hwz
 unfold set6 at hZ
 (try rw[hZ])
 have hdz:Lc wz gR zhd (.slice none 0 0):=by rw[<- hwz];exact HDZ.o
 rw[hwz] at HBZ
 obtain⟨d0,d1,d2,d3,d4,d5⟩:=hdz.cells
 refine bodyPost_ret (v:=.tuple #[exv zhd (.slice none 0 0),.int .i64 rn,.int .i64 7]) (by simp[results,Tryz.results19,go_sem,d0,d1,d2,d3,d4,d5]) rfl ?_
 obtain⟨y,hy1,hy2⟩:=HY.o
 exact⟨HBZ.o,.inr (.inr ⟨HX.o.1,ts,y,HX.o.2,Xj ⟨hy1,.inr ⟨r,hy2,by rw[HKR.o.2]⟩⟩⟩)⟩
def EQ (K:PC) (lv:Lv) (at_:Nat) (bad:Bool) (rest:List Tk) (w:World) (e:Ending) (w':World):Prop :=
 ∃ (h:Hd) (a:Option Addr) (n c:Nat) (bad2:Bool) (at2:Nat) (r:List Tk),e=.returned (exv h (.slice a n c))/\RAt w' K at2 bad2 r/\r.length<=rest.length/\w.grownBy w' (some K.g) /\
  Xq ((bad=false/\bad2=false/\∃ ar,Ps lv rest (.ok (Xb h ar) r)/\Xv w' (λ b=>w.heap.size<=b) ar (.slice a n c)/\r.length<rest.length)\/(bad=false/\bad2=true/\Ps lv rest (.bad r))\/(bad=true/\bad2=true/\at2=at_/\r=rest))
def mu:Bool->List Tk->Nat
 | true,_=>0
 | false,rest=>rest.length
def CQ (f:FuncId) (lv:Lv) (m:Nat):Prop:=∀ (K:PC) (at_:Nat) (bad:Bool) (rest:List Tk) (w:World),RAt w K at_ bad rest->mu bad rest<=m->Calls Tryz.prog f #[.pointer (some ⟨K.g,0,none⟩)] w (EQ K lv at_ bad rest w)
def UpB (w:World) (P:Nat->Prop):Nat->Prop:=λ b=>(P b/\b<w.heap.size)\/w.heap.size<=b
def Cr (k op ln:Int) (h1 h2:Hd) (s1 s2:Value) (w:World) (e:Ending) (w':World):Prop :=
 ∃ g,e=.returned (exv ⟨k,op,0,ln,[]⟩ (.slice (some ⟨g,0,none⟩) 2 2))/\Below w.heap.size w w' /\
  Xq (∀ (P:Nat->Prop) (a1 a2:Fo),Xv w P a1 s1->Xv w P a2 s2->Xv w' (UpB w P) ((Xb h1 a1).app (Xb h2 a2)) (.slice (some ⟨g,0,none⟩) 2 2))
theorem Qw (k op ln:Int) (h1 h2:Hd) (a1 a2:Option Addr) (n1 c1 n2 c2:Nat) (w:World):Calls Tryz.prog 86 #[.int .i64 k,.int .i64 op,.int .i64 ln,exv h1 (.slice a1 n1 c1),exv h2 (.slice a2 n2 c2)] w (Cr k op ln h1 h2 (.slice a1 n1 c1) (.slice a2 n2 c2) w):=by
 have HA:=Xj (((Lc.new w h1 (.slice a1 n1 c1)).al (.cells (ecs h2 (.slice a2 n2 c2)) 37)).al zex)
 have HB:=Xj ((Lc.new (w.alloc (.cells (ecs h1 (.slice a1 n1 c1)) 37)) h2 (.slice a2 n2 c2)).al zex)
 have HR:=Xj (Lc.zero ((w.alloc (.cells (ecs h1 (.slice a1 n1 c1)) 37)).alloc (.cells (ecs h2 (.slice a2 n2 c2)) 37)))
 have HW:=Xj (((Xk w (.cells (ecs h1 (.slice a1 n1 c1)) 37)).alloc (by simp) (.cells (ecs h2 (.slice a2 n2 c2)) 37)).alloc (by simp;omega) zex)
 have HS:Xq (w.heap.size<(w.alloc (.cells (ecs h1 (.slice a1 n1 c1)) 37)).heap.size/\(w.alloc (.cells (ecs h1 (.slice a1 n1 c1)) 37)).heap.size<((w.alloc (.cells (ecs h1 (.slice a1 n1 c1)) 37)).alloc (.cells (ecs h2 (.slice a2 n2 c2)) 37)).heap.size):=Xj ⟨by simp,by simp⟩
 go_enter Tryz.func86,Tryz.ntmps86
 go_upto_region 1 with fail
 obtain⟨w3,hw3⟩:∃ W,((w.alloc (.cells (ecs h1 (.slice a1 n1 c1)) 37)).alloc (.cells (ecs h2 (.slice a2 n2 c2)) 37)).alloc zex=W:=⟨_,rfl⟩
 obtain⟨gR,hgR⟩:∃ x,((w.alloc (.cells (ecs h1 (.slice a1 n1 c1)) 37)).alloc (.cells (ecs h2 (.slice a2 n2 c2)) 37)).heap.size=x:=⟨_,rfl⟩
 obtain⟨gB,hgB⟩:∃ x,(w.alloc (.cells (ecs h1 (.slice a1 n1 c1)) 37)).heap.size=x:=⟨_,rfl⟩
 obtain⟨gA,hgA⟩:∃ x,w.heap.size=x:=⟨_,rfl⟩
 have hw3':=hw3
 have hgR':=hgR
 have hgB':=hgB
 simp only[ecs] at hw3' hgR' hgB'
 (try rw[hw3'])
 (try rw[hgR'])
 (try rw[hgB'])
 (try rw[hgA])
 rw[hw3] at HA HB HR HW
 rw[hgR] at HR HS
 rw[hgB] at HB HS
 have HGA:=Xj hgA
 have hB1:gB=gA+1:=by rw[<- hgB,<- hgA];simp
 have hR1:gR=gA+1+1:=by rw[<- hgR,<- hgA];simp
 rw[hgA] at HA HS
 clear hw3 hgR hgB hw3' hgR' hgB' hgA
 subst hB1
 subst hR1
 obtain⟨x0,x1,x2,x3,x4,x5⟩:=HA.o.cells
 obtain⟨z0,z1,z2,z3,z4,z5⟩:=HB.o.cells
 obtain⟨y0,y1,y2,y3,y4,y5⟩:=HR.o.cells
 obtain⟨g0,g1,g2,g3,g4,g5⟩:=HR.o.froz
 have hlA:=HA.o.lt
 have hlB:=HB.o.lt
 have hlR:=HR.o.lt
 have hs:=HS.o
 have H9:Xq (∀ W,W=(set6 w3 (gA+1+1) (.int .i64 k) (.int .i64 op) (.int .i64 0) (.int .i64 ln) (.string { data := #[] }) (.slice (some ⟨w3.heap.size,0,none⟩) 2 2)).alloc (.cells #[.int .i64 h1.k,.int .i64 h1.op,.int .i64 h1.v,.int .i64 h1.ln,.string (st h1.nm),.slice a1 n1 c1,.int .i64 h2.k,.int .i64 h2.op,.int .i64 h2.v,.int .i64 h2.ln,.string (st h2.nm),.slice a2 n2 c2] 37) ->
   Lc W (gA+1+1) ⟨k,op,0,ln,[]⟩ (.slice (some ⟨w3.heap.size,0,none⟩) 2 2)/\Below w.heap.size w W/\(∀ (P:Nat->Prop) (b1 b2:Fo),Xv w P b1 (.slice a1 n1 c1)->Xv w P b2 (.slice a2 n2 c2)->Xv W (UpB w P) ((Xb h1 b1).app (Xb h2 b2)) (.slice (some ⟨w3.heap.size,0,none⟩) 2 2))):=Xj (λ W hW=>by
  have hsz:=HW.o.size
  have hga:=HGA.o
  refine⟨?_,?_,λ P b1 b2 k1 k2=>?_⟩
  ·rw[hW]
   exact(HR.o.s6 ⟨k,op,0,ln,[]⟩ (.slice (some ⟨w3.heap.size,0,none⟩) 2 2)).al _
  ·rw[hW]
   exact(Zt HW.o (by omega)).trans ((Xk _ _).mono (by rw[Qz];exact hsz))
  have m1:=Xd (g:=gA+1+1) (v0:=.int .i64 k) (v1:=.int .i64 op) (v2:=.int .i64 0) (v3:=.int .i64 ln) (v4:=.string { data := #[] }) (v5:=.slice (some ⟨w3.heap.size,0,none⟩) 2 2) (k1.keep (Q:=λ b=>P b/\b<w.heap.size) (λ b hb hlt=>⟨HW.o.block b hlt,hb,hlt⟩) hsz) (λ b hb=>by omega)
  have m2:=Xd (g:=gA+1+1) (v0:=.int .i64 k) (v1:=.int .i64 op) (v2:=.int .i64 0) (v3:=.int .i64 ln) (v4:=.string { data := #[] }) (v5:=.slice (some ⟨w3.heap.size,0,none⟩) 2 2) (k2.keep (Q:=λ b=>P b/\b<w.heap.size) (λ b hb hlt=>⟨HW.o.block b hlt,hb,hlt⟩) hsz) (λ b hb=>by omega)
  have m:=Qt (Q:=UpB w P) (h1:=h1) (h2:=h2) m1 m2 (λ b hb _=>.inl hb) (.inr (by rw[Qz];exact hsz))
  rw[Qz] at m
  rw[hW]
  exact m)
 go_wp2_with fail
 obtain⟨wz,hwz⟩:∃ W,(set6 w3 (gA+1+1) (.int .i64 k) (.int .i64 op) (.int .i64 0) (.int .i64 ln) (.string { data := #[] }) (.slice (some ⟨w3.heap.size,0,none⟩) 2 2)).alloc (.cells #[.int .i64 h1.k,.int .i64 h1.op,.int .i64 h1.v,.int .i64 h1.ln,.string (st h1.nm),.slice a1 n1 c1,.int .i64 h2.k,.int .i64 h2.op,.int .i64 h2.v,.int .i64 h2.ln,.string (st h2.nm),.slice a2 n2 c2] 37)=W:=⟨_,rfl⟩
 have hZ:=hwz
 unfold set6 at hZ
 (try rw[hZ])
 obtain⟨hd,hbz,HH⟩:=H9.o wz hwz.symm
 obtain⟨d0,d1,d2,d3,d4,d5⟩:=hd.cells
 refine bodyPost_ret (v:=exv ⟨k,op,0,ln,[]⟩ (.slice (some ⟨w3.heap.size,0,none⟩) 2 2)) (by simp[results,Tryz.results86,go_sem,d0,d1,d2,d3,d4,d5]) rfl ?_
 exact⟨w3.heap.size,rfl,hbz,Xj HH⟩
end Go.Proofs.YtldgghnjminhiaaGreatDoor
