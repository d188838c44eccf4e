/-
  WORDS, PLAIN LAWS and WALKS (QsI QsJ Mst PqP PqZ QtV Ork PqV), pressed. (Filled in from templates of this repo.)
-/
import Derived.Test.YtldgghnjminhiaaGreatDoorG7
import Derived.Test.YtldgghnjminhiaaGreatDoorG2
import Derived.Test.YtldgghnjminhiaaGreatDoorG3
import Derived.Test.YtldgghnjminhiaaGreatDoorG5
namespace Go.Proofs.YtldgghnjminhiaaGreatDoor
open Go Go.ChangeAt Go.ChangeShapes Go.RowKit Go.WideShapes
set_option linter.unusedVariables false
set_option linter.unusedSimpArgs false
set_option maxRecDepth 100000
set_option maxHeartbeats 16000000
theorem LQ.cj {K:PC} {w wr:World} {gR gt gx:Nat} {x0:Tk} {lv:Lv} {C:Fo->List Tk->Prop} {at_:Nat} {bad:Bool} {rest:List Tk} {h:Hd} {a:Option Addr} {n c:Nat} {at2:Nat} {r:List Tk}
  (H:LQ K w gR gx lv C at_ bad rest h a n c false at2 r wr) (T:Lt wr gt x0) (b1:w.heap.size<=gR) (b2:gR<gt) (b3:gt<gx) (hk:kOf r≠0) :
  bad=false/\∃ ar,C (Xh h ar) r/\r.length<rest.length/\CJ K w gR gt gx x0 h (.slice a n c) ar (.slice none 0 0) 0 [] (at2+1) false r.tail (wr.setCell ⟨K.g,1,none⟩ (.int .i64 ((at2:Int)+1))):=by
 have hgl:=H.ms.gl
 rcases H.res with⟨h1,h2,ar,h3,h4,h5⟩|⟨_,h2,_⟩|⟨_,h2,_⟩
 ·refine⟨h1,ar,h3,h5,H.ms.step hk,H.rc.s1 (p:=⟨K.g,1,none⟩) (by show gR≠K.g;omega),T.s1 (p:=⟨K.g,1,none⟩) (by show gt≠K.g;omega),H.xc.s1 (p:=⟨K.g,1,none⟩) (by show gx≠K.g;omega),World.ownsRow_nil _ _ _ _,⟨b1,b2,b3,(λ e=>nomatch e),(λ e=>nomatch e),(λ e=>nomatch e)⟩,?_⟩
  exact Xc (Qh (p:=⟨K.g,1,none⟩) (v:=.int .i64 ((at2:Int)+1)) h4 (λ b hb=>by show b≠K.g;have:=hb.1;omega)) (λ b hb _=>⟨hb,λ e=>nomatch e⟩)
 ·cases h2
 cases h2
def Oc (xs:List Value):Prop:=∀ u∈xs,u.oneCell'=true
theorem Oc.nil:Oc []:=λ u hu=>nomatch hu
theorem Oc.push {xs:List Value} (h:Oc xs) (h2:Hd) (a:Option Addr) (n c:Nat):Oc (xs++hdc h2 (.slice a n c)):=by
 intro u hu
 rcases List.mem_append.1 hu with hu|hu
 ·exact h u hu
 simp only[hdc,List.mem_cons,List.not_mem_nil,or_false] at hu
 rcases hu with rfl|rfl|rfl|rfl|rfl|rfl<;>rfl
def Og (K:PC) (w:World) (gR gx:Nat) (r0:List Tk) (v:Value) (nn:Nat) (xs:List Value) (bad3:Bool) (r3:List Tk) (wx:World):Prop :=
 (bad3=false/\∃ F,FJ w gR gx v nn xs F wx/\∀ z,Ps (.ag false F) r3 z->Ps (.ag true .nil) r0.tail z)\/(bad3=true/\Ps (.ag true .nil) r0.tail (.bad r3))
theorem Pw (m:Nat) (hE:∀ j,j<m->CQ 49 .ex j) (hPr:CQ 207 .pr m):CQ 203 .ca m:=by
 intro K at_ bad rest w hP hm
 have HM1:=Xj ((RS.init hP).al zex)
 have HR1:=Xj (Lc.zero w)
 have HMm:=Xj hm
 have HE:Xq (∀ (w2:World) (at2:Nat) (r:List Tk),bad=false->RAt w2 K at2 false r->r.length<rest.length->Calls Tryz.prog 49 #[.pointer (some ⟨K.g,0,none⟩)] w2 (EQ K .ex at2 false r w2)):=Xj (λ w2 at2 r hb hp hl=>by subst hb;have h3:rest.length<=m:=hm;exact hE r.length (by omega) K at2 false r w2 hp (Nat.le_refl _))
 have HA:=Xj hPr
 obtain⟨⟨tk,tn,tv,tt⟩,r0,hr0⟩:=hP.en.cons
 have HX0:=Xj hr0
 have HKT:Xq (kOf rest=tk):=Xj (by rw[hr0];rfl)
 clear hE hPr hP hm hr0
 go_enter Tryz.func203,Tryz.ntmps203
 go_upto_region 1 with fail
 obtain⟨w1,hw1⟩:∃ W,w.alloc zex=W:=⟨_,rfl⟩
 obtain⟨gR,hgR⟩:∃ x,w.heap.size=x:=⟨_,rfl⟩
 (try rw[show w.alloc (.cells #[.int .i64 0,.int .i64 0,.int .i64 0,.int .i64 0,.string { data := #[] },.slice none 0 0] 37)=w1 from hw1])
 rw[hw1] at HM1 HR1
 rw[hgR] at HR1
 (try rw[hgR])
 have HGR:=Xj hgR
 clear hw1 hgR
 go_wp2_with fail
 refine(Js K at_ bad tk tn tv tt r0 w1 (HX0.o▸HM1.o.pat)).mono ?_
 rintro e w2 ⟨rfl,hb2⟩
 have HM3:=Xj ((HM1.o.be hb2).al (.cells #[.int .i64 tk,.int .i64 tn,.int .i64 tv,.string (st tt)] 103))
 have HR3:=Xj ((HR1.o.be hb2).al (.cells #[.int .i64 tk,.int .i64 tn,.int .i64 tv,.string (st tt)] 103))
 have HT3:=Xj (Lt.new w2 ⟨tk,tn,tv,tt⟩)
 have HS3:Xq (gR<w2.heap.size):=Xj (HR1.o.be hb2).lt
 clear hb2 HM1 HR1
 go_upto_region 2 with fail
 obtain⟨w3,hw3⟩:∃ W,w2.alloc (.cells #[.int .i64 tk,.int .i64 tn,.int .i64 tv,.string (st tt)] 103)=W:=⟨_,rfl⟩
 obtain⟨gt,hgt⟩:∃ x,w2.heap.size=x:=⟨_,rfl⟩
 have HT4:Xq (Lt w3 gt ⟨tk,tn,tv,tt⟩):=Xj (by rw[<- hw3,<- hgt];exact HT3.o)
 rw[hw3] at HM3 HR3
 rw[hgt] at HS3
 (try rw[hw3])
 (try rw[hgt])
 clear hw3 hgt HT3
 go_wp2_with fail
 refine(HA.o K at_ bad rest _ HM3.o.pat HMm.o).mono ?_
 rintro e w4 ⟨h,a,n,c,bad2,at2,r,rfl,hp4,hud,hg4,hyu⟩
 have HL5:Xq (LQ K w gR w4.heap.size .ca (CLc rest) at_ bad rest h a n c bad2 at2 r (w4.alloc (.cells (ecs h (.slice a n c)) 37))/\Lt (w4.alloc (.cells (ecs h (.slice a n c)) 37)) gt ⟨tk,tn,tv,tt⟩/\gt<w4.heap.size):=Xj (by
  have hgl:=HM3.o.gl
  have hs4:=hg4.size
  have hgr:=HGR.o
  have hs3:=HS3.o
  have htl:=HT4.o.lt
  refine⟨⟨(HM3.o.call hp4 hg4).al _,(HR3.o.gr hg4 (by omega)).al _,Lc.new w4 h (.slice a n c),hud,?_⟩,(HT4.o.gr hg4 (by omega)).al _,by omega⟩
  rcases hyu.o with⟨h1,h1',ar,h2,h3,h4⟩|⟨h1,h1',h2⟩|hr
  ·exact .inl ⟨h1,h1',ar,λ z hz=>Ps.ca_ok h2 (Bool.and_comm _ _) hz,Xc (Yl _ h3) (λ b hb _=>⟨by have:=hb.1;have:=HM3.o.gr.size;omega,by have:=hb.1;omega,hb.2⟩),h4⟩
  ·exact .inr (.inl ⟨h1,h1',Ps.ca_bad h2⟩)
  exact .inr (.inr hr))
 clear hyu hp4 hg4 hud HT4 HR3 HM3
 go_upto_block 0 with fail
 obtain⟨w5,hw5⟩:∃ W,w4.alloc (.cells (ecs h (.slice a n c)) 37)=W:=⟨_,rfl⟩
 obtain⟨gx,hgx⟩:∃ x,w4.heap.size=x:=⟨_,rfl⟩
 (try rw[show w4.alloc (.cells #[.int .i64 h.k,.int .i64 h.op,.int .i64 h.v,.int .i64 h.ln,.string (st h.nm),.slice a n c] 37)=w5 from hw5])
 rw[hw5,hgx] at HL5
 (try rw[hgx])
 have HGX:Xq (gR<gt/\gt<gx):=Xj ⟨HS3.o,HL5.o.2.2⟩
 have HL6:Xq (LQ K w gR gx .ca (CLc rest) at_ bad rest h a n c bad2 at2 r w5/\Lt w5 gt ⟨tk,tn,tv,tt⟩):=Xj ⟨HL5.o.1,HL5.o.2.1⟩
 clear hw5 hgx HL5 HS3
 go_wp2_with fail
 go_loopw [5,6] (λ _ _ wr=>∃ (h:Hd) (a:Option Addr) (n c:Nat) (bad2:Bool) (at2:Nat) (r:List Tk),Xq (LQ K w gR gx .ca (CLc rest) at_ bad rest h a n c bad2 at2 r wr/\Lt wr gt ⟨tk,tn,tv,tt⟩)) (λ _ _ wr=>K.ts.length-natAt wr K.g)
 case atStart=>exact⟨h,a,n,c,bad2,at2,r,HL6⟩
 rename World=>wa
 obtain⟨h,a,n,c,bad2,at2,r,HL⟩:=hrel
 have hgg:=HL.o.1.ms.gl
 go_wp2_with fail
 refine(Wu K at2 bad2 r [40] _ HL.o.1.ms.pat).mono ?_
 rintro e w6 ⟨rfl,hb6⟩
 have HL6:=Xj (And.intro (HL.o.1.be hb6) (HL.o.2.be hb6))
 clear hb6
 cases hT:(!bad2&&isT [40] r)
 ·have HF:=Xj (HL6.o.1.fin (by have:=HGR.o;omega) (λ hb F hc=>hc _ (Ps.caL_end (by rw[hb] at hT;simpa using hT))))
  (try rw[hT])
  clear hT
  obtain⟨x0,x1,x2,x3,x4,x5⟩:=HL6.o.1.xc.cells
  obtain⟨y0,y1,y2,y3,y4,y5⟩:=HL6.o.1.rc.cells
  obtain⟨g0,g1,g2,g3,g4,g5⟩:=HL6.o.1.rc.froz
  have hlR:=HL6.o.1.rc.lt
  have hlX:=HL6.o.1.xc.lt
  go_wp2_with fail
  obtain⟨wz,hwz⟩:∃ W,set6 w6 gR (.int .i64 h.k) (.int .i64 h.op) (.int .i64 h.v) (.int .i64 h.ln) (.string (st h.nm)) (.slice a n c)=W:=⟨_,rfl⟩
  have hY:=hwz
  unfold set6 at hY
  (try rw[hY])
  rw[hwz] at HF
  obtain⟨d0,d1,d2,d3,d4,d5⟩:=HF.o.2.cells
  refine bodyPost_ret (v:=exv h (.slice a n c)) (by simp[results,Tryz.results203,go_sem,d0,d1,d2,d3,d4,d5]) rfl ?_
  exact HF.o.1
 obtain⟨rfl,hT2⟩:bad2=false/\isT [40] r=true:=by simpa using hT
 have HT:=Xj hT2
 (try rw[hT])
 clear hT hT2
 obtain⟨⟨uk,un,uv,ut⟩,r1,hr1⟩:=HL6.o.1.ms.pat.en.cons
 have HLO:=Xj (Js K at2 false uk un uv ut r1 w6 (hr1▸HL6.o.1.ms.pat))
 have HLN:Xq (Yc r=un):=Xj (by rw[hr1];rfl)
 have HRT:Xq (r.tail.length<r.length):=Xj (by rw[hr1];simp)
 have hfd:∀ W:World,(Instr.field 103 (.agg #[.int .i64 uk,.int .i64 un,.int .i64 uv,.string (st ut)]) 1).run Tryz.prog W=.ok (.int .i64 un) W:=λ _=>by kernel_rfl
 clear hr1
 go_wp2_with fail
 refine HLO.o.mono ?_
 rintro e w7 ⟨rfl,hb7⟩
 have HL7:=Xj (And.intro (HL6.o.1.be hb7) (HL6.o.2.be hb7))
 obtain⟨rfl,ar,hco,hlt,hcj⟩:=HL7.o.1.cj HL7.o.2 (by have:=HGR.o;omega) HGX.o.1 HGX.o.2 (Zt HT.o).2.2.1
 have HCO:=Xj hco
 have HLT:=Xj hlt
 have HC8:=Xj hcj
 clear hb7 hco hlt hcj HLO
 obtain⟨-,p1,-,f1,-,hlp⟩:=HL7.o.1.ms.pat.cells
 have hw1:=HL7.o.1.ms.w1
 go_upto_region 7 with fail
 obtain⟨w8,hw8⟩:∃ W,w7.setCell ⟨K.g,1,none⟩ (.int .i64 ((at2:Int)+1))=W:=⟨_,rfl⟩
 rw[hw8] at HC8
 (try rw[hw8])
 clear hw8 p1 f1 hlp hw1 HL7 HL6 hfd
 go_wp2_with fail
 refine(Yy K (at2+1) false r.tail [41] _ HC8.o.ms.pat).mono ?_
 rintro e wb ⟨at3,r3,rfl,hp3,hg3,hc3⟩
 have HCB:=Xj (HC8.o.gr hp3 hg3)
 have HC3:=Xj hc3
 clear hp3 hg3 hc3
 obtain⟨b41,hmt⟩:∃ b,(!false&&isT [41] r.tail)=b:=⟨_,rfl⟩
 have hkq:Xq (isT [41] r.tail=b41):=Xj (by simpa using hmt)
 (try rw[hmt])
 (try rw[show isT [41] r.tail=b41 from hkq.o])
 clear hmt
 go_upto_if 25 with fail
 go_cut [6] from 26 to 39 (λ v6 wx=>∃ (a3:Option Addr) (n3 c3:Nat) (xs:List Value) (at3:Nat) (bad3:Bool) (r3:List Tk),v6=.slice a3 n3 c3/\Xq (CJ K w gR gt gx ⟨tk,tn,tv,tt⟩ h (.slice a n c) ar (.slice a3 n3 c3) n3 xs at3 bad3 r3 wx/\Om K w gR gx r (.slice a3 n3 c3) n3 xs bad3 r3 wx/\n3<=100000/\r3.length<=r.tail.length/\(n3=0->xs=[]/\a3=none/\c3=0)/\Oc xs))
 case first =>
  cases b41
  rotate_left
  ·obtain⟨rfl,rfl⟩:at3=at2+1+1/\r3=r.tail.tail:=by
    rcases HC3.o with⟨_,_,h1,h2⟩|⟨h1,_⟩
    ·exact⟨h1,h2⟩
    have:=hkq.o;rw[this] at h1;simp at h1
   have H41:=hkq
   go_wp2_with fail
   go_meet
   refine⟨none,0,0,[],_,false,_,rfl,Xj ⟨HCB.o,.inl ⟨rfl,.nil,FJ.nil _ _ _ _,Ps.ag_end H41.o,?_⟩,by omega,by simp,λ _=>⟨rfl,rfl,rfl⟩,Oc.nil⟩⟩
   exact Jv (by intro e;have:=H41.o;rw[e] at this;cases this)
  obtain⟨rfl,rfl⟩:at3=at2+1/\r3=r.tail:=by
   rcases HC3.o with⟨_,h1,_⟩|⟨_,h1,h2⟩
   ·have:=hkq.o;rw[this] at h1;cases h1
   exact⟨h1,h2⟩
  have H41:=hkq
  go_wp2_with fail
  refine(HE.o wb (at2+1) r.tail (by first|rfl|trivial) HCB.o.ms.pat (by have:=HRT.o;have:=HLT.o;omega)).mono ?_
  rintro e wc ⟨h2,a2,n2,c2,bad7,at7,r7,rfl,hp7,HJ,hg7,hR⟩
  have HC7:=Xj (HCB.o.gr hp7 hg7)
  have hvy:=Xj HJ
  have hqz:Xq ((bad7=false/\∃ ar2,Ps .ex r.tail (.ok (Xh h2 ar2) r7)/\Xk wc (TBj w gR gx (.slice none 0 0)) ar2 (.slice a2 n2 c2))\/(bad7=true/\Ps .ex r.tail (.bad r7))):=Xj (by
   rcases hR.o with⟨_,e1,ar2,e2,e3,e4⟩|⟨_,e1,e2⟩|⟨e1,_⟩
   ·exact .inl ⟨e1,ar2,e2,Xc e3 (λ b hb _=>⟨⟨by have:=HCB.o.ms.gr.size;omega,by have:=HCB.o.rc.lt;omega,by have:=HCB.o.xc.lt;omega⟩,λ e=>nomatch e⟩)⟩
   ·exact .inr ⟨e1,e2⟩
   cases e1)
  clear hR hp7 hg7 HJ
  obtain⟨i0,hi0,hz0,hz1,hz2⟩:=info_parts Tryz.infoExpr
  have HIF:=Xj hi0
  have HZ0:=Xj hz0
  have HZ1:=Xj hz1
  have HZ2:=Xj hz2
  clear hi0 hz0 hz1 hz2
  have hqp:=HC7.o.ms.gr.size
  have HOA:=Xj (HC7.o.own.alloc (.cells (ecs h2 (.slice a2 n2 c2)) 37))
  go_wp2_with (at_builtin;refine wpList_append_lies _ rfl _ _ _ rfl w.heap.size 37 i0 _ 6 72 Tryz.underlying35 HIF.o HZ0.o HZ1.o HZ2.o rfl (by omega) _ _ _ rfl HOA.o ⟨wc.heap.size,0,none⟩ 1 1 (hdc h2 (.slice a2 n2 c2)) rfl rfl (World.news_of_block (cs:=(hdc h2 (.slice a2 n2 c2)).toArray) (t:=37) (fr:=(0,0)) (heap_alloc_new wc _)) (by simp[Value.oneCell']) (by omega) (by unfold maxLen;omega) (by omega) (by simp;omega) _ rfl ?_;intro g9 c9 w9 hown9 hgrow9 Ho hlt9;have HO9:=Xj hown9;have HG9:=Xj hgrow9;have HR9:=Xj Ho;clear hown9 hgrow9 Ho hlt9)
  have HC9:=Xj (HC7.o.push HG9.o HR9.o HO9.o)
  have HK9:Xq (0+1<=at7/\r7.length<=r.tail.length/\Og K w gR gx r (.slice (some ⟨g9,0,none⟩) (0+1) c9) (0+1) ([]++hdc h2 (.slice a2 n2 c2)) bad7 r7 w9):=Xj (by
   refine⟨by have h1:=HC9.o.ms.pat.lt.2;have h2:=HCB.o.ms.pat.lt.2;have h3:=hvy.o;omega,hvy.o,?_⟩
   rcases hqz.o with⟨e1,ar2,e2,e3⟩|⟨e1,e2⟩
   ·exact .inl ⟨e1,Fo.nil.app (Xh h2 ar2),(FJ.nil w gR gx wc).push e3 HG9.o HR9.o,λ z hz=>Ps.ag_first H41.o e2 hz⟩
   exact .inr ⟨e1,Ps.ag_first_bad H41.o e2⟩)
  clear hqp hqz HO9 HG9 HR9 HOA
  go_loopw [6] (λ v6 wr=>∃ (a3:Option Addr) (n3 c3:Nat) (xs:List Value) (at3:Nat) (bad3:Bool) (r3:List Tk),v6=.slice a3 n3 c3/\Xq (CJ K w gR gt gx ⟨tk,tn,tv,tt⟩ h (.slice a n c) ar (.slice a3 n3 c3) n3 xs at3 bad3 r3 wr/\0<n3/\n3<=at3/\r3.length<=r.tail.length/\Og K w gR gx r (.slice a3 n3 c3) n3 xs bad3 r3 wr/\Oc xs)) (λ _ wr=>K.ts.length-natAt wr K.g)
  case atStart=>exact⟨some ⟨g9,0,none⟩,0+1,c9,_,at7,bad7,r7,rfl,Xj ⟨HC9.o,by omega,HK9.o.1,HK9.o.2.1,HK9.o.2.2,Oc.nil.push h2 a2 n2 c2⟩⟩
  rename World=>wl
  obtain⟨a3,n3,c3,xs,at3,bad3,r3,rfl,HI⟩:=hrel
  go_wp2_with fail
  refine(Yy K at3 bad3 r3 [44] _ HI.o.1.ms.pat).mono ?_
  rintro e wm ⟨at4,r4,rfl,hp4,hg4,hc4⟩
  have HC4:=Xj (HI.o.1.gr hp4 hg4)
  have HK4:Xq (Og K w gR gx r (.slice a3 n3 c3) n3 xs bad3 r3 wm):=Xj (by
   rcases HI.o.2.2.2.2.1 with⟨e1,F,e2,e3⟩|hr
   ·exact .inl ⟨e1,F,e2.gr hg4 HI.o.1.ms.gl,e3⟩
   exact .inr hr)
  clear hp4 hg4
  rcases hc4 with⟨rfl,h44,rfl,rfl⟩|⟨h44,rfl,rfl⟩
  ·have H44:=Xj h44
   (try rw[h44])
   clear h44
   obtain⟨F,hf,hfc⟩:∃ F,FJ w gR gx (.slice a3 n3 c3) n3 xs F wm/\∀ z,Ps (.ag false F) r3 z->Ps (.ag true .nil) r.tail z:=by
    rcases HK4.o with⟨_,h1⟩|⟨h1,_⟩
    ·exact h1
    cases h1
   have HF:=Xj hf
   have HFC:=Xj hfc
   have hzw:Xq (r3.tail.length<r3.length):=Xj (Jv (by intro e;have:=H44.o;rw[e] at this;cases this))
   have HN3:Xq (n3<=100000):=Xj (by have:=HI.o.2.2.1;have:=HI.o.1.ms.pat.lt;have:=HI.o.1.ms.pat.n;omega)
   clear hf hfc
   go_wp2_with fail
   refine(HE.o wm (at3+1) r3.tail (by first|rfl|trivial) HC4.o.ms.pat (by have:=HRT.o;have:=HLT.o;have:=hzw.o;have:=HI.o.2.2.2.1;omega)).mono ?_
   rintro e wc ⟨h2,a2,n2,c2,bad7,at7,r7,rfl,hp7,HJ,hg7,hR⟩
   have HC7:=Xj (HC4.o.gr hp7 hg7)
   have HF7:=Xj (HF.o.gr hg7 HC4.o.ms.gl)
   have hvy:=Xj HJ
   have hqz:Xq ((bad7=false/\∃ ar2,Ps .ex r3.tail (.ok (Xh h2 ar2) r7)/\Xk wc (TBj w gR gx (.slice a3 n3 c3)) ar2 (.slice a2 n2 c2))\/(bad7=true/\Ps .ex r3.tail (.bad r7))):=Xj (by
    rcases hR.o with⟨_,e1,ar2,e2,e3,e4⟩|⟨_,e1,e2⟩|⟨e1,_⟩
    ·exact .inl ⟨e1,ar2,e2,Xc e3 (λ b hb _=>⟨⟨by have:=HC4.o.ms.gr.size;omega,by have:=HC4.o.rc.lt;omega,by have:=HC4.o.xc.lt;omega⟩,λ e=>by have:=(HC4.o.own.lt _ e.symm).2;omega⟩)⟩
    ·exact .inr ⟨e1,e2⟩
    cases e1)
   clear hR hp7 hg7 HJ HF HK4
   have hn3:=HN3.o
   have hqp:=HC7.o.ms.gr.size
   have HOA:=Xj (HC7.o.own.alloc (.cells (ecs h2 (.slice a2 n2 c2)) 37))
   go_wp2_with (at_builtin;refine wpList_append_lies _ rfl _ _ _ rfl w.heap.size 37 i0 _ 6 72 Tryz.underlying35 HIF.o HZ0.o HZ1.o HZ2.o rfl (by omega) _ _ _ rfl HOA.o ⟨wc.heap.size,0,none⟩ 1 1 (hdc h2 (.slice a2 n2 c2)) rfl rfl (World.news_of_block (cs:=(hdc h2 (.slice a2 n2 c2)).toArray) (t:=37) (fr:=(0,0)) (heap_alloc_new wc _)) (by simp[Value.oneCell']) (by omega) (by unfold maxLen;omega) (by omega) (by simp;omega) _ rfl ?_;intro g9 c9 w9 hown9 hgrow9 Ho hlt9;have HO9:=Xj hown9;have HG9:=Xj hgrow9;have HR9:=Xj Ho;clear hown9 hgrow9 Ho hlt9)
   have HC9:=Xj (HC7.o.push HG9.o HR9.o HO9.o)
   have HM9:Xq (at3<at7/\r7.length<=r.tail.length):=Xj (by have h1:=HC9.o.ms.pat.lt.2;have h2:=HI.o.1.ms.pat.lt.2;have h3:=hvy.o;have h4:=hzw.o;have h5:=HI.o.2.2.2.1;exact⟨by omega,by omega⟩)
   have HK9:Xq (Og K w gR gx r (.slice (some ⟨g9,0,none⟩) (n3+1) c9) (n3+1) (xs++hdc h2 (.slice a2 n2 c2)) bad7 r7 w9):=Xj (by
    have H41n:=xjk (t:=[41]) H44.o (by decide)
    rcases hqz.o with⟨e1,ar2,e2,e3⟩|⟨e1,e2⟩
    ·exact .inl ⟨e1,F.app (Xh h2 ar2),HF7.o.push e3 HG9.o HR9.o,λ z hz=>HFC.o z (Ps.ag_next H41n H44.o e2 hz)⟩
    exact .inr ⟨e1,HFC.o _ (Ps.ag_next_bad H41n H44.o e2)⟩)
   clear hqp hqz HO9 HG9 HR9 HOA hn3
   go_roundw
   case rel=>exact⟨some ⟨g9,0,none⟩,n3+1,c9,_,at7,bad7,r7,rfl,Xj ⟨HC9.o,by omega,by have:=HM9.o.1;have:=HI.o.2.2.1;omega,HM9.o.2,HK9.o,HI.o.2.2.2.2.2.push h2 a2 n2 c2⟩⟩
   have h1:=HC9.o.ms.pat.natAt
   have h2:=HI.o.1.ms.pat.natAt
   have h3:=HC9.o.ms.pat.lt.1
   have h4:=HM9.o.1
   rw[h1,h2]
   omega
  have H44:=Xj h44
  (try rw[h44])
  clear h44
  go_wp2_with fail
  refine(Qw K at4 bad3 r4 [41] _ HC4.o.ms.pat).mono ?_
  rintro e wn ⟨at5,bad5,r5,rfl,hp5,hg5,hc5⟩
  have HC5:=Xj (HC4.o.gr hp5 hg5)
  have HN3:Xq (n3<=100000/\0<n3):=Xj (by have:=HI.o.2.1;have:=HI.o.2.2.1;have:=HI.o.1.ms.pat.lt;have:=HI.o.1.ms.pat.n;exact⟨by omega,by omega⟩)
  have HJ5:Xq (r5.length<=r.tail.length/\Om K w gR gx r (.slice a3 n3 c3) n3 xs bad5 r5 wn):=Xj (by
   have hle:=HI.o.2.2.2.1
   rcases HK4.o with⟨e1,F,e2,e3⟩|⟨e1,e2⟩
   ·rcases hc5 with⟨q1,q2,q3,q4,q5⟩|⟨q1,q2,q4,q5⟩
    ·have hl5:r5.length<r4.length:=by rw[q5];exact Jv (by intro e;rw[e] at q3;cases q3)
     refine⟨by omega,.inl ⟨q2,F,e2.gr hg5 HC4.o.ms.gl,?_,by omega⟩⟩
     rw[q5]
     exact e3 _ (Ps.ag_end q3)
    refine⟨by rw[q5];exact hle,.inr ⟨q2,?_⟩⟩
    rw[q5]
    refine e3 _ (Ps.ag_bad ?_ ?_)
    ·rw[e1] at q1;simpa using q1
    have:=H44.o;rw[e1] at this;simpa using this
   rcases hc5 with⟨q1,q2,q3,q4,q5⟩|⟨q1,q2,q4,q5⟩
   ·rw[q1] at e1;cases e1
   refine⟨by rw[q5];exact hle,.inr ⟨q2,?_⟩⟩
   rw[q5]
   exact e2)
  clear hp5 hg5 hc5 HK4
  go_wp2_with fail
  go_meet
  exact⟨a3,n3,c3,xs,at5,bad5,r5,rfl,Xj ⟨HC5.o,HJ5.o.2,HN3.o.1,HJ5.o.1,λ e=>by have:=HN3.o.2;omega,HI.o.2.2.2.2.2⟩⟩
 case rest =>
 clear HC3 HCB HC8 hkq
 rename World=>wq
 obtain⟨a3,n3,c3,xs,at4,bad4,r4,rfl,HC⟩:=hcut
 have HLE:Xq (r4.length<=rest.length/\r4.length<=r.tail.length):=Xj ⟨by have:=HC.o.2.2.2.1;have:=HRT.o;have:=HLT.o;omega,HC.o.2.2.2.1⟩
 have HMS:Xq (at2<at4):=Xj (by have h1:=HC.o.1.ms.pat.lt.2;have h2:=HL.o.1.ms.pat.lt.2;have h3:=HLE.o.2;have h4:=HRT.o;omega)
 obtain⟨x0,x1,x2,x3,x4,x5⟩:=HC.o.1.xc.cells
 obtain⟨t0,t1,t2,t3⟩:=HC.o.1.tc.cells
 (try dsimp only at t0 t1 t2 t3)
 obtain⟨g0,g1,g2,g3,g4,g5⟩:=HC.o.1.xc.froz
 have hlX:=HC.o.1.xc.lt
 have hlT:=HC.o.1.tc.lt
 have hkx:Xq ((h.k==13&&kOf rest==1)=false->∀ (W w9:World) (g9 c9:Nat),(wq.alloc (.cells #[.int .i64 h.k,.int .i64 h.op,.int .i64 h.v,.int .i64 h.ln,.string (st h.nm),.slice a n c] 37)).grownBy w9 (some wq.heap.size)->(some wq.heap.size=some g9\/g9=(wq.alloc (.cells #[.int .i64 h.k,.int .i64 h.op,.int .i64 h.v,.int .i64 h.ln,.string (st h.nm),.slice a n c] 37)).heap.size)->w9.ownsRow w.heap.size 37 6 (.slice (some ⟨g9,0,none⟩) (1+n3) c9) (1+n3) (hdc h (.slice a n c)++xs) ->
   W=set6 w9 gx (.int .i64 10) (.int .i64 0) (.int .i64 0) (.int .i64 un) (.string { data := #[] }) (.slice (some ⟨g9,0,none⟩) (1+n3) c9)->(LQ K w gR gx .ca (CLc rest) at_ false rest ⟨10,0,0,un,[]⟩ (some ⟨g9,0,none⟩) (1+n3) c9 bad4 at4 r4 W/\Lt W gt ⟨tk,tn,tv,tt⟩)/\Lc w9 gx h (.slice a n c)):=Xj (λ hpl W w9 g9 c9 hg9 hh9 ho9 hW=>by
  subst hW
  have h:=HC.o.1.value (at_:=at_) (bad:=false) (rest:=rest) (r0:=r) (ln:=un) HLE.o.1 HLT.o HC.o.2.1 HT.o HCO.o hpl HLN.o hg9 hh9 ho9
  exact⟨⟨h.1,h.2.1⟩,h.2.2⟩)
 have HVB:Xq (∀ W,W=set6 wq gx (.int .i64 9) (.int .i64 0) (.int .i64 0) (.int .i64 un) (.string (st h.nm)) (.slice a3 n3 c3)->h.k=13->tk=1->LQ K w gR gx .ca (CLc rest) at_ false rest ⟨9,0,0,un,h.nm⟩ a3 n3 c3 bad4 at4 r4 W/\Lt W gt ⟨tk,tn,tv,tt⟩):=Xj (λ W hW h13 hk1=>by
  subst hW
  exact HC.o.1.name (at_:=at_) (bad:=false) (rest:=rest) (r0:=r) (ln:=un) rfl HLE.o.1 HLT.o HC.o.2.1 HT.o HCO.o h13 (by rw[HKT.o];exact hk1) HLN.o)
 by_cases h13:h.k=13/\tk=1
 ·have e13:(h.k==13)=true:=by rw[beq_iff_eq];exact h13.1
  have e1:(tk==1)=true:=by rw[beq_iff_eq];exact h13.2
  have H13:=Xj h13
  clear h13
  go_wp2_with fail
  go_roundw
  case rel=>exact⟨_,a3,n3,c3,bad4,at4,r4,Xj (HVB.o _ rfl H13.o.1 H13.o.2)⟩
  have h1:=(HVB.o _ rfl H13.o.1 H13.o.2).1.ms.pat.natAt
  have h2:=HL.o.1.ms.pat.natAt
  have h3:=HL.o.1.ms.pat.lt.1
  have h4:=HMS.o
  unfold set6 at h1
  rw[h2]
  first|(rw[h1];omega)|(simp at h1;rw[h1];omega)
 have HPL:Xq ((h.k==13&&kOf rest==1)=false):=Xj (by
  rw[HKT.o]
  cases e1:(h.k==13)
  ·rfl
  cases e2:(tk==1)
  ·rfl
  exact absurd ⟨by simpa using e1,by simpa using e2⟩ h13)
 cases e13:(h.k==13)
 ·clear h13
  have hqp:=HC.o.1.ms.gr.size
  by_cases hn0:n3=0
  ·obtain⟨hxs,ha3,hc3⟩:=HC.o.2.2.2.2.1 hn0
   subst hn0 hxs ha3 hc3
   go_wp2_with fail
   have HVV:Xq (∀ W,W=(set6 wq gx (.int .i64 10) (.int .i64 0) (.int .i64 0) (.int .i64 un) (.string { data := #[] }) (.slice (some ⟨wq.heap.size,0,none⟩) 1 1)).alloc (.cells #[.int .i64 h.k,.int .i64 h.op,.int .i64 h.v,.int .i64 h.ln,.string (st h.nm),.slice a n c] 37)->LQ K w gR gx .ca (CLc rest) at_ false rest ⟨10,0,0,un,[]⟩ (some ⟨wq.heap.size,0,none⟩) 1 1 bad4 at4 r4 W/\Lt W gt ⟨tk,tn,tv,tt⟩):=Xj (λ W hW=>by
    rw[<- Zw _ HC.o.1.xc.lt] at hW
    exact(hkx.o HPL.o W (wq.alloc (.cells #[.int .i64 h.k,.int .i64 h.op,.int .i64 h.v,.int .i64 h.ln,.string (st h.nm),.slice a n c] 37)) wq.heap.size 1 ⟨rfl,rfl,rfl,Nat.le_refl _,λ _ _ _=>rfl⟩ (.inl rfl) (by rw[List.append_nil];exact⟨by simp[hdc],.inr ⟨wq.heap.size,1,_,rfl,hqp,heap_alloc_new wq _,Nat.le_refl _,by simp[maxLen],by simp,by simp[hdc]⟩⟩) hW).1)
   go_roundw
   case rel=>exact⟨⟨10,0,0,un,[]⟩,some ⟨wq.heap.size,0,none⟩,1,1,bad4,at4,r4,Xj (HVV.o _ rfl)⟩
   have h1:=(HVV.o _ rfl).1.ms.pat.natAt
   have h2:=HL.o.1.ms.pat.natAt
   have h3:=HL.o.1.ms.pat.lt.1
   have h4:=HMS.o
   unfold set6 at h1
   rw[h2]
   first|(rw[h1];omega)|(simp at h1 ⊢;rw[h1];omega)
  have HOC:=Xj HC.o.2.2.2.2.2
  have HOA:Xq ((wq.alloc (.cells #[.int .i64 h.k,.int .i64 h.op,.int .i64 h.v,.int .i64 h.ln,.string (st h.nm),.slice a n c] 37)).ownsRow w.heap.size 37 6 (.slice (some ⟨wq.heap.size,0,none⟩) 1 1) 1 (hdc h (.slice a n c))):=Xj ⟨by simp[hdc],.inr ⟨wq.heap.size,1,_,rfl,hqp,heap_alloc_new wq _,Nat.le_refl _,by simp[maxLen],by simp,by simp[hdc]⟩⟩
  have He:xs.length=n3*6:=HC.o.1.own.1
  obtain⟨g3,c3',hsl,hg3,hg3l,hcq,hcz,hcv,hqx⟩:=Kw HC.o.1.own (by intro e;rw[e] at He;simp at He;omega)
  injection hsl with ha3 _ hcc3
  subst ha3 hcc3
  have hcw:Xq (∀ j u,xs[j]?=some u->(wq.alloc (.cells #[.int .i64 h.k,.int .i64 h.op,.int .i64 h.v,.int .i64 h.ln,.string (st h.nm),.slice a n c] 37)).cell? ((⟨g3,0,none⟩:Addr).add j)=some u):=Xj (λ j u hj=>by rw[Ut];simpa using Xu _ (hqx j u hj))
  have hn3:=HC.o.2.2.1
  clear hqx hcq hcz hcv
  obtain⟨i0,hi0,hz0,hz1,hz2⟩:=info_parts Tryz.infoExpr
  have HIF:=Xj hi0
  have HZ0:=Xj hz0
  have HZ1:=Xj hz1
  have HZ2:=Xj hz2
  clear hi0 hz0 hz1 hz2
  go_wp2_with (at_builtin;refine wpList_append_lies _ rfl _ _ _ rfl w.heap.size 37 i0 _ 6 72 Tryz.underlying35 HIF.o HZ0.o HZ1.o HZ2.o rfl (by omega) _ _ _ rfl HOA.o ⟨g3,0,none⟩ n3 c3 xs rfl He hcw.o HOC.o (by omega) (by unfold maxLen;omega) (by omega) (by simp;omega) _ rfl ?_;intro g9 c9 w9 hown9 hgrow9 Ho hlt9;have HVV:=Xj (λ W hW=>hkx.o HPL.o W w9 g9 c9 hgrow9 Ho hown9 hW);have HCX:=Xj (hkx.o HPL.o _ w9 g9 c9 hgrow9 Ho hown9 rfl).2;obtain⟨s0,s1,s2,s3,s4,s5⟩:=HCX.o.cells;obtain⟨f0,f1,f2,f3,f4,f5⟩:=HCX.o.froz;have hlX9:=HCX.o.lt;clear hown9 hgrow9 Ho hlt9)
  go_roundw
  case rel=>exact⟨_,_,_,_,bad4,at4,r4,Xj (HVV.o _ rfl).1⟩
  have h1:=(HVV.o _ rfl).1.1.ms.pat.natAt
  have h2:=HL.o.1.ms.pat.natAt
  have h3:=HL.o.1.ms.pat.lt.1
  have h4:=HMS.o
  unfold set6 at h1
  rw[h2]
  first|(rw[h1];omega)|(simp at h1;rw[h1];omega)
 cases e1:(tk==1)
 ·clear h13
  have hqp:=HC.o.1.ms.gr.size
  by_cases hn0:n3=0
  ·obtain⟨hxs,ha3,hc3⟩:=HC.o.2.2.2.2.1 hn0
   subst hn0 hxs ha3 hc3
   go_wp2_with fail
   have HVV:Xq (∀ W,W=(set6 wq gx (.int .i64 10) (.int .i64 0) (.int .i64 0) (.int .i64 un) (.string { data := #[] }) (.slice (some ⟨wq.heap.size,0,none⟩) 1 1)).alloc (.cells #[.int .i64 h.k,.int .i64 h.op,.int .i64 h.v,.int .i64 h.ln,.string (st h.nm),.slice a n c] 37)->LQ K w gR gx .ca (CLc rest) at_ false rest ⟨10,0,0,un,[]⟩ (some ⟨wq.heap.size,0,none⟩) 1 1 bad4 at4 r4 W/\Lt W gt ⟨tk,tn,tv,tt⟩):=Xj (λ W hW=>by
    rw[<- Zw _ HC.o.1.xc.lt] at hW
    exact(hkx.o HPL.o W (wq.alloc (.cells #[.int .i64 h.k,.int .i64 h.op,.int .i64 h.v,.int .i64 h.ln,.string (st h.nm),.slice a n c] 37)) wq.heap.size 1 ⟨rfl,rfl,rfl,Nat.le_refl _,λ _ _ _=>rfl⟩ (.inl rfl) (by rw[List.append_nil];exact⟨by simp[hdc],.inr ⟨wq.heap.size,1,_,rfl,hqp,heap_alloc_new wq _,Nat.le_refl _,by simp[maxLen],by simp,by simp[hdc]⟩⟩) hW).1)
   go_roundw
   case rel=>exact⟨⟨10,0,0,un,[]⟩,some ⟨wq.heap.size,0,none⟩,1,1,bad4,at4,r4,Xj (HVV.o _ rfl)⟩
   have h1:=(HVV.o _ rfl).1.ms.pat.natAt
   have h2:=HL.o.1.ms.pat.natAt
   have h3:=HL.o.1.ms.pat.lt.1
   have h4:=HMS.o
   unfold set6 at h1
   rw[h2]
   first|(rw[h1];omega)|(simp at h1 ⊢;rw[h1];omega)
  have HOC:=Xj HC.o.2.2.2.2.2
  have HOA:Xq ((wq.alloc (.cells #[.int .i64 h.k,.int .i64 h.op,.int .i64 h.v,.int .i64 h.ln,.string (st h.nm),.slice a n c] 37)).ownsRow w.heap.size 37 6 (.slice (some ⟨wq.heap.size,0,none⟩) 1 1) 1 (hdc h (.slice a n c))):=Xj ⟨by simp[hdc],.inr ⟨wq.heap.size,1,_,rfl,hqp,heap_alloc_new wq _,Nat.le_refl _,by simp[maxLen],by simp,by simp[hdc]⟩⟩
  have He:xs.length=n3*6:=HC.o.1.own.1
  obtain⟨g3,c3',hsl,hg3,hg3l,hcq,hcz,hcv,hqx⟩:=Kw HC.o.1.own (by intro e;rw[e] at He;simp at He;omega)
  injection hsl with ha3 _ hcc3
  subst ha3 hcc3
  have hcw:Xq (∀ j u,xs[j]?=some u->(wq.alloc (.cells #[.int .i64 h.k,.int .i64 h.op,.int .i64 h.v,.int .i64 h.ln,.string (st h.nm),.slice a n c] 37)).cell? ((⟨g3,0,none⟩:Addr).add j)=some u):=Xj (λ j u hj=>by rw[Ut];simpa using Xu _ (hqx j u hj))
  have hn3:=HC.o.2.2.1
  clear hqx hcq hcz hcv
  obtain⟨i0,hi0,hz0,hz1,hz2⟩:=info_parts Tryz.infoExpr
  have HIF:=Xj hi0
  have HZ0:=Xj hz0
  have HZ1:=Xj hz1
  have HZ2:=Xj hz2
  clear hi0 hz0 hz1 hz2
  go_wp2_with (at_builtin;refine wpList_append_lies _ rfl _ _ _ rfl w.heap.size 37 i0 _ 6 72 Tryz.underlying35 HIF.o HZ0.o HZ1.o HZ2.o rfl (by omega) _ _ _ rfl HOA.o ⟨g3,0,none⟩ n3 c3 xs rfl He hcw.o HOC.o (by omega) (by unfold maxLen;omega) (by omega) (by simp;omega) _ rfl ?_;intro g9 c9 w9 hown9 hgrow9 Ho hlt9;have HVV:=Xj (λ W hW=>hkx.o HPL.o W w9 g9 c9 hgrow9 Ho hown9 hW);have HCX:=Xj (hkx.o HPL.o _ w9 g9 c9 hgrow9 Ho hown9 rfl).2;obtain⟨s0,s1,s2,s3,s4,s5⟩:=HCX.o.cells;obtain⟨f0,f1,f2,f3,f4,f5⟩:=HCX.o.froz;have hlX9:=HCX.o.lt;clear hown9 hgrow9 Ho hlt9)
  go_roundw
  case rel=>exact⟨_,_,_,_,bad4,at4,r4,Xj (HVV.o _ rfl).1⟩
  have h1:=(HVV.o _ rfl).1.1.ms.pat.natAt
  have h2:=HL.o.1.ms.pat.natAt
  have h3:=HL.o.1.ms.pat.lt.1
  have h4:=HMS.o
  unfold set6 at h1
  rw[h2]
  first|(rw[h1];omega)|(simp at h1;rw[h1];omega)
 exact absurd ⟨by simpa using e13,by simpa using e1⟩ h13
theorem rall (m:Nat):CQ 198 .un m/\CQ 49 .ex m:=by
 induction m using Nat.strongRecOn with
 | ind m ih =>
  have hE:∀ j,j<m->CQ 49 .ex j:=λ j hj=>(ih j hj).2
  have hU:=Nj m (Pw m hE (Nv m hE)) (λ j hj=>(ih j hj).1)
  exact⟨hU,Bk m (Ih m (Ny m (Im m (Bv m hU))))⟩
def okS (k:Int) (nm:Bt) (xs:Fo) (th el:Sf):Prop :=
 ((k=1\/k=2)/\okN nm/\xs.len=1/\th=.nil/\el=.nil)\/(k=3/\okN nm/\xs.len=2/\th=.nil/\el=.nil)\/(k=4/\nm=[]/\xs.len=1)\/(k=5/\nm=[]/\xs.len=1/\el=.nil) \/
 ((k=6\/k=7)/\nm=[]/\xs.len=1/\th=.nil/\el=.nil)\/(k=8/\nm=[]/\th=.nil/\el=.nil/\∃ h ar,xs=Xh h ar/\(h.k=9\/h.k=10))
def Sf.wf:Sf->Prop
 | .nil=>True
 | .cons k ln nm xs th el r=>okS k nm xs th el/\ln=0/\xs.wf/\th.wf/\el.wf/\r.wf
def Sf.cst:Sf->Nat
 | .nil=>0
 | .cons _ _ _ xs th el r=>150+xs.cst+th.cst+el.cst+r.cst
def Sf.nst:Sf->Nat
 | .nil=>0
 | .cons _ _ _ _ th el r=>max (max th.nst el.nst+1) r.nst
def Sf.hgt:Sf->Nat
 | .nil=>0
 | .cons _ _ _ xs th el r=>max (max xs.dep (max th.hgt el.hgt)) r.hgt
theorem Sf.wf_app {F G:Sf} (h:F.wf) (k:G.wf):(F.app G).wf:=by
 induction F with
 | nil=>exact k
 | cons k ln nm xs th el r _ _ ih=>exact⟨h.1,h.2.1,h.2.2.1,h.2.2.2.1,h.2.2.2.2.1,ih h.2.2.2.2.2⟩
theorem Sf.cst_app (F G:Sf):(F.app G).cst=F.cst+G.cst:=by
 induction F with
 | nil=>simp[app,cst]
 | cons k ln nm xs th el r _ _ ih=>simp only[app,cst];omega
theorem Sf.nst_app (F G:Sf):(F.app G).nst=max F.nst G.nst:=by
 induction F with
 | nil=>simp[app,nst]
 | cons k ln nm xs th el r _ _ ih=>simp only[app,nst,ih];omega
theorem Sf.hgt_app (F G:Sf):(F.app G).hgt=max F.hgt G.hgt:=by
 induction F with
 | nil=>simp[app,hgt]
 | cons k ln nm xs th el r _ _ ih=>simp only[app,hgt,ih];omega
abbrev Zd (k ln:Int) (nm:Bt) (xs:Fo) (th el:Sf):Sf:=.cons k ln nm xs th el .nil
abbrev stc (k ln:Int) (nm:Bt) (slx slt sle:Value):List Value:=[.int .i64 k,.int .i64 ln,.string (st nm),slx,slt,sle]
def Zz (w:World) (P:Nat->Prop):Sf->List Value->Prop
 | .nil,cs=>cs=[]
 | .cons k ln nm xs th el r,cs=>∃ slx at_ ct rt ae ce re cs',cs=stc k ln nm slx (.slice at_ th.len ct) (.slice ae el.len ce)++cs'/\Xk w P xs slx /\
   th.len<=ct/\ct<=maxLen/\(at_=none->ct=0)/\Vt w P at_ rt/\Zz w P th rt /\
   el.len<=ce/\ce<=maxLen/\(ae=none->ce=0)/\Vt w P ae re/\Zz w P el re/\Zz w P r cs'
theorem Zz.keep {w w':World} {P Q:Nat->Prop} {F:Sf} {cs:List Value} (h:Zz w P F cs) (hk:∀ b,P b->b<w.heap.size->w'.heap[b]?=w.heap[b]?/\Q b) (hs:w.heap.size<=w'.heap.size):Zz w' Q F cs:=by
 induction F generalizing cs with
 | nil=>exact h
 | cons k ln nm xs th el r ih1 ih2 ih3 =>
  obtain⟨slx,at_,ct,rt,ae,ce,re,cs',rfl,h1,h2,h3,h4,h5,h6,h7,h8,h9,h10,h11,h12⟩:=h
  exact⟨slx,at_,ct,rt,ae,ce,re,cs',rfl,h1.keep hk hs,h2,h3,h4,h5.keep hk hs,ih1 h6,h7,h8,h9,h10.keep hk hs,ih2 h11,ih3 h12⟩
theorem Zz.app {w:World} {P:Nat->Prop} {F G:Sf} {cs ds:List Value} (h:Zz w P F cs) (k:Zz w P G ds):Zz w P (F.app G) (cs++ds):=by
 induction F generalizing cs with
 | nil=>rw[show cs=[] from h];exact k
 | cons k ln nm xs th el r _ _ ih =>
  obtain⟨slx,at_,ct,rt,ae,ce,re,cs',rfl,h1,h2,h3,h4,h5,h6,h7,h8,h9,h10,h11,h12⟩:=h
  exact⟨slx,at_,ct,rt,ae,ce,re,cs'++ds,by rw[List.append_assoc],h1,h2,h3,h4,h5,h6,h7,h8,h9,h10,h11,ih h12⟩
theorem Zz.len {w:World} {P:Nat->Prop} {F:Sf} {cs:List Value} (h:Zz w P F cs):cs.length=F.len*6:=by
 induction F generalizing cs with
 | nil=>rw[show cs=[] from h];rfl
 | cons k ln nm xs th el r _ _ ih =>
  obtain⟨slx,at_,ct,rt,ae,ce,re,cs',rfl,h1,h2,h3,h4,h5,h6,h7,h8,h9,h10,h11,h12⟩:=h
  rw[List.length_append,ih h12]
  show 6+_=(_+1)*6
  omega
def Xl (w:World) (P:Nat->Prop) (S:Sf) (sl:Value):Prop :=
 ∃ a cap rws,sl=.slice a S.len cap/\S.len<=cap/\cap<=maxLen/\(a=none->cap=0)/\Vt w P a rws/\Zz w P S rws
theorem Xl.nil (w:World) (P:Nat->Prop):Xl w P .nil (.slice none 0 0):=⟨none,0,[],rfl,Nat.le_refl _,by simp[maxLen],λ _=>rfl,λ h=>absurd rfl h,rfl⟩
theorem Xl.keep {w w':World} {P Q:Nat->Prop} {S:Sf} {sl:Value} (h:Xl w P S sl) (hk:∀ b,P b->b<w.heap.size->w'.heap[b]?=w.heap[b]?/\Q b) (hs:w.heap.size<=w'.heap.size):Xl w' Q S sl:=by
 obtain⟨a,cap,rws,e,h1,h2,h3,h4,h5⟩:=h
 exact⟨a,cap,rws,e,h1,h2,h3,h4.keep hk hs,h5.keep hk hs⟩
theorem Xl.of_own {w:World} {base e size:Nat} {P:Nat->Prop} {S:Sf} {v:Value} {xs:List Value} (h:w.ownsRow base e 6 v S.len xs) (hS:Zz w P S xs) (hP:∀ b,v.ownBlock=some b->P b):Xl w P S v:=by
 obtain⟨a,cap,rfl,h1,h2,h3,h4,_⟩:=Yf.of_own h
 refine⟨a,cap,xs,rfl,h2,h3,Wg h,λ hx=>?_,hS⟩
 obtain⟨b,off,e,hb,hc⟩:=h4 hx
 exact⟨b,off,e,hP b (by rw[e];rfl),hb,hc⟩
theorem Zz.one {w:World} {P:Nat->Prop} {k ln:Int} {nm:Bt} {xs:Fo} {th el:Sf} {slx slt sle:Value} (hx:Xk w P xs slx) (ht:Xl w P th slt) (he:Xl w P el sle):Zz w P (Zd k ln nm xs th el) (stc k ln nm slx slt sle):=by
 obtain⟨a,ca,ra,rfl,h1,h2,h3,h4,h5⟩:=ht
 obtain⟨b,cb,rb,rfl,k1,k2,k3,k4,k5⟩:=he
 exact⟨slx,a,ca,ra,b,cb,rb,[],by simp,hx,h1,h2,h3,h4,h5,k1,k2,k3,k4,k5,rfl⟩
abbrev stv (k ln:Int) (nm:Bt) (slx slt sle:Value):Value:=.agg #[.int .i64 k,.int .i64 ln,.string (st nm),slx,slt,sle]
theorem Tryz.infoStmt:(Tryz.prog.info? 110).map (λ i=>(i.zero,i.size,i.bytes))=some (some (.agg #[.int .i64 0,.int .i64 0,.string ⟨#[]⟩,.slice none 0 0,.slice none 0 0,.slice none 0 0]),6,104):=by kernel_rfl
section
inductive PQ where
 | ok (S:Sf) (r:List Tk)
 | bad (r:List Tk)
inductive Lq where
 | st
 | bl
 | bk (S:Sf)
inductive Hk where
 | bad (r:List Tk)
 | val (k:Int) (nm:Bt) (r:List Tk)
 | sto (nm:Bt) (r:List Tk)
 | cho (k:Int) (r:List Tk)
def hk (ts:List Tk):Hk :=
 if isT [118,97,114] ts=true then (if kOf ts.tail=1 then (if isT [61] ts.tail.tail=true then .val 1 (tOf ts.tail) ts.tail.tail.tail else .bad ts.tail.tail) else .bad ts.tail)
 else if isT [105,102] ts=true then .cho 4 ts.tail
 else if isT [119,104,105,108,101] ts=true then .cho 5 ts.tail
 else if isT [114,101,116,117,114,110] ts=true then .val 6 [] ts.tail
 else if isT [112,114,105,110,116] ts=true then .val 7 [] ts.tail
 else if isT [99,97,108,108] ts=true then .val 8 [] ts.tail
 else if kOf ts=1 then (if isT [91] ts.tail=true then .sto (tOf ts) ts.tail.tail else if isT [61] ts.tail=true then .val 2 (tOf ts) ts.tail.tail else .bad ts.tail)
 else .bad ts
def Gw (k ln:Int) (nm:Bt) (F:Fo):PR->PQ
 | .bad r=>.bad r
 | .ok x r=>if isT [59] r=true then .ok (Zd k ln nm (F.app x) .nil .nil) r.tail else .bad r
def bnE (o:Option PR) (k:Fo->List Tk->Option PQ):Option PQ:=match o with
 | none=>none
 | some (.bad r)=>some (.bad r)
 | some (.ok F r)=>k F r
def bnQ (o:Option PQ) (k:Sf->List Tk->Option PQ):Option PQ:=match o with
 | none=>none
 | some (.bad r)=>some (.bad r)
 | some (.ok F r)=>k F r
abbrev elW:Bt:=[101,108,115,101]
def Vw (p:List Tk->Option PR) (f:Lq->List Tk->Option PQ) (ln:Int):Hk->Option PQ
 | .bad r=>some (.bad r)
 | .val k nm r=>(p r).map (Gw k ln nm .nil)
 | .sto nm r=>bnE (p r) λ x r2=>if isT [93] r2=true then (if isT [61] r2.tail=true then (p r2.tail.tail).map (Gw 3 ln nm x) else some (.bad r2.tail)) else some (.bad r2)
 | .cho k r=>bnE (p r) λ x r2=>bnQ (f .bl r2) λ th r3=>if k=4/\isT elW r3=true then bnQ (f .bl r3.tail) (λ el r4=>some (.ok (Zd k ln [] x th el) r4)) else some (.ok (Zd k ln [] x th .nil) r3)
def Ep (p:List Tk->Option PR) (f:Lq->List Tk->Option PQ) (lv:Lq) (ts:List Tk):Option PQ:=match lv with
 | .st=>Vw p f (Yc ts) (hk ts)
 | .bl=>if isT [123] ts=true then f (.bk .nil) ts.tail else some (.bad ts)
 | .bk S=>if isT [125] ts=true then some (.ok S ts.tail) else bnQ (f .st ts) λ s r=>f (.bk (S.app s)) r
def Qn:Nat->Lq->List Tk->Option PQ
 | 0=>λ _ _=>none
 | n+1=>Ep (Pn n .ex) (Qn n)
theorem Mv {o o':Option PR} {k k':Fo->List Tk->Option PQ} {y:PQ} (h:bnE o k=some y) (ho:∀ x,o=some x->o'=some x) (hk:∀ F r,k F r=some y->k' F r=some y):bnE o' k'=some y:=by
 unfold bnE at h ⊢
 cases o with
 | none=>cases h
 | some x =>
  rw[ho x rfl]
  cases x with
  | ok F r=>exact hk F r h
  | bad r=>exact h
theorem Gb {o o':Option PQ} {k k':Sf->List Tk->Option PQ} {y:PQ} (h:bnQ o k=some y) (ho:∀ x,o=some x->o'=some x) (hk:∀ F r,k F r=some y->k' F r=some y):bnQ o' k'=some y:=by
 unfold bnQ at h ⊢
 cases o with
 | none=>cases h
 | some x =>
  rw[ho x rfl]
  cases x with
  | ok F r=>exact hk F r h
  | bad r=>exact h
theorem Ng {o o':Option PR} {g:PR->PQ} {y:PQ} (h:o.map g=some y) (ho:∀ x,o=some x->o'=some x):o'.map g=some y:=by
 cases o with
 | none=>cases h
 | some x=>rw[ho x rfl];exact h
theorem Pj {p p':List Tk->Option PR} {f g:Lq->List Tk->Option PQ} (hp:∀ ts y,p ts=some y->p' ts=some y) (hfg:∀ lv ts y,f lv ts=some y->g lv ts=some y) (lv:Lq) (ts:List Tk) (y:PQ) (h:Ep p f lv ts=some y):Ep p' g lv ts=some y:=by
 cases lv with
 | st =>
  unfold Ep at h ⊢
  dsimp only at h ⊢
  generalize hk ts=q at h ⊢
  cases q with
  | bad r=>exact h
  | val k nm r=>exact Ng h λ x hx=>hp _ x hx
  | sto nm r =>
   refine Mv h (λ x hx=>hp _ x hx) λ F r h=>?_
   split
   ·rename_i h1
    rw[if_pos h1] at h
    split
    ·rename_i h2
     rw[if_pos h2] at h
     exact Ng h λ x hx=>hp _ x hx
    rename_i h2
    rw[if_neg h2] at h
    exact h
   rename_i h1
   rw[if_neg h1] at h
   exact h
  | cho k r =>
   refine Mv h (λ x hx=>hp _ x hx) λ F r h=>Gb h (λ x hx=>hfg _ _ x hx) λ S r2 h=>?_
   split
   ·rename_i h1
    rw[if_pos h1] at h
    exact Gb h (λ x hx=>hfg _ _ x hx) λ _ _ h=>h
   rename_i h1
   rw[if_neg h1] at h
   exact h
 | bl =>
  unfold Ep at h ⊢
  dsimp only at h ⊢
  split
  ·rename_i h1;rw[if_pos h1] at h;exact hfg _ _ _ h
  rename_i h1;rw[if_neg h1] at h;exact h
 | bk S =>
  unfold Ep at h ⊢
  dsimp only at h ⊢
  split
  ·rename_i h1;rw[if_pos h1] at h;exact h
  rename_i h1;rw[if_neg h1] at h;exact Gb h (λ x hx=>hfg _ _ x hx) λ _ _ h=>hfg _ _ _ h
theorem Ou (n:Nat):∀ lv ts y,Qn n lv ts=some y->Qn (n+1) lv ts=some y:=by
 induction n with
 | zero=>intro lv ts y h;cases h
 | succ n ih=>intro lv ts y h;exact Pj (λ ts y=>Sw n .ex ts y) ih lv ts y h
theorem Fw {n m:Nat} (h:n<=m) {lv:Lq} {ts:List Tk} {y:PQ} (hn:Qn n lv ts=some y):Qn m lv ts=some y:=by
 induction h with
 | refl=>exact hn
 | step _ ih=>exact Ou _ _ _ _ ih
def Qs (lv:Lq) (ts:List Tk) (y:PQ):Prop:=∃ n,Qn n lv ts=some y
theorem Qs.det {lv:Lq} {ts:List Tk} {y z:PQ} (h:Qs lv ts y) (k:Qs lv ts z):y=z:=by
 obtain⟨n,hn⟩:=h
 obtain⟨m,hm⟩:=k
 have h1:=Fw (Nat.le_max_left n m) hn
 have h2:=Fw (Nat.le_max_right n m) hm
 rw[h1] at h2
 injection h2
theorem Qs.ev {lv:Lq} {ts:List Tk} {y:PQ} (h:∃ n0,∀ n,n0<=n->Ep (Pn n .ex) (Qn n) lv ts=some y):Qs lv ts y:=by
 obtain⟨n0,h⟩:=h
 exact⟨n0+1,h n0 (Nat.le_refl _)⟩
theorem Ps.ev {lv:Lv} {ts:List Tk} {y:PR} (h:Ps lv ts y):∃ n0,∀ n,n0<=n->Pn n lv ts=some y:=by
 obtain⟨n0,h⟩:=h
 exact⟨n0,λ n hn=>Mp hn h⟩
theorem Qs.ev' {lv:Lq} {ts:List Tk} {y:PQ} (h:Qs lv ts y):∃ n0,∀ n,n0<=n->Qn n lv ts=some y:=by
 obtain⟨n0,h⟩:=h
 exact⟨n0,λ n hn=>Fw hn h⟩
section
variable {ts r r2 r3:List Tk} {k:Int} {nm:Bt} {x:Fo} {S th el s:Sf} {y:PR} {z:PQ}
theorem Qs.st_bad (h:hk ts=.bad r):Qs .st ts (.bad r):=.ev ⟨0,λ n _=>by show Vw _ _ _ (hk ts)=_;rw[h];rfl⟩
theorem Qs.st_val (h:hk ts=.val k nm r) (hx:Ps .ex r y):Qs .st ts (Gw k (Yc ts) nm .nil y):=by
 obtain⟨a,ha⟩:=hx.ev
 exact .ev ⟨a,λ n hn=>by show Vw _ _ _ (hk ts)=_;rw[h];show Option.map _ _=_;rw[ha n hn];rfl⟩
theorem Qs.sto_bad (h:hk ts=.sto nm r) (hx:Ps .ex r (.bad r2)):Qs .st ts (.bad r2):=by
 obtain⟨a,ha⟩:=hx.ev
 exact .ev ⟨a,λ n hn=>by show Vw _ _ _ (hk ts)=_;rw[h];show bnE _ _=_;rw[ha n hn];rfl⟩
theorem Qs.sto_no1 (h:hk ts=.sto nm r) (hx:Ps .ex r (.ok x r2)) (h1:isT [93] r2=false):Qs .st ts (.bad r2):=by
 obtain⟨a,ha⟩:=hx.ev
 exact .ev ⟨a,λ n hn=>by show Vw _ _ _ (hk ts)=_;rw[h];show bnE _ _=_;rw[ha n hn];show (if _ then _ else _)=_;rw[if_neg (by rw[h1];simp)]⟩
theorem Qs.sto_no2 (h:hk ts=.sto nm r) (hx:Ps .ex r (.ok x r2)) (h1:isT [93] r2=true) (h2:isT [61] r2.tail=false):Qs .st ts (.bad r2.tail):=by
 obtain⟨a,ha⟩:=hx.ev
 exact .ev ⟨a,λ n hn=>by show Vw _ _ _ (hk ts)=_;rw[h];show bnE _ _=_;rw[ha n hn];show (if _ then _ else _)=_;rw[if_pos h1,if_neg (by rw[h2];simp)]⟩
theorem Qs.sto_ok (h:hk ts=.sto nm r) (hx:Ps .ex r (.ok x r2)) (h1:isT [93] r2=true) (h2:isT [61] r2.tail=true) (hy:Ps .ex r2.tail.tail y):Qs .st ts (Gw 3 (Yc ts) nm x y):=by
 obtain⟨a,ha⟩:=hx.ev
 obtain⟨b,hb⟩:=hy.ev
 exact .ev ⟨max a b,λ n hn=>by show Vw _ _ _ (hk ts)=_;rw[h];show bnE _ _=_;rw[ha n (by omega)];show (if _ then _ else _)=_;rw[if_pos h1,if_pos h2,hb n (by omega)];rfl⟩
theorem Qs.cho_bad (h:hk ts=.cho k r) (hx:Ps .ex r (.bad r2)):Qs .st ts (.bad r2):=by
 obtain⟨a,ha⟩:=hx.ev
 exact .ev ⟨a,λ n hn=>by show Vw _ _ _ (hk ts)=_;rw[h];show bnE _ _=_;rw[ha n hn];rfl⟩
theorem Qs.cho_bl (h:hk ts=.cho k r) (hx:Ps .ex r (.ok x r2)) (hb:Qs .bl r2 (.bad r3)):Qs .st ts (.bad r3):=by
 obtain⟨a,ha⟩:=hx.ev
 obtain⟨b,hb⟩:=hb.ev'
 exact .ev ⟨max a b,λ n hn=>by show Vw _ _ _ (hk ts)=_;rw[h];show bnE _ _=_;rw[ha n (by omega)];show bnQ _ _=_;rw[hb n (by omega)];rfl⟩
theorem Qs.cho_one (h:hk ts=.cho k r) (hx:Ps .ex r (.ok x r2)) (hb:Qs .bl r2 (.ok th r3)) (hn:¬ (k=4/\isT elW r3=true)):Qs .st ts (.ok (Zd k (Yc ts) [] x th .nil) r3):=by
 obtain⟨a,ha⟩:=hx.ev
 obtain⟨b,hb⟩:=hb.ev'
 exact .ev ⟨max a b,λ n hn2=>by show Vw _ _ _ (hk ts)=_;rw[h];show bnE _ _=_;rw[ha n (by omega)];show bnQ _ _=_;rw[hb n (by omega)];show (if _ then _ else _)=_;rw[if_neg hn]⟩
theorem Qs.cho_two {r4:List Tk} (h:hk ts=.cho k r) (hx:Ps .ex r (.ok x r2)) (hb:Qs .bl r2 (.ok th r3)) (hn:k=4/\isT elW r3=true) (hc:Qs .bl r3.tail (.ok el r4)):Qs .st ts (.ok (Zd k (Yc ts) [] x th el) r4):=by
 obtain⟨a,ha⟩:=hx.ev
 obtain⟨b,hb⟩:=hb.ev'
 obtain⟨c,hc⟩:=hc.ev'
 exact .ev ⟨max a (max b c),λ n hn2=>by show Vw _ _ _ (hk ts)=_;rw[h];show bnE _ _=_;rw[ha n (by omega)];show bnQ _ _=_;rw[hb n (by omega)];show (if _ then _ else _)=_;rw[if_pos hn,hc n (by omega)];rfl⟩
theorem Qs.cho_two_bad {r4:List Tk} (h:hk ts=.cho k r) (hx:Ps .ex r (.ok x r2)) (hb:Qs .bl r2 (.ok th r3)) (hn:k=4/\isT elW r3=true) (hc:Qs .bl r3.tail (.bad r4)):Qs .st ts (.bad r4):=by
 obtain⟨a,ha⟩:=hx.ev
 obtain⟨b,hb⟩:=hb.ev'
 obtain⟨c,hc⟩:=hc.ev'
 exact .ev ⟨max a (max b c),λ n hn2=>by show Vw _ _ _ (hk ts)=_;rw[h];show bnE _ _=_;rw[ha n (by omega)];show bnQ _ _=_;rw[hb n (by omega)];show (if _ then _ else _)=_;rw[if_pos hn,hc n (by omega)];rfl⟩
theorem Qs.bl_no (h:isT [123] ts=false):Qs .bl ts (.bad ts):=.ev ⟨0,λ n _=>by show (if _ then _ else _)=_;rw[if_neg (by rw[h];simp)]⟩
theorem Qs.bl_ok (h:isT [123] ts=true) (hb:Qs (.bk .nil) ts.tail z):Qs .bl ts z:=by
 obtain⟨b,hb⟩:=hb.ev'
 exact .ev ⟨b,λ n hn=>by show (if _ then _ else _)=_;rw[if_pos h,hb n hn]⟩
theorem Qs.bk_end (h:isT [125] ts=true):Qs (.bk S) ts (.ok S ts.tail):=.ev ⟨0,λ n _=>by show (if _ then _ else _)=_;rw[if_pos h]⟩
theorem Qs.bk_bad (h:isT [125] ts=false) (hs:Qs .st ts (.bad r)):Qs (.bk S) ts (.bad r):=by
 obtain⟨b,hb⟩:=hs.ev'
 exact .ev ⟨b,λ n hn=>by show (if _ then _ else _)=_;rw[if_neg (by rw[h];simp),hb n hn];rfl⟩
theorem Qs.bk_ok (h:isT [125] ts=false) (hs:Qs .st ts (.ok s r)) (hb:Qs (.bk (S.app s)) r z):Qs (.bk S) ts z:=by
 obtain⟨a,ha⟩:=hs.ev'
 obtain⟨b,hb⟩:=hb.ev'
 exact .ev ⟨max a b,λ n hn=>by show (if _ then _ else _)=_;rw[if_neg (by rw[h];simp),ha n (by omega)];exact hb n (by omega)⟩
end
end
section
section
variable {ts:List Tk}
theorem Zn {s t:Bt} (h:isT s ts=true) (hn:s≠t):isT t ts=false:=by
 cases ts with
 | nil=>rfl
 | cons x r =>
  simp only[isT,Bool.and_eq_true,beq_iff_eq] at h
  cases hk:isT t (x::r)
  ·rfl
  simp only[isT,Bool.and_eq_true,beq_iff_eq] at hk
  exact absurd (h.2.symm.trans hk.2) hn
theorem Dv (h:isT [118,97,114] ts=true):hk ts=(if kOf ts.tail=1 then (if isT [61] ts.tail.tail=true then .val 1 (tOf ts.tail) ts.tail.tail.tail else .bad ts.tail.tail) else .bad ts.tail):=by unfold hk;rw[if_pos h]
theorem Nd (h:isT [105,102] ts=true):hk ts=.cho 4 ts.tail:=by simp[hk,h,Zn h (t:=[118,97,114]) (by decide)]
theorem Es (h:isT [119,104,105,108,101] ts=true):hk ts=.cho 5 ts.tail:=by simp[hk,h,Zn h (t:=[118,97,114]) (by decide),Zn h (t:=[105,102]) (by decide)]
theorem Hb (h:isT [114,101,116,117,114,110] ts=true):hk ts=.val 6 [] ts.tail:=by simp[hk,h,Zn h (t:=[118,97,114]) (by decide),Zn h (t:=[105,102]) (by decide),Zn h (t:=[119,104,105,108,101]) (by decide)]
theorem Nf (h:isT [112,114,105,110,116] ts=true):hk ts=.val 7 [] ts.tail:=by simp[hk,h,Zn h (t:=[118,97,114]) (by decide),Zn h (t:=[105,102]) (by decide),Zn h (t:=[119,104,105,108,101]) (by decide),Zn h (t:=[114,101,116,117,114,110]) (by decide)]
theorem Sj (h:isT [99,97,108,108] ts=true):hk ts=.val 8 [] ts.tail:=by simp[hk,h,Zn h (t:=[118,97,114]) (by decide),Zn h (t:=[105,102]) (by decide),Zn h (t:=[119,104,105,108,101]) (by decide),Zn h (t:=[114,101,116,117,114,110]) (by decide),Zn h (t:=[112,114,105,110,116]) (by decide)]
def noW (ts:List Tk):Prop:=isT [118,97,114] ts=false/\isT [105,102] ts=false/\isT [119,104,105,108,101] ts=false/\isT [114,101,116,117,114,110] ts=false/\isT [112,114,105,110,116] ts=false/\isT [99,97,108,108] ts=false
theorem Ku (h:noW ts):hk ts=(if kOf ts=1 then (if isT [91] ts.tail=true then .sto (tOf ts) ts.tail.tail else if isT [61] ts.tail=true then .val 2 (tOf ts) ts.tail.tail else .bad ts.tail) else .bad ts):=by
 obtain⟨h1,h2,h3,h4,h5,h6⟩:=h
 unfold hk
 rw[h1,h2,h3,h4,h5,h6]
 simp only[Bool.false_eq_true,if_false]
end
inductive PG where
 | ok (nm:Bt) (sz wr:Int) (r:List Tk)
 | bad (r:List Tk)
def Vk (v ln wr:Int):Int:=if (v<1\/1024<v)/\wr=0 then ln else wr
def glP (wr:Int) (ts:List Tk):PG :=
 if kOf ts=1 then
  (if isT [91] ts.tail=true then
   (if kOf ts.tail.tail=2 then
    (if isT [93] ts.tail.tail.tail=true then
     (if isT [59] ts.tail.tail.tail.tail=true then .ok (tOf ts) (vOf ts.tail.tail) (Vk (vOf ts.tail.tail) (Yc ts.tail.tail) wr) ts.tail.tail.tail.tail.tail else .bad ts.tail.tail.tail.tail)
    else .bad ts.tail.tail.tail)
   else .bad ts.tail.tail)
  else if isT [59] ts.tail=true then .ok (tOf ts) 0 wr ts.tail.tail else .bad ts.tail)
 else .bad ts
inductive PP where
 | ok (ps:List Bt) (r:List Tk)
 | bad (r:List Tk)
def uP (ps:List Bt) (ts:List Tk):List Tk:=if ps=[] then ts else ts.tail
def paF:Nat->List Bt->List Tk->Option PP
 | 0,_,_=>none
 | n+1,ps,ts=>if isT [41] ts=true then some (.ok ps ts.tail)
   else if ps≠[]/\isT [44] ts=false then some (.bad ts)
   else if kOf (uP ps ts)=1 then paF n (ps++[tOf (uP ps ts)]) (uP ps ts).tail else some (.bad (uP ps ts))
theorem Bb (n:Nat):∀ ps ts y,paF n ps ts=some y->paF (n+1) ps ts=some y:=by
 induction n with
 | zero=>intro ps ts y h;cases h
 | succ n ih =>
  intro ps ts y h
  unfold paF at h ⊢
  split
  ·rename_i h1;rw[if_pos h1] at h;exact h
  rename_i h1
  rw[if_neg h1] at h
  split
  ·rename_i h2;rw[if_pos h2] at h;exact h
  rename_i h2
  rw[if_neg h2] at h
  split
  ·rename_i h3;rw[if_pos h3] at h;exact ih _ _ _ h
  rename_i h3;rw[if_neg h3] at h;exact h
theorem Bp {n m:Nat} (h:n<=m) {ps:List Bt} {ts:List Tk} {y:PP} (hn:paF n ps ts=some y):paF m ps ts=some y:=by
 induction h with
 | refl=>exact hn
 | step _ ih=>exact Bb _ _ _ _ ih
def Pr (ps:List Bt) (ts:List Tk) (y:PP):Prop:=∃ n,paF n ps ts=some y
theorem Pr.det {ps:List Bt} {ts:List Tk} {y z:PP} (h:Pr ps ts y) (k:Pr ps ts z):y=z:=by
 obtain⟨n,hn⟩:=h
 obtain⟨m,hm⟩:=k
 have h1:=Bp (Nat.le_max_left n m) hn
 have h2:=Bp (Nat.le_max_right n m) hm
 rw[h1] at h2
 injection h2
theorem Pr.fin {ps:List Bt} {ts:List Tk} (h:isT [41] ts=true):Pr ps ts (.ok ps ts.tail):=⟨1,by unfold paF;rw[if_pos h]⟩
theorem Pr.no {ps:List Bt} {ts:List Tk} (h:isT [41] ts=false) (h2:ps≠[]) (h3:isT [44] ts=false):Pr ps ts (.bad ts):=⟨1,by unfold paF;rw[if_neg (by rw[h];simp),if_pos ⟨h2,h3⟩]⟩
theorem Pr.nm {ps:List Bt} {ts u:List Tk} (h:isT [41] ts=false) (h2:ps≠[]->isT [44] ts=true) (hu:u=uP ps ts) (hk:kOf u≠1):Pr ps ts (.bad u):=⟨1,by
 unfold paF
 rw[if_neg (by rw[h];simp),if_neg (by intro e;rw[h2 e.1] at e;cases e.2),if_neg (by rw[<- hu];exact hk),hu]⟩
theorem Pr.more {ps:List Bt} {ts u:List Tk} {y:PP} (h:isT [41] ts=false) (h2:ps≠[]->isT [44] ts=true) (hu:u=uP ps ts) (hk:kOf u=1) (k:Pr (ps++[tOf u]) u.tail y):Pr ps ts y:=by
 obtain⟨n,hn⟩:=k
 refine⟨n+1,?_⟩
 unfold paF
 rw[if_neg (by rw[h];simp),if_neg (by intro e;rw[h2 e.1] at e;cases e.2),if_pos (by rw[<- hu];exact hk),<- hu]
 exact hn
inductive PF where
 | ok (nm:Bt) (ps:List Bt) (S:Sf) (r:List Tk)
 | bad (r:List Tk)
inductive Fs (ts:List Tk):PF->Prop where
 | name (h:kOf ts≠1):Fs ts (.bad ts)
 | par (h:kOf ts=1) (h2:isT [40] ts.tail=false):Fs ts (.bad ts.tail)
 | pbad {r:List Tk} (h:kOf ts=1) (h2:isT [40] ts.tail=true) (h3:Pr [] ts.tail.tail (.bad r)):Fs ts (.bad r)
 | bbad {ps:List Bt} {r r2:List Tk} (h:kOf ts=1) (h2:isT [40] ts.tail=true) (h3:Pr [] ts.tail.tail (.ok ps r)) (h4:Qs .bl r (.bad r2)):Fs ts (.bad r2)
 | ok {ps:List Bt} {S:Sf} {r r2:List Tk} (h:kOf ts=1) (h2:isT [40] ts.tail=true) (h3:Pr [] ts.tail.tail (.ok ps r)) (h4:Qs .bl r (.ok S r2)):Fs ts (.ok (tOf ts) ps S r2)
theorem Fs.det {ts:List Tk} {y z:PF} (h:Fs ts y) (k:Fs ts z):y=z:=by
 cases h with
 | name a1=>cases k<;>first|rfl|(exact absurd (by assumption) a1)
 | par a1 a2=>cases k<;>first|rfl|(exact absurd a1 (by assumption))|(rename_i b1 b2 _ ;rw[a2] at b2;cases b2)|(rename_i b1 b2 _ _;rw[a2] at b2;cases b2)
 | pbad a1 a2 a3 =>
  cases k with
  | name b1=>exact absurd a1 b1
  | par b1 b2=>rw[a2] at b2;cases b2
  | pbad b1 b2 b3=>have:=a3.det b3;injection this with this;rw[this]
  | bbad b1 b2 b3 b4=>have:=a3.det b3;cases this
  | ok b1 b2 b3 b4=>have:=a3.det b3;cases this
 | bbad a1 a2 a3 a4 =>
  cases k with
  | name b1=>exact absurd a1 b1
  | par b1 b2=>rw[a2] at b2;cases b2
  | pbad b1 b2 b3=>have:=a3.det b3;cases this
  | bbad b1 b2 b3 b4=>have:=a3.det b3;injection this with _ this;subst this;have:=a4.det b4;injection this with this;rw[this]
  | ok b1 b2 b3 b4=>have:=a3.det b3;injection this with _ this;subst this;have:=a4.det b4;cases this
 | ok a1 a2 a3 a4 =>
  cases k with
  | name b1=>exact absurd a1 b1
  | par b1 b2=>rw[a2] at b2;cases b2
  | pbad b1 b2 b3=>have:=a3.det b3;cases this
  | bbad b1 b2 b3 b4=>have:=a3.det b3;injection this with _ this;subst this;have:=a4.det b4;cases this
  | ok b1 b2 b3 b4=>have:=a3.det b3;injection this with t1 this;subst t1 this;have:=a4.det b4;injection this with t2 t3;rw[t2,t3]
structure Fu where
 nm:Bt
 ln:Int
 ps:List Bt
 S:Sf
inductive PO where
 | ok (gs:List (Bt×Int)) (fs:List Fu) (wr:Int) (r:List Tk)
 | bad (r:List Tk)
abbrev glW:Bt:=[103,108,111,98,97,108]
abbrev fnW:Bt:=[102,117,110,99]
inductive So:Int->List (Bt×Int)->List Fu->List Tk->PO->Prop where
 | fin {wr:Int} {gs:List (Bt×Int)} {fs:List Fu} {ts:List Tk} (h:kOf ts=0):So wr gs fs ts (.ok gs fs wr ts)
 | gl {wr wr2 sz:Int} {gs:List (Bt×Int)} {fs:List Fu} {ts r:List Tk} {nm:Bt} {y:PO} (h:isT glW ts=true) (h2:glP wr ts.tail=.ok nm sz wr2 r) (k:So wr2 (gs++[(nm,sz)]) fs r y):So wr gs fs ts y
 | glb {wr:Int} {gs:List (Bt×Int)} {fs:List Fu} {ts r:List Tk} (h:isT glW ts=true) (h2:glP wr ts.tail=.bad r):So wr gs fs ts (.bad r)
 | fn {wr:Int} {gs:List (Bt×Int)} {fs:List Fu} {ts r:List Tk} {nm:Bt} {ps:List Bt} {S:Sf} {y:PO} (h:isT fnW ts=true) (h2:Fs ts.tail (.ok nm ps S r)) (k:So wr gs (fs++[⟨nm,Yc ts,ps,S⟩]) r y):So wr gs fs ts y
 | fnb {wr:Int} {gs:List (Bt×Int)} {fs:List Fu} {ts r:List Tk} (h:isT fnW ts=true) (h2:Fs ts.tail (.bad r)):So wr gs fs ts (.bad r)
 | no {wr:Int} {gs:List (Bt×Int)} {fs:List Fu} {ts:List Tk} (h:kOf ts≠0) (h1:isT glW ts=false) (h2:isT fnW ts=false):So wr gs fs ts (.bad ts)
theorem Ex {ts:List Tk} (h:isT glW ts=true) (k:isT fnW ts=true):False:=by
 have:=Zn h (t:=fnW) (by decide)
 rw[k] at this
 cases this
theorem So.det {wr:Int} {gs:List (Bt×Int)} {fs:List Fu} {ts:List Tk} {y z:PO} (h:So wr gs fs ts y) (k:So wr gs fs ts z):y=z:=by
 induction h generalizing z with
 | fin h =>
  cases k with
  | fin _=>rfl
  | gl h2=>exact absurd h (Zt h2).2.2.1
  | glb h2=>exact absurd h (Zt h2).2.2.1
  | fn h2=>exact absurd h (Zt h2).2.2.1
  | fnb h2=>exact absurd h (Zt h2).2.2.1
  | no h2=>exact absurd h h2
 | gl h h2 _ ih =>
  cases k with
  | fin h3=>exact absurd h3 (Zt h).2.2.1
  | gl h3 h4 h5 =>
   rw[h2] at h4
   injection h4 with e1 e2 e3 e4
   subst e1 e2 e3 e4
   exact ih h5
  | glb h3 h4=>rw[h2] at h4;cases h4
  | fn h3=>exact(Ex h h3).elim
  | fnb h3=>exact(Ex h h3).elim
  | no _ h3=>rw[h] at h3;cases h3
 | glb h h2 =>
  cases k with
  | fin h3=>exact absurd h3 (Zt h).2.2.1
  | gl h3 h4 h5=>rw[h2] at h4;cases h4
  | glb h3 h4=>rw[h2] at h4;injection h4 with e;rw[e]
  | fn h3=>exact(Ex h h3).elim
  | fnb h3=>exact(Ex h h3).elim
  | no _ h3=>rw[h] at h3;cases h3
 | fn h h2 _ ih =>
  cases k with
  | fin h3=>exact absurd h3 (Zt h).2.2.1
  | gl h3=>exact(Ex h3 h).elim
  | glb h3=>exact(Ex h3 h).elim
  | fn h3 h4 h5 =>
   have e:=h2.det h4
   injection e with e1 e2 e3 e4
   subst e1 e2 e3 e4
   exact ih h5
  | fnb h3 h4=>have e:=h2.det h4;cases e
  | no _ _ h3=>rw[h] at h3;cases h3
 | fnb h h2 =>
  cases k with
  | fin h3=>exact absurd h3 (Zt h).2.2.1
  | gl h3=>exact(Ex h3 h).elim
  | glb h3=>exact(Ex h3 h).elim
  | fn h3 h4 h5=>have e:=h2.det h4;cases e
  | fnb h3 h4=>have e:=h2.det h4;injection e with e;rw[e]
  | no _ _ h3=>rw[h] at h3;cases h3
 | no h h1 h2 =>
  cases k with
  | fin h3=>exact absurd h3 h
  | gl h3=>rw[h1] at h3;cases h3
  | glb h3=>rw[h1] at h3;cases h3
  | fn h3=>rw[h2] at h3;cases h3
  | fnb h3=>rw[h2] at h3;cases h3
  | no _ _ _=>rfl
end
theorem Kv (K:PC) (at_:Nat) (bad:Bool) (rest:List Tk) (w:World) (h:RAt w K at_ bad rest):Calls Tryz.prog 49 #[.pointer (some ⟨K.g,0,none⟩)] w (EQ K .ex at_ bad rest w) :=
 (rall (mu bad rest)).2 K at_ bad rest w h (Nat.le_refl _)
def vR:PR->PR
 | .bad r=>.bad r
 | .ok F r=>if isT [59] r=true then .ok F r.tail else .bad r
def Vs (rest:List Tk) (y:PR):Prop:=∃ y0,Ps .ex rest y0/\y=vR y0
theorem Vs.ok {rest r:List Tk} {F:Fo} (h:Ps .ex rest (.ok F r)) (k:isT [59] r=true):Vs rest (.ok F r.tail):=⟨_,h,by unfold vR;dsimp only;rw[if_pos k]⟩
theorem Vs.no {rest r:List Tk} {F:Fo} (h:Ps .ex rest (.ok F r)) (k:isT [59] r=false):Vs rest (.bad r):=⟨_,h,by unfold vR;dsimp only;rw[if_neg (by rw[k];simp)]⟩
theorem Vs.bad {rest r:List Tk} (h:Ps .ex rest (.bad r)):Vs rest (.bad r):=⟨_,h,rfl⟩
theorem Vs.end_ok {rest r:List Tk} {F:Fo} (h:Vs rest (.ok F r)):∃ y,Ps .ex rest y/\∀ k ln nm G,Gw k ln nm G y=.ok (Zd k ln nm (G.app F) .nil .nil) r:=by
 obtain⟨y,h1,h2⟩:=h
 refine⟨y,h1,λ k ln nm G=>?_⟩
 cases y with
 | bad r2=>cases h2
 | ok F2 r2 =>
  unfold vR at h2
  unfold Gw
  dsimp only at h2 ⊢
  split at h2
  ·rename_i h3
   injection h2 with e1 e2
   rw[if_pos h3,e1,e2]
  cases h2
theorem Vs.end_bad {rest r:List Tk} (h:Vs rest (.bad r)):∃ y,Ps .ex rest y/\∀ k ln nm G,Gw k ln nm G y=.bad r:=by
 obtain⟨y,h1,h2⟩:=h
 refine⟨y,h1,λ k ln nm G=>?_⟩
 cases y with
 | bad r2=>injection h2 with e;subst e;rfl
 | ok F2 r2 =>
  unfold vR at h2
  unfold Gw
  dsimp only at h2 ⊢
  split at h2
  ·cases h2
  rename_i h3
  injection h2 with e1
  rw[if_neg h3,e1]
def VQ (K:PC) (at_:Nat) (bad:Bool) (rest:List Tk) (w:World) (e:Ending) (w':World):Prop :=
 ∃ (h:Hd) (a:Option Addr) (n c:Nat) (bad2:Bool) (at2:Nat) (r:List Tk),e=.returned (exv h (.slice a n c))/\RAt w' K at2 bad2 r/\r.length<=rest.length/\w.grownBy w' (some K.g) /\
  Xq ((bad=false/\bad2=false/\∃ ar,Vs rest (.ok (Xh h ar) r)/\Xk w' (λ b=>w.heap.size<=b) ar (.slice a n c)/\r.length<rest.length)\/(bad=false/\bad2=true/\Vs rest (.bad r))\/(bad=true/\bad2=true/\at2=at_/\r=rest))
theorem xjj {K:PC} {w wx:World} {at_ at2 gR:Nat} {bad bad2:Bool} {rest r:List Tk} {h:Hd} {a:Option Addr} {n c:Nat} (M:RS K w wx at2 bad2 r) (R:Lc wx gR zhd (.slice none 0 0)) (b1:w.heap.size<=gR) (hl:r.length<=rest.length)
  (hI:(bad=false/\bad2=false/\∃ ar,Vs rest (.ok (Xh h ar) r)/\Xk wx (λ b=>w.heap.size<=b/\b≠gR) ar (.slice a n c)/\r.length<rest.length)\/(bad=false/\bad2=true/\Vs rest (.bad r))\/(bad=true/\bad2=true/\at2=at_/\r=rest)) :
  VQ K at_ bad rest w (.returned (exv h (.slice a n c))) (set6 wx gR (.int .i64 h.k) (.int .i64 h.op) (.int .i64 h.v) (.int .i64 h.ln) (.string (st h.nm)) (.slice a n c)) /\
  Lc (set6 wx gR (.int .i64 h.k) (.int .i64 h.op) (.int .i64 h.v) (.int .i64 h.ln) (.string (st h.nm)) (.slice a n c)) gR h (.slice a n c):=by
 have hms:=M.s6 b1 (.int .i64 h.k) (.int .i64 h.op) (.int .i64 h.v) (.int .i64 h.ln) (.string (st h.nm)) (.slice a n c)
 refine⟨⟨h,a,n,c,bad2,at2,r,rfl,hms.pat,hl,hms.gr,Xj ?_⟩,R.s6 h (.slice a n c)⟩
 rcases hI with⟨h1,h2,ar,h3,h4,h5⟩|hr
 ·exact .inl ⟨h1,h2,ar,h3,Xc (Yv h4 (λ b hb=>hb.2)) (λ b hb _=>hb.1),h5⟩
 exact .inr hr
theorem Uy (K:PC) (at_:Nat) (bad:Bool) (rest:List Tk) (w:World) (hP:RAt w K at_ bad rest):Calls Tryz.prog 193 #[.pointer (some ⟨K.g,0,none⟩)] w (VQ K at_ bad rest w):=by
 have HM1:=Xj ((RS.init hP).al zex)
 have HR1:=Xj (Lc.zero w)
 clear hP
 go_enter Tryz.func193,Tryz.ntmps193
 go_upto_region 1 with fail
 obtain⟨w1,hw1⟩:∃ W,w.alloc zex=W:=⟨_,rfl⟩
 obtain⟨gR,hgR⟩:∃ x,w.heap.size=x:=⟨_,rfl⟩
 (try rw[show w.alloc (.cells #[.int .i64 0,.int .i64 0,.int .i64 0,.int .i64 0,.string { data := #[] },.slice none 0 0] 37)=w1 from hw1])
 rw[hw1] at HM1 HR1
 rw[hgR] at HR1
 (try rw[hgR])
 have HGR:=Xj hgR
 clear hw1 hgR
 go_wp2_with fail
 refine(Kv K at_ bad rest w1 HM1.o.pat).mono ?_
 rintro e w2 ⟨h,a,n,c,bad2,at2,r,rfl,hp2,hjb,hg2,hI⟩
 have hgl:K.g≠gR:=by have:=HM1.o.gl;have:=HGR.o;omega
 have HM2:=Xj ((HM1.o.call hp2 hg2).al (.cells (ecs h (.slice a n c)) 37))
 have HR2:=Xj ((HR1.o.gr hg2 (λ e=>hgl e.symm)).al (.cells (ecs h (.slice a n c)) 37))
 have HX2:=Xj (Lc.new w2 h (.slice a n c))
 have HS2:Xq (gR<w2.heap.size/\w.heap.size<=w1.heap.size):=Xj ⟨by have:=HR1.o.lt;have:=hg2.size;omega,HM1.o.gr.size⟩
 have hjr:Xq ((bad=false/\bad2=false/\∃ ar,Ps .ex rest (.ok (Xh h ar) r)/\Xk (w2.alloc (.cells (ecs h (.slice a n c)) 37)) (λ b=>w.heap.size<=b/\b≠gR) ar (.slice a n c)/\r.length<rest.length)\/(bad=false/\bad2=true/\Ps .ex rest (.bad r))\/(bad=true/\bad2=true/\at2=at_/\r=rest)):=Xj (by
  rcases hI.o with⟨h1,h2,ar,h3,h4,h5⟩|hr
  ·have hl:=HR1.o.lt
   have:=HS2.o
   exact .inl ⟨h1,h2,ar,h3,Xc (Yl _ (Xc (Q:=λ b=>w.heap.size<=b/\b≠gR) h4 (λ b hb _=>⟨by omega,by omega⟩))) (λ b hb _=>hb.1),h5⟩
  exact .inr hr)
 have HLE:=Xj hjb
 clear hI hp2 hg2 hjb HM1 HR1
 go_upto_region 2 with fail
 obtain⟨w3,hw3⟩:∃ W,w2.alloc (.cells (ecs h (.slice a n c)) 37)=W:=⟨_,rfl⟩
 obtain⟨gx,hgx⟩:∃ x,w2.heap.size=x:=⟨_,rfl⟩
 (try rw[show w2.alloc (.cells #[.int .i64 h.k,.int .i64 h.op,.int .i64 h.v,.int .i64 h.ln,.string (st h.nm),.slice a n c] 37)=w3 from hw3])
 rw[hw3,hgx] at HX2
 rw[hw3] at HM2 HR2 hjr
 rw[hgx] at HS2
 (try rw[hgx])
 clear hw3 hgx
 go_wp2_with fail
 refine(Qw K at2 bad2 r [59] w3 HM2.o.pat).mono ?_
 rintro e w4 ⟨at4,bad4,r4,rfl,hp4,hg4,hc4⟩
 have hgx2:K.g≠gx:=by have:=HM2.o.gl;have:=HS2.o;have:=HGR.o;omega
 have HM4:=Xj (HM2.o.call hp4 hg4)
 have HR4:=Xj (HR2.o.gr hg4 (λ e=>hgl e.symm))
 have HX4:=Xj (HX2.o.gr hg4 (λ e=>hgx2 e.symm))
 have HF:=Xj (xjj (at_:=at_) (bad:=bad) (rest:=rest) (h:=h) (a:=a) (n:=n) (c:=c) HM4.o HR4.o (by have:=HGR.o;omega) (by
  have:=HLE.o
  rcases hc4 with⟨_,_,_,_,e⟩|⟨_,_,_,e⟩
  ·rw[e];simp;omega
  ·rw[e];omega) (by
  rcases hjr.o with⟨h1,h2,ar,h3,h4,h5⟩|⟨h1,h2,h3⟩|⟨h1,h2,h3,h4⟩
  ·have h6:=Zq h4 hg4 (λ b hb=>by have:=HM2.o.gl;have:=hb.1;omega)
   rcases hc4 with⟨_,k2,k3,k4,k5⟩|⟨k1,k2,k3,k4⟩
   ·exact .inl ⟨h1,k2,ar,by rw[k5];exact Vs.ok h3 k3,h6,by rw[k5];simp;omega⟩
   rw[h2] at k1
   exact .inr (.inl ⟨h1,k2,by rw[k4];exact Vs.no h3 (by simpa using k1)⟩)
  ·rcases hc4 with⟨k1,_⟩|⟨k1,k2,k3,k4⟩
   ·rw[h2] at k1;cases k1
   exact .inr (.inl ⟨h1,k2,by rw[k4];exact Vs.bad h3⟩)
  rcases hc4 with⟨k1,_⟩|⟨k1,k2,k3,k4⟩
  ·rw[h2] at k1;cases k1
  exact .inr (.inr ⟨h1,k2,by omega,by rw[k4,h4]⟩)))
 clear hp4 hg4 hc4
 obtain⟨x0,x1,x2,x3,x4,x5⟩:=HX4.o.cells
 obtain⟨u0,u1,u2,u3,u4,u5⟩:=HR4.o.cells
 obtain⟨k0,k1,k2,k3,k4,k5⟩:=HR4.o.froz
 have hyv:=HR4.o.lt
 have hlX4:=HX4.o.lt
 go_wp2_with fail
 obtain⟨wz,hwz⟩:∃ W,set6 w4 gR (.int .i64 h.k) (.int .i64 h.op) (.int .i64 h.v) (.int .i64 h.ln) (.string (st h.nm)) (.slice a n c)=W:=⟨_,rfl⟩
 have hY:=hwz
 unfold set6 at hY
 (try rw[hY])
 rw[hwz] at HF
 obtain⟨d0,d1,d2,d3,d4,d5⟩:=HF.o.2.cells
 refine bodyPost_ret (v:=exv h (.slice a n c)) (by simp[results,Tryz.results193,go_sem,d0,d1,d2,d3,d4,d5]) rfl ?_
 exact HF.o.1
section
section
variable {P:Program} {md:Region.Mode} {ops:Array Oper} {Q:Exit->Act->World->Prop} {S:World->Prop} {d:Nat}
def Zx (P:Program) (md:Region.Mode) (ops:Array Oper) (Q:Exit->Act->World->Prop) (S:World->Prop) (d:Nat):Nat->Array Bool->Act->World->Prop
 | 0,listed,a,w=>Region.ready md ops listed=[]/\Q .normal a w
 | fuel+1,listed,a,w=>(Region.ready md ops listed=[]->Q .normal a w) /\
   ∀ i∈Region.ready md ops listed,wpOp P ops Q i (λ a' w'=>((listed.setIfInBounds i true).getD d false=false->S w')/\Zx P md ops Q S d fuel (listed.setIfInBounds i true) a' w') a w
theorem Md (fuel:Nat):∀ (listed:Array Bool) (a:Act) (w:World),Zx P md ops Q S d fuel listed a w->wpAny P md ops Q fuel listed a w:=by
 induction fuel with
 | zero=>intro listed a w h;exact h
 | succ fuel ih=>intro listed a w h;exact⟨h.1,λ i hi=>wpOp_mono (λ a' w' h'=>ih _ a' w' h'.2) (h.2 i hi)⟩
theorem Hh {i:Nat} {oi od:Oper} {v:Value} {e0:Edge} (hi:ops[i]?=some oi) (hd:ops[d]?=some od) (he0:e0∈od.after) (hb0:Region.binds md e0=true) (hon:e0.on=i)
  (hyb:∀ (j:Nat) (o:Oper) cs b,ops[j]?=some o->o.op≠.select cs b) (hQ:∀ c a w,Q (.panic c) (a.put oi.dst v) w->Q (.panic c) a w) (fuel:Nat) :
  ∀ (listed:Array Bool) (a:Act) (w:World),
   (∀ j oj,ops[j]?=some oj->j≠i->listed.getD j true=false->(∀ e∈oj.after,Region.binds md e=true->e.on≠i)->oi.apart ops oj=true) ->
   i∈Region.ready md ops listed->listed.getD d false=false->YieldsIf P ops S oi v a->S w ->
   Zx P md ops Q S d fuel (listed.setIfInBounds i true) (a.put oi.dst v) w->Zx P md ops Q S d (fuel+1) listed a w:=by
 -- nothing that may come up now waits for i,as i has not come up
 have waits:∀ (listed:Array Bool) (j:Nat) (oj:Oper),i∈Region.ready md ops listed->ops[j]?=some oj->(∀ e∈oj.after,Region.binds md e=true->listed.getD e.on false=true)->∀ e∈oj.after,Region.binds md e=true->e.on≠i:=λ listed j oj hr hoj hqc e he hb heq=>by
  have h1:=hqc e he hb
  have h0:=(mem_ready.1 hr).1
  rw[heq] at h1
  by_cases hlt:i<listed.size
  ·simp[hlt] at h0 h1
   rw[h0] at h1
   cases h1
  simp[Array.getElem?_eq_none (Nat.le_of_not_lt hlt)] at h1
 induction fuel with
 | zero =>
  intro listed a w _ hr hdl hy hS H
  refine⟨λ h=>(by rw[h] at hr;cases hr),λ j hj=>?_⟩
  by_cases hji:j=i
  ·rw[hji]
   exact hy.wpOp hi hS ⟨λ _=>hS,H⟩
  have:=ready_mono hj hji
  rw[H.1] at this
  cases this
 | succ fuel ih =>
  intro listed a w hzc hr hdl hy hS H
  refine⟨λ h=>(by rw[h] at hr;cases hr),λ j hj=>?_⟩
  by_cases hji:j=i
  ·rw[hji]
   exact hy.wpOp hi hS ⟨λ _=>hS,H⟩
  obtain⟨hyp,oj,hoj,hqc⟩:=mem_ready.1 hj
  have hno:=waits listed j oj hr hoj hqc
  have hjd:j≠d:=λ e=>by
   rw[e,hd] at hoj
   injection hoj with hoj
   rw[<- hoj] at hno
   exact hno e0 he0 hb0 hon
  have hdl2:(listed.setIfInBounds j true).getD d false=false:=by rw[getD_set_ne false hjd];exact hdl
  have h2:=wpOp_putIf hoj (hzc j oj hoj hji hyp hno) (λ cs b=>hyb i oi cs b hi) (λ cs b=>hyb j oj cs b hoj) hQ hy (H.2 j (ready_mono hj hji))
  refine wpOp_mono (λ a' w' h3=>?_) h2
  have hid:i≠d:=λ e=>by
   have h0:=(mem_ready.1 hr)
   obtain⟨_,o,ho,hck⟩:=h0
   rw[e,hd] at ho
   injection ho with ho
   exact waits listed i od hr (by rw[e];exact hd) (by rw[ho];exact hck) e0 he0 hb0 hon
  have hS':S w':=h3.2.1 (by rw[getD_set_ne false hjd,getD_set_ne false hid];exact hdl)
  refine⟨λ _=>hS',ih (listed.setIfInBounds j true) a' w' (λ k ok hk hki hun hn=>hzc k ok hk hki ?_ hn) (ready_mono hr (Ne.symm hji)) hdl2 h3.1 hS' ?_⟩
  ·by_cases hjk:j=k
   ·rw[<- hjk];exact hyp
   rw[getD_set_ne true hjk] at hun;exact hun
  rw[Array.setIfInBounds_comm _ _ hji]
  exact h3.2.2
theorem Dr {i:Nat} {oi:Oper} {dd:Option Tmp} {v:Value} {fuel:Nat} {listed:Array Bool} {a:Act} {w:World} (hi:ops[i]?=some oi) (hdd:oi.dst=dd)
  (hw:(match ops[d]? with|some od=>od.after.any (λ e=>Region.binds md e&&e.on==i)|none=>false)=true) (hdl:listed.getD d false=false)
  (hs:Region.noSelect ops=true) (hf:Region.free md ops listed i=true) (hr:(Region.ready md ops listed).contains i=true)
  (hQ:∀ c a w,Q (.panic c) (a.put dd v) w->Q (.panic c) a w) (hy:YieldsIf P ops S oi v a) (hS:S w)
  (h:Zx P md ops Q S d fuel (listed.setIfInBounds i true) (a.put dd v) w):Zx P md ops Q S d (fuel+1) listed a w:=by
 subst hdd
 cases hd:ops[d]? with
 | none=>rw[hd] at hw;cases hw
 | some od =>
  rw[hd] at hw
  dsimp only at hw
  rw[Array.any_eq_true'] at hw
  obtain⟨e0,he0,hb⟩:=hw
  simp only[Bool.and_eq_true,beq_iff_eq] at hb
  exact Hh hi hd he0 hb.1 hb.2 (Region.noSelect_spec hs) hQ fuel listed a w (Region.free_spec hi hf) (by simpa using hr) hdl hy hS h
theorem Wq {rs:List Nat} {fuel:Nat} {listed:Array Bool} {a:Act} {w:World} (hr:Region.ready md ops listed=rs) (hne:rs≠[])
  (h:∀ i∈rs,wpOp P ops Q i (λ a' w'=>((listed.setIfInBounds i true).getD d false=false->S w')/\Zx P md ops Q S d fuel (listed.setIfInBounds i true) a' w') a w):Zx P md ops Q S d (fuel+1) listed a w :=
 ⟨λ h0=>absurd (hr▸h0) hne,hr▸h⟩
theorem Ml {i:Nat} {o:Oper} {fuel:Nat} {listed:Array Bool} {a:Act} {w:World} (hr:Region.ready md ops listed=[i]) (ho:ops[i]?=some o)
  (h:∀ K':Act->World->Prop,Shut (∀ a w,((listed.setIfInBounds i true).getD d false=false->S w)->Zx P md ops Q S d fuel (listed.setIfInBounds i true) a w->K' a w)->if Region.wanted o (yielded ops a.tmps)=true then Oper.wp P o a w K' Q else K' (a.put o.dst undef) w):Zx P md ops Q S d (fuel+1) listed a w :=
 Wq hr (by simp) λ j hj=>by
  have e:j=i:=by simpa using hj
  rw[e]
  exact wpOp_step ho λ K' hK=>h K' λ a w hS hW=>hK a w ⟨hS,hW⟩
theorem Gf {i:Nat} {oi:Oper} {v:Value} (hi:ops[i]?=some oi) (hid:i≠d)
  (hyb:∀ (j:Nat) (o:Oper) cs b,ops[j]?=some o->o.op≠.select cs b) (hQ:∀ c a w,Q (.panic c) (a.put oi.dst v) w->Q (.panic c) a w) (fuel:Nat) :
  ∀ (listed:Array Bool) (a:Act) (w:World),
   (∀ j oj,ops[j]?=some oj->j≠i->listed.getD j true=false->(∀ e∈oj.after,Region.binds md e=true->e.on≠i)->oi.apart ops oj=true) ->
   i∈Region.ready md ops listed->YieldsIf P ops (λ _=>True) oi v a->(listed.getD d false=false->S w) ->
   Zx P md ops Q S d fuel (listed.setIfInBounds i true) (a.put oi.dst v) w->Zx P md ops Q S d (fuel+1) listed a w:=by
 have waits:∀ (listed:Array Bool) (oj:Oper),i∈Region.ready md ops listed->(∀ e∈oj.after,Region.binds md e=true->listed.getD e.on false=true)->∀ e∈oj.after,Region.binds md e=true->e.on≠i:=λ listed oj hr hqc e he hb heq=>by
  have h1:=hqc e he hb
  have h0:=(mem_ready.1 hr).1
  rw[heq] at h1
  by_cases hlt:i<listed.size
  ·simp[hlt] at h0 h1
   rw[h0] at h1
   cases h1
  simp[Array.getElem?_eq_none (Nat.le_of_not_lt hlt)] at h1
 induction fuel with
 | zero =>
  intro listed a w _ hr hy hS H
  refine⟨λ h=>(by rw[h] at hr;cases hr),λ j hj=>?_⟩
  by_cases hji:j=i
  ·rw[hji]
   exact hy.wpOp hi trivial ⟨λ h=>hS (by rw[getD_set_ne false hid] at h;exact h),H⟩
  have:=ready_mono hj hji
  rw[H.1] at this
  cases this
 | succ fuel ih =>
  intro listed a w hzc hr hy hS H
  refine⟨λ h=>(by rw[h] at hr;cases hr),λ j hj=>?_⟩
  by_cases hji:j=i
  ·rw[hji]
   exact hy.wpOp hi trivial ⟨λ h=>hS (by rw[getD_set_ne false hid] at h;exact h),H⟩
  obtain⟨hyp,oj,hoj,hqc⟩:=mem_ready.1 hj
  have hno:=waits listed oj hr hqc
  have h2:=wpOp_putIf hoj (hzc j oj hoj hji hyp hno) (λ cs b=>hyb i oi cs b hi) (λ cs b=>hyb j oj cs b hoj) hQ hy (H.2 j (ready_mono hj hji))
  refine wpOp_mono (λ a' w' h3=>?_) h2
  have hS':(listed.setIfInBounds j true).getD d false=false->S w':=λ h=>h3.2.1 (by
   by_cases hjd:j=d
   ·rw[hjd] at h ⊢
    rw[Array.setIfInBounds_comm _ _ hid]
    rw[getD_set_ne false hid]
    exact h
   rw[getD_set_ne false hjd] at h ⊢
   rw[getD_set_ne false hid]
   exact h)
  refine⟨hS',ih (listed.setIfInBounds j true) a' w' (λ k ok hk hki hun hn=>hzc k ok hk hki ?_ hn) (ready_mono hr (Ne.symm hji)) h3.1 hS' ?_⟩
  ·by_cases hjk:j=k
   ·rw[<- hjk];exact hyp
   rw[getD_set_ne true hjk] at hun;exact hun
  rw[Array.setIfInBounds_comm _ _ hji]
  exact h3.2.2
theorem Uj {i:Nat} {oi:Oper} {dd:Option Tmp} {v:Value} {fuel:Nat} {listed:Array Bool} {a:Act} {w:World} (hi:ops[i]?=some oi) (hdd:oi.dst=dd) (hid:i≠d)
  (hs:Region.noSelect ops=true) (hf:Region.free md ops listed i=true) (hr:(Region.ready md ops listed).contains i=true)
  (hQ:∀ c a w,Q (.panic c) (a.put dd v) w->Q (.panic c) a w) (hy:YieldsIf P ops (λ _=>True) oi v a) (hS:listed.getD d false=false->S w)
  (h:Zx P md ops Q S d fuel (listed.setIfInBounds i true) (a.put dd v) w):Zx P md ops Q S d (fuel+1) listed a w:=by
 subst hdd
 exact Gf hi hid (Region.noSelect_spec hs) hQ fuel listed a w (Region.free_spec hi hf) (by simpa using hr) hy hS h
theorem Mh {i j:Nat} {o o2:Oper} {fuel:Nat} {listed:Array Bool} {a:Act} {w:World} (hr:Region.ready md ops listed=[i,j]) (ho:ops[i]?=some o) (ho2:ops[j]?=some o2)
  (h:∀ K':Act->World->Prop,Shut (∀ a w,((listed.setIfInBounds i true).getD d false=false->S w)->Zx P md ops Q S d fuel (listed.setIfInBounds i true) a w->K' a w)->if Region.wanted o (yielded ops a.tmps)=true then Oper.wp P o a w K' Q else K' (a.put o.dst undef) w)
  (h2:∀ K':Act->World->Prop,Shut (∀ a w,((listed.setIfInBounds j true).getD d false=false->S w)->Zx P md ops Q S d fuel (listed.setIfInBounds j true) a w->K' a w)->if Region.wanted o2 (yielded ops a.tmps)=true then Oper.wp P o2 a w K' Q else K' (a.put o2.dst undef) w):Zx P md ops Q S d (fuel+1) listed a w :=
 Wq hr (by simp) λ k hk=>by
  have e:k=i\/k=j:=by simpa using hk
  rcases e with rfl|rfl
  ·exact wpOp_step ho λ K' hK=>h K' λ a w hS hW=>hK a w ⟨hS,hW⟩
  exact wpOp_step ho2 λ K' hK=>h2 K' λ a w hS hW=>hK a w ⟨hS,hW⟩
theorem Qt {listed:Array Bool} {a:Act} {w:World} (hr:Region.ready md ops listed=[]) (h:Q .normal a w):∀ fuel,Zx P md ops Q S d fuel listed a w
 | 0=>⟨hr,h⟩
 | _+1=>⟨λ _=>h,by rw[hr];simp⟩
theorem Jh {id:Nat} {a:Act} {w:World} (d:Nat) (S:World->Prop) (hm:P.follows .mixedOrders=true) (hS:S w.drew)
  (h:S w.drew->Zx P .any ops Q S d ops.size (Array.replicate ops.size false) a w.drew):(Code.region id ops true).wp P Q a w :=
 wp_region_any hm (Md _ _ _ _ (h hS))
theorem tkK (i dd:Nat) {oi:Oper} {v:Value} {fuel:Nat} {listed:Array Bool} {a a2:Act} {w:World} (h:Zx P md ops Q S d fuel (listed.setIfInBounds i true) a2 w) (hi:ops[i]?=some oi:=by rfl) (hdd:oi.dst=some dd:=by kernel_rfl)
  (hw:(match ops[d]? with|some od=>od.after.any (λ e=>Region.binds md e&&e.on==i)|none=>false)=true:=by kernel_rfl) (hdl:listed.getD d false=false:=by kernel_rfl)
  (hs:Region.noSelect ops=true:=by kernel_rfl) (hf:Region.free md ops listed i=true:=by kernel_rfl) (hr:(Region.ready md ops listed).contains i=true:=by kernel_rfl)
  (hQ:∀ c a w,Q (.panic c) (a.put (some dd) v) w->Q (.panic c) a w:=by exact λ _ _ _ h=>h) (hwt:Region.wanted oi (yielded ops a.tmps)=true:=by kernel_rfl)
  (hy:∀ w,S w->(execOp a.eval oi).run P w=.ok (.value v) w:=by (intro w hSw;(try dsimp only at hSw);go_simp;try with_reducible rfl)) (hS:S w:=by assumption) (ha:a.put (some dd) v=a2:=by (first|(simp only[Act.put,List.setIfInBounds_toArray,List.set_cons_zero,List.set_cons_succ];done)|(simp only[Act.put,List.setIfInBounds_toArray,List.set_cons_zero,List.set_cons_succ];rfl)|rfl)):Zx P md ops Q S d (fuel+1) listed a w:=by
 subst ha;exact Dr hi hdd hw hdl hs hf hr hQ (Or.inl ⟨hwt,hy⟩) hS h
theorem tkY (i dd:Nat) {oi:Oper} {v:Value} {fuel:Nat} {listed:Array Bool} {a a2:Act} {w:World} (hS:listed.getD d false=false->S w) (h:Zx P md ops Q S d fuel (listed.setIfInBounds i true) a2 w) (hi:ops[i]?=some oi:=by rfl) (hdd:oi.dst=some dd:=by kernel_rfl) (hid:i≠d:=by decide)
  (hs:Region.noSelect ops=true:=by kernel_rfl) (hf:Region.free md ops listed i=true:=by kernel_rfl) (hr:(Region.ready md ops listed).contains i=true:=by kernel_rfl)
  (hQ:∀ c a w,Q (.panic c) (a.put (some dd) v) w->Q (.panic c) a w:=by exact λ _ _ _ h=>h) (hwt:Region.wanted oi (yielded ops a.tmps)=true:=by kernel_rfl)
  (hy:∀ w,True->(execOp a.eval oi).run P w=.ok (.value v) w:=by (intro w hSw;go_simp;try with_reducible rfl)) (ha:a.put (some dd) v=a2:=by (first|(simp only[Act.put,List.setIfInBounds_toArray,List.set_cons_zero,List.set_cons_succ];done)|(simp only[Act.put,List.setIfInBounds_toArray,List.set_cons_zero,List.set_cons_succ];rfl)|rfl)):Zx P md ops Q S d (fuel+1) listed a w:=by
 subst ha;exact Uj hi hdd hid hs hf hr hQ (Or.inl ⟨hwt,hy⟩) hS h
theorem rdK (i:Nat) {o:Oper} {fuel:Nat} {listed:Array Bool} {a:Act} {w:World}
  (h:∀ K':Act->World->Prop,Shut (∀ a w,((listed.setIfInBounds i true).getD d false=false->S w)->Zx P md ops Q S d fuel (listed.setIfInBounds i true) a w->K' a w)->if Region.wanted o (yielded ops a.tmps)=true then Oper.wp P o a w K' Q else K' (a.put o.dst undef) w)
  (hr:Region.ready md ops listed=[i]:=by kernel_rfl) (ho:ops[i]?=some o:=by rfl):Zx P md ops Q S d (fuel+1) listed a w:=Ml hr ho h
theorem goK {fuel:Nat} {listed:Array Bool} {C:Prop} {a a2:Act} {w:World} {K:Act->World->Prop} (hK:Shut (∀ a w,(C->S w)->Zx P md ops Q S d fuel listed a w->K a w)) (hs:C->S w) (h:Zx P md ops Q S d fuel listed a2 w) (ha:a=a2:=by (first|(simp only[Act.put,List.setIfInBounds_toArray,List.set_cons_zero,List.set_cons_succ];done)|(simp only[Act.put,List.setIfInBounds_toArray,List.set_cons_zero,List.set_cons_succ];rfl)|rfl)):K a w:=by
 subst ha;exact hK.out _ _ hs h
end
end
section
abbrev scs (k ln:Int) (nm:Bt) (vx vt ve:Value):Array Value := #[.int .i64 k,.int .i64 ln,.string (st nm),vx,vt,ve]
def Ls (wx:World) (b:Nat) (k ln:Int) (nm:Bt) (vx vt ve:Value):Prop:=wx.heap[b]?=some (.cells (scs k ln nm vx vt ve) 110 (0,0))
section
variable {wx wy:World} {b:Nat} {k ln:Int} {nm:Bt} {vx vt ve:Value}
theorem Ls.lt (h:Ls wx b k ln nm vx vt ve):b<wx.heap.size:=Xv h
theorem Ls.al (h:Ls wx b k ln nm vx vt ve) (o:Obj):Ls (wx.alloc o) b k ln nm vx vt ve:=(Below.heap_alloc wx o b h.lt).trans h
theorem Ls.be (h:Ls wx b k ln nm vx vt ve) (hb:Below wx.heap.size wx wy):Ls wy b k ln nm vx vt ve:=(hb.block b h.lt).trans h
theorem Ls.grw {row:Option Nat} (h:Ls wx b k ln nm vx vt ve) (hg:wx.grownBy wy row) (hn:row≠some b):Ls wy b k ln nm vx vt ve:=(hg.block b h.lt (λ e=>hn e.symm)).trans h
theorem Ls.s1 (h:Ls wx b k ln nm vx vt ve) {p:Addr} {v:Value} (hn:b≠p.block):Ls (wx.setCell p v) b k ln nm vx vt ve:=(heap_setCell_other wx p b v hn).trans h
theorem Ls.s6o {g:Nat} {v0 v1 v2 v3 v4 v5:Value} (h:Ls wx b k ln nm vx vt ve) (hn:b≠g):Ls (set6 wx g v0 v1 v2 v3 v4 v5) b k ln nm vx vt ve:=(Yx b hn).trans h
theorem Ls.sk (h:Ls wx b k ln nm vx vt ve) (k2:Int):Ls (wx.setCell ⟨b,0,none⟩ (.int .i64 k2)) b k2 ln nm vx vt ve:=heap_setCell_same wx b 0 _ _ _ h
theorem Ls.sn (h:Ls wx b k ln nm vx vt ve) (n2:Bt):Ls (wx.setCell ⟨b,2,none⟩ (.string (st n2))) b k ln n2 vx vt ve:=heap_setCell_same wx b 2 _ _ _ h
theorem Ls.sx (h:Ls wx b k ln nm vx vt ve) (v2:Value):Ls (wx.setCell ⟨b,3,none⟩ v2) b k ln nm v2 vt ve:=heap_setCell_same wx b 3 _ _ _ h
theorem Ls.sth (h:Ls wx b k ln nm vx vt ve) (v2:Value):Ls (wx.setCell ⟨b,4,none⟩ v2) b k ln nm vx v2 ve:=heap_setCell_same wx b 4 _ _ _ h
theorem Ls.sel (h:Ls wx b k ln nm vx vt ve) (v2:Value):Ls (wx.setCell ⟨b,5,none⟩ v2) b k ln nm vx vt v2:=heap_setCell_same wx b 5 _ _ _ h
theorem Ls.cells (h:Ls wx b k ln nm vx vt ve):wx.cell? ⟨b,0,none⟩=some (.int .i64 k)/\wx.cell? ⟨b,1,none⟩=some (.int .i64 ln)/\wx.cell? ⟨b,2,none⟩=some (.string (st nm))/\wx.cell? ⟨b,3,none⟩=some vx/\wx.cell? ⟨b,4,none⟩=some vt/\wx.cell? ⟨b,5,none⟩=some ve :=
 ⟨cell_of_row _ b 0 _ _ _ h,cell_of_row _ b 1 _ _ _ h,cell_of_row _ b 2 _ _ _ h,cell_of_row _ b 3 _ _ _ h,cell_of_row _ b 4 _ _ _ h,cell_of_row _ b 5 _ _ _ h⟩
theorem Ls.froz (h:Ls wx b k ln nm vx vt ve):wx.frozen? ⟨b,0,none⟩=false/\wx.frozen? ⟨b,1,none⟩=false/\wx.frozen? ⟨b,2,none⟩=false/\wx.frozen? ⟨b,3,none⟩=false/\wx.frozen? ⟨b,4,none⟩=false/\wx.frozen? ⟨b,5,none⟩=false :=
 ⟨frozen_of_row _ b 0 _ _ h,frozen_of_row _ b 1 _ _ h,frozen_of_row _ b 2 _ _ h,frozen_of_row _ b 3 _ _ h,frozen_of_row _ b 4 _ _ h,frozen_of_row _ b 5 _ _ h⟩
theorem Ls.new (w:World) (k ln:Int) (nm:Bt) (vx vt ve:Value):Ls (w.alloc (.cells (scs k ln nm vx vt ve) 110)) w.heap.size k ln nm vx vt ve:=heap_alloc_new w _
end
abbrev Gd (w:World) (b o:Nat) (v0 v1 v2 v3 v4 v5:Value):World:=(((((w.setCell ⟨b,o,none⟩ v0).setCell ⟨b,o+1,none⟩ v1).setCell ⟨b,o+2,none⟩ v2).setCell ⟨b,o+3,none⟩ v3).setCell ⟨b,o+4,none⟩ v4).setCell ⟨b,o+5,none⟩ v5
theorem Uk {w:World} {b o:Nat} {v0 v1 v2 v3 v4 v5:Value} (k:Nat) (h:k≠b):(Gd w b o v0 v1 v2 v3 v4 v5).heap[k]?=w.heap[k]?:=by
 unfold Gd
 rw[heap_setCell_other _ _ k _ h,heap_setCell_other _ _ k _ h,heap_setCell_other _ _ k _ h,heap_setCell_other _ _ k _ h,heap_setCell_other _ _ k _ h,heap_setCell_other _ _ k _ h]
theorem Sm (w:World) (b o:Nat) (v0 v1 v2 v3 v4 v5:Value):(Gd w b o v0 v1 v2 v3 v4 v5).heap.size=w.heap.size:=by simp[Gd,World.setCell]
theorem Jm {w:World} {b b' o o':Nat} {v0 v1 v2 v3 v4 v5 u:Value} (hne:b≠b') (h:w.cell? ⟨b',o',none⟩=some u):(Gd w b o v0 v1 v2 v3 v4 v5).cell? ⟨b',o',none⟩=some u :=
 (World.cell?_of_block (a:=⟨b',o',none⟩) (Uk b' (λ e=>hne e.symm))).trans h
theorem MS.sO {K:PC} {w wx:World} {at_:Nat} {r:List Tk} (h:MS K w wx at_ r) {b o:Nat} (hb:w.heap.size<=b) (v0 v1 v2 v3 v4 v5:Value):MS K w (Gd wx b o v0 v1 v2 v3 v4 v5) at_ r :=
 (((((h.sc (p:=⟨b,o,none⟩) hb v0).sc (p:=⟨b,o+1,none⟩) hb v1).sc (p:=⟨b,o+2,none⟩) hb v2).sc (p:=⟨b,o+3,none⟩) hb v3).sc (p:=⟨b,o+4,none⟩) hb v4).sc (p:=⟨b,o+5,none⟩) hb v5
theorem Vc {w:World} {base e size n cap g:Nat} {xs:List Value} (h:w.ownsRow base e size (.slice (some ⟨g,0,none⟩) n cap) n xs):g<w.heap.size:=(h.lt g rfl).2
theorem Nu {w:World} {base g n cap:Nat} {xs:List Value} {z0 z1 z2 z3 z4 z5:Value} (h:w.ownsRow base 37 6 (.slice (some ⟨g,0,none⟩) (n+1) cap) (n+1) (xs++[z0,z1,z2,z3,z4,z5])) (hx:xs.length=n*6) (v0 v1 v2 v3 v4 v5:Value) :
  (Gd w g (n*6) v0 v1 v2 v3 v4 v5).ownsRow base 37 6 (.slice (some ⟨g,0,none⟩) (n+1) cap) (n+1) (xs++[v0,v1,v2,v3,v4,v5]):=by
 have e:xs++[v0,v1,v2,v3,v4,v5]=((((((xs++[z0,z1,z2,z3,z4,z5]).set (n*6) v0).set (n*6+1) v1).set (n*6+2) v2).set (n*6+3) v3).set (n*6+4) v4).set (n*6+5) v5:=by
  rw[<- hx]
  simp
 rw[e]
 exact((((((h.stored (n*6) v0).1.stored (n*6+1) v1).1.stored (n*6+2) v2).1.stored (n*6+3) v3).1.stored (n*6+4) v4).1.stored (n*6+5) v5).1
def Dm (K:PC) (wS:World) (gs:Nat) (k ln:Int) (nm:Bt) (vx vt ve:Value) (nn:Nat) (xs:List Value) (rest:List Tk) (w:World) (e:Ending) (w':World):Prop :=
 ∃ (ok:Bool) (at2:Nat) (r:List Tk) (g9 c9:Nat) (h:Hd) (a:Option Addr) (n c:Nat),e=.returned (.bool ok)/\MS K wS w' at2 r/\r.length<=rest.length/\Ls w' gs k ln nm (.slice (some ⟨g9,0,none⟩) (nn+1) c9) vt ve /\
  w'.ownsRow wS.heap.size 37 6 (.slice (some ⟨g9,0,none⟩) (nn+1) c9) (nn+1) (xs++hdc h (.slice a n c))/\(vx.ownBlock=some g9\/w.heap.size<=g9)/\w.heap.size<=w'.heap.size /\
  Xq ((∀ b,b<w.heap.size->b≠K.g->b≠gs->some b≠vx.ownBlock->w'.heap[b]?=w.heap[b]?)/\((ok=true/\∃ ar,Ps .ex rest (.ok (Xh h ar) r)/\Xk w' (λ b=>w.heap.size<=b/\b≠g9) ar (.slice a n c)/\r.length<rest.length)\/(ok=false/\Ps .ex rest (.bad r))))
theorem Kd (K:PC) (wS:World) (at_ gs:Nat) (rest:List Tk) (k ln:Int) (nm:Bt) (vx vt ve:Value) (nn:Nat) (xs:List Value) (w:World) (hM:MS K wS w at_ rest) (hL:Ls w gs k ln nm vx vt ve) (ho:w.ownsRow wS.heap.size 37 6 vx nn xs) (hgs:wS.heap.size<=gs) (hne:vx.ownBlock≠some gs) (hnn:nn<=1) :
  Calls Tryz.prog 192 #[.pointer (some ⟨K.g,0,none⟩),.pointer (some ⟨gs,0,none⟩)] w (Dm K wS gs k ln nm vx vt ve nn xs rest w):=by
 have HM:=Xj hM
 have HL:=Xj hL
 have HO:=Xj ho
 have HGS:=Xj hgs
 have HNE:=Xj hne
 have HNN:=Xj hnn
 clear hM hL ho hgs hne hnn
 go_enter Tryz.func192,Tryz.ntmps192
 go_wp2_with fail
 refine(Hw K at_ rest _ HM.o.pat).mono ?_
 rintro e w2 ⟨h,a,n,c,ok,at2,r,rfl,hp2,hjb,hg2,hI⟩
 have HM3:=Xj ((HM.o.call hp2 hg2).al (.cells (ecs h (.slice a n c)) 37))
 have HL3:=Xj ((HL.o.grw hg2 (by have:=HM.o.gl;have:=HGS.o;intro e;injection e with e;omega)).al (.cells (ecs h (.slice a n c)) 37))
 have HO3:=Xj ((Yz HO.o hg2 HM.o.gl).alloc (.cells (ecs h (.slice a n c)) 37))
 have HX3:=Xj (Lc.new w2 h (.slice a n c))
 have HKP:Xq (w.heap.size<=w2.heap.size/\(∀ b,b<w.heap.size->b≠K.g->(w2.alloc (.cells (ecs h (.slice a n c)) 37)).heap[b]?=w.heap[b]?)/\(w2.alloc (.cells (ecs h (.slice a n c)) 37)).heap.size=w2.heap.size+1):=Xj ⟨hg2.size,λ b hb hn=>(Below.heap_alloc w2 _ b (by have:=hg2.size;omega)).trans (hg2.block b hb (λ e=>by injection e with e;exact hn e)),by simp⟩
 have HRS:Xq (r.length<=rest.length/\((ok=true/\∃ ar,Ps .ex rest (.ok (Xh h ar) r)/\Xk (w2.alloc (.cells (ecs h (.slice a n c)) 37)) (λ b=>w.heap.size<=b/\b<w2.heap.size) ar (.slice a n c)/\r.length<rest.length)\/(ok=false/\Ps .ex rest (.bad r)))):=Xj (by
  refine⟨hjb,?_⟩
  rcases hI.o with⟨h1,ar,h2,h3,h4⟩|hr
  ·exact .inl ⟨h1,ar,h2,Xc (Yl _ (Xc h3 (Q:=λ b=>w.heap.size<=b/\b<w2.heap.size) (λ b hb hlt=>⟨hb,hlt⟩))) (λ b hb _=>hb.1),h4⟩
  exact .inr hr)
 clear hI hp2 hg2 hjb
 go_upto_region 2 with fail
 obtain⟨w3,hw3⟩:∃ W,w2.alloc (.cells (ecs h (.slice a n c)) 37)=W:=⟨_,rfl⟩
 obtain⟨gx,hgx⟩:∃ x,w2.heap.size=x:=⟨_,rfl⟩
 (try rw[show w2.alloc (.cells #[.int .i64 h.k,.int .i64 h.op,.int .i64 h.v,.int .i64 h.ln,.string (st h.nm),.slice a n c] 37)=w3 from hw3])
 rw[hw3,hgx] at HX3 HKP HRS
 rw[hw3] at HM3 HL3 HO3
 (try rw[hgx])
 clear hw3 hgx
 obtain⟨wd,hwd⟩:∃ W,w3.drew=W:=⟨_,rfl⟩
 have HB:=Xj (show Below w3.heap.size w3 wd by rw[<- hwd];exact(Below.refl _ _).drew)
 have HMd:=Xj (HM3.o.be HB.o)
 have HLd:=Xj (HL3.o.be HB.o)
 have HOd:=Xj (HO3.o.kept (Xg HB.o none) (by cases vx.ownBlock with|none=>exact .inl rfl|some k=>exact .inr (by simp)))
 have HXd:=Xj (HX3.o.be HB.o)
 have HNG:Xq (gs≠gx):=Xj (by have:=HL.o.lt;have:=HKP.o.1;omega)
 obtain⟨q0,q1,q2,q3,q4,q5⟩:=HLd.o.cells
 obtain⟨x0,x1,x2,x3,x4,x5⟩:=HXd.o.cells
 obtain⟨av,cv,hyg⟩:∃ a c,vx=.slice a nn c:=by
  rcases HOd.o.2 with⟨e,e2⟩|⟨g9,cap,cur,e,_⟩
  ·exact⟨none,0,by rw[e,e2]⟩
  exact⟨_,_,e⟩
 subst hyg
 refine Jh 12 (λ w'=>w'.cell? ⟨gs,3,none⟩=some (.slice av nn cv)/\w'.cell? ⟨gx,0,none⟩=some (.int .i64 h.k)/\w'.cell? ⟨gx,1,none⟩=some (.int .i64 h.op)/\w'.cell? ⟨gx,2,none⟩=some (.int .i64 h.v)/\w'.cell? ⟨gx,3,none⟩=some (.int .i64 h.ln)/\w'.cell? ⟨gx,4,none⟩=some (.string (st h.nm))/\w'.cell? ⟨gx,5,none⟩=some (.slice a n c)) (by kernel_rfl) (by rw[hwd];exact⟨q3,x0,x1,x2,x3,x4,x5⟩) (λ hJ=>?_)
 rw[hwd] at hJ ⊢
 clear hwd q0 q1 q2 q3 q4 q5 x0 x1 x2 x3 x4 x5
 refine tkK 0 12 ?_
 refine tkK 1 13 ?_
 refine tkK 2 14 ?_
 refine tkK 3 15 ?_
 refine tkK 4 16 ?_
 refine tkK 5 17 ?_
 refine rdK 6 λ K0 hK=>?_
 go_simp
 refine goK hK (λ _=>⟨Xu _ hJ.1,Xu _ hJ.2.1,Xu _ hJ.2.2.1,Xu _ hJ.2.2.2.1,Xu _ hJ.2.2.2.2.1,Xu _ hJ.2.2.2.2.2.1,Xu _ hJ.2.2.2.2.2.2⟩) ?_
 clear hK K0
 have HM5:=Xj (HMd.o.al (.cells #[.int .i64 0,.int .i64 0,.int .i64 0,.int .i64 0,.string { data := #[] },.slice none 0 0] 37))
 have HL5:=Xj (HLd.o.al (.cells #[.int .i64 0,.int .i64 0,.int .i64 0,.int .i64 0,.string { data := #[] },.slice none 0 0] 37))
 have HX5:=Xj (HXd.o.al (.cells #[.int .i64 0,.int .i64 0,.int .i64 0,.int .i64 0,.string { data := #[] },.slice none 0 0] 37))
 have HO5:=Xj (HOd.o.alloc (.cells #[.int .i64 0,.int .i64 0,.int .i64 0,.int .i64 0,.string { data := #[] },.slice none 0 0] 37))
 have hqp:=HMd.o.gr.size
 have hnn:=HNN.o
 obtain⟨i0,hi0,hz0,hz1,hz2⟩:=info_parts Tryz.infoExpr
 have HIF:=Xj hi0
 have HZ0:=Xj hz0
 have HZ1:=Xj hz1
 have HZ2:=Xj hz2
 clear hi0 hz0 hz1 hz2 hJ
 refine rdK 7 λ K0 hK=>?_
 refine step_append_lies _ rfl _ _ _ rfl wS.heap.size 37 i0 _ 6 72 Tryz.underlying35 HIF.o HZ0.o HZ1.o HZ2.o rfl (by omega) (.slice av nn cv) nn xs rfl HO5.o ⟨wd.heap.size,0,none⟩ 1 1 [.int .i64 0,.int .i64 0,.int .i64 0,.int .i64 0,.string { data := #[] },.slice none 0 0] rfl rfl (World.news_of_block (cs := #[.int .i64 0,.int .i64 0,.int .i64 0,.int .i64 0,.string { data := #[] },.slice none 0 0]) (t:=37) (fr:=(0,0)) (heap_alloc_new wd _)) (by simp[Value.oneCell']) (by omega) (by unfold maxLen;omega) (by omega) (by simp;omega) _ rfl ?_
 intro g9 c9 w9 hown9 hgrow9 Ho hlt9
 have HO9:=Xj hown9
 have HG9:=Xj hgrow9
 have HLT:Xq (g9≠gs/\g9≠gx/\wS.heap.size<=g9/\(Value.slice av nn cv).ownBlock≠some gx/\((Value.slice av nn cv).ownBlock=some g9\/w.heap.size<=g9)/\g9≠K.g):=Xj (by
  have h1:=HL.o.lt
  have h2:=HKP.o
  have h3:=HX3.o.lt
  have h4:=HB.o.size
  have h5:=HM.o.gl
  have h6:=HM.o.gr.size
  have h7:(wd.alloc (.cells #[.int .i64 0,.int .i64 0,.int .i64 0,.int .i64 0,.string { data := #[] },.slice none 0 0] 37)).heap.size=wd.heap.size+1:=by simp
  rcases Ho with e|e
  ·have h8:=HO.o.lt g9 e
   refine⟨λ e2=>?_,by omega,h8.1,λ e2=>?_,.inl e,by omega⟩
   ·have:=HNE.o;rw[e,e2] at this;exact this rfl
   rw[e] at e2;injection e2 with e2;omega
  refine⟨by omega,by omega,by omega,λ e2=>?_,.inr (by omega),by omega⟩
  have h8:=HO.o.lt gx e2
  omega)
 have HNEW:Xq ((Value.slice av nn cv).ownBlock=some g9\/gx<g9):=Xj (by
  have h3:=HX3.o.lt
  have h4:=HB.o.size
  have h7:(wd.alloc (.cells #[.int .i64 0,.int .i64 0,.int .i64 0,.int .i64 0,.string { data := #[] },.slice none 0 0] 37)).heap.size=wd.heap.size+1:=by simp
  rcases Ho with e|e
  ·exact .inl e
  exact .inr (by omega))
 have HM9:=Xj (HM5.o.own hgrow9 (λ k2 e=>(HO.o.lt k2 e).1))
 have HL9:=Xj (HL5.o.grw hgrow9 HNE.o)
 have HX9:=Xj (HX5.o.grw hgrow9 HLT.o.2.2.2.1)
 obtain⟨q0,q1,q2,q3,q4,q5⟩:=HL9.o.cells
 obtain⟨x0,x1,x2,x3,x4,x5⟩:=HX9.o.cells
 have hJ:(λ w'=>w'.cell? ⟨gs,3,none⟩=some (.slice av nn cv)/\w'.cell? ⟨gx,0,none⟩=some (.int .i64 h.k)/\w'.cell? ⟨gx,1,none⟩=some (.int .i64 h.op)/\w'.cell? ⟨gx,2,none⟩=some (.int .i64 h.v)/\w'.cell? ⟨gx,3,none⟩=some (.int .i64 h.ln)/\w'.cell? ⟨gx,4,none⟩=some (.string (st h.nm))/\w'.cell? ⟨gx,5,none⟩=some (.slice a n c)) w9:=⟨q3,x0,x1,x2,x3,x4,x5⟩
 change K0 (Act.put _ (some 19) (.slice (some ⟨g9,0,none⟩) (nn+1) c9)) w9
 refine goK hK (λ _=>hJ) ?_
 clear hK K0 hown9 hgrow9 Ho q0 q1 q2 q3 q4 q5 x0 x1 x2 x3 x4 x5
 have hin:(nn:Int)<((nn+1:Nat):Int):=by omega
 have hi0:(0:Int)<=(nn:Int):=by omega
 refine Uj (i:=8) (dd:=some 20) (v:=?_) rfl (by kernel_rfl) (by decide) (by kernel_rfl) (by kernel_rfl) (by kernel_rfl) (λ _ _ _ h=>h) (Or.inl ⟨by kernel_rfl,?_⟩) (λ _=>hJ) ?_
 rotate_left
 ·(intro w hSw;go_simp;try (first|with_reducible rfl|(split<;>first|(exfalso;omega)|with_reducible rfl)))
 refine Xz ?_
 refine Uj (i:=10) (dd:=some 21) (v:=?_) rfl (by kernel_rfl) (by decide) (by kernel_rfl) (by kernel_rfl) (by kernel_rfl) (λ _ _ _ h=>h) (Or.inl ⟨by kernel_rfl,?_⟩) (λ _=>hJ) ?_
 rotate_left
 ·(intro w hSw;go_simp;try (first|with_reducible rfl|(split<;>first|(exfalso;omega)|with_reducible rfl)))
 refine Xz ?_
 refine Uj (i:=11) (dd:=some 22) (v:=?_) rfl (by kernel_rfl) (by decide) (by kernel_rfl) (by kernel_rfl) (by kernel_rfl) (λ _ _ _ h=>h) (Or.inl ⟨by kernel_rfl,?_⟩) (λ _=>hJ) ?_
 rotate_left
 ·(intro w hSw;go_simp;try (first|with_reducible rfl|(split<;>first|(exfalso;omega)|with_reducible rfl)))
 refine Xz ?_
 have HC9:=Xj (Nu (n:=nn) (xs:=xs) HO9.o HO3.o.1 (.int .i64 h.k) (.int .i64 h.op) (.int .i64 h.v) (.int .i64 h.ln) (.string (st h.nm)) (.slice a n c))
 have hco:∀ j,j<6->w9.cell? ⟨g9,nn*6+j,none⟩=[Value.int .i64 0,.int .i64 0,.int .i64 0,.int .i64 0,.string { data := #[] },.slice none 0 0][j]?:=λ j hj=>by
  have h1:=HO9.o.cellAt (nn*6+j) (by omega)
  rw[h1]
  have hx:xs.length=nn*6:=HO3.o.1
  rw[List.getElem?_append_right (by omega),hx,Nat.add_sub_cancel_left]
 have hfo:∀ j,w9.frozen? ⟨g9,j,none⟩=false:=λ j=>HO9.o.frozenAt j
 have e0:w9.cell? ⟨g9,nn*6,none⟩=some (.int .i64 0):=hco 0 (by omega)
 have e1:w9.cell? ⟨g9,nn*6+1,none⟩=some (.int .i64 0):=hco 1 (by omega)
 have e2:w9.cell? ⟨g9,nn*6+2,none⟩=some (.int .i64 0):=hco 2 (by omega)
 have e3:w9.cell? ⟨g9,nn*6+3,none⟩=some (.int .i64 0):=hco 3 (by omega)
 have e4:w9.cell? ⟨g9,nn*6+4,none⟩=some (.string { data := #[] }):=hco 4 (by omega)
 have e5:w9.cell? ⟨g9,nn*6+5,none⟩=some (.slice none 0 0):=hco 5 (by omega)
 have f0:=hfo (nn*6)
 have f1:=hfo (nn*6+1)
 have f2:=hfo (nn*6+2)
 have f3:=hfo (nn*6+3)
 have f4:=hfo (nn*6+4)
 have f5:=hfo (nn*6+5)
 have hlg:g9<w9.heap.size:=Vc HO9.o
 obtain⟨q0,q1,q2,q3,q4,q5⟩:=HL9.o.cells
 obtain⟨g0,g1,g2,g3,g4,g5⟩:=HL9.o.froz
 have hls:=HL9.o.lt
 clear hco hfo
 have hym:Xq (∀ W,MS K wS W at2 r->Ls W gs k ln nm (.slice (some ⟨g9,0,none⟩) (nn+1) c9) vt ve->W.ownsRow wS.heap.size 37 6 (.slice (some ⟨g9,0,none⟩) (nn+1) c9) (nn+1) (xs++hdc h (.slice a n c))->(∀ b,b≠g9->b≠gs->W.heap[b]?=w9.heap[b]?)->W.heap.size=w9.heap.size->Dm K wS gs k ln nm (.slice av nn cv) vt ve nn xs rest w (.returned (.bool ok)) W):=Xj (λ W h1 h2 h3 h4 h5=>by
  have k1:=HL.o.lt
  have k2:=HKP.o
  have k3:=HB.o.size
  have k4:(wd.alloc (.cells #[.int .i64 0,.int .i64 0,.int .i64 0,.int .i64 0,.string { data := #[] },.slice none 0 0] 37)).heap.size=wd.heap.size+1:=by simp
  have k5:=HG9.o.size
  have k6:∀ b,b<w3.heap.size->some b≠(Value.slice av nn cv).ownBlock->w9.heap[b]?=w3.heap[b]?:=λ b hb hn=>(HG9.o.block b (by omega) hn).trans ((Below.heap_alloc wd (.cells #[.int .i64 0,.int .i64 0,.int .i64 0,.int .i64 0,.string { data := #[] },.slice none 0 0] 37) b (by omega)).trans (HB.o.block b hb))
  have k7:=HLT.o
  refine⟨ok,at2,r,g9,c9,h,a,n,c,rfl,h1,HRS.o.1,h2,h3,k7.2.2.2.2.1,by omega,Xj ⟨λ b hb n1 n2 n3=>?_,?_⟩⟩
  ·have n4:b≠g9:=λ e=>by
    rcases k7.2.2.2.2.1 with e2|e2
    ·exact n3 (by rw[e2,e])
    omega
   exact((h4 b n4 n2).trans (k6 b (by omega) n3)).trans (k2.2.1 b hb n1)
  rcases HRS.o.2 with⟨q1,ar,q2,q3,q4⟩|hr
  ·refine .inl ⟨q1,ar,q2,q3.keep (λ b hb hlt=>?_) (by omega),q4⟩
   have n3:some b≠(Value.slice av nn cv).ownBlock:=λ e=>by have:=(HO.o.lt b e.symm).2;omega
   have n4:b≠g9:=λ e=>by
    rcases HNEW.o with e2|e2
    ·exact n3 (by rw[e2,e])
    omega
   exact⟨(h4 b n4 (by omega)).trans (k6 b hlt n3),hb.1,n4⟩
  exact .inr hr)
 refine Mh (i:=9) (j:=12) (by kernel_rfl) rfl rfl (λ K0 hK=>?_) (λ K0 hK=>?_)
 ·go_simp
  refine goK hK (λ _=>⟨Jm HLT.o.1 hJ.1,Jm HLT.o.2.1 hJ.2.1,Jm HLT.o.2.1 hJ.2.2.1,Jm HLT.o.2.1 hJ.2.2.2.1,Jm HLT.o.2.1 hJ.2.2.2.2.1,Jm HLT.o.2.1 hJ.2.2.2.2.2.1,Jm HLT.o.2.1 hJ.2.2.2.2.2.2⟩) ?_
  clear hK K0
  have HLA:=Xj (show Ls (Gd w9 g9 (nn*6) (.int .i64 h.k) (.int .i64 h.op) (.int .i64 h.v) (.int .i64 h.ln) (.string (st h.nm)) (.slice a n c)) gs k ln nm (.slice av nn cv) vt ve from (Uk gs (λ e=>HLT.o.1 e.symm)).trans HL9.o)
  have hjy:Xq (∀ W,W=(Gd w9 g9 (nn*6) (.int .i64 h.k) (.int .i64 h.op) (.int .i64 h.v) (.int .i64 h.ln) (.string (st h.nm)) (.slice a n c)).setCell ⟨gs,3,none⟩ (.slice (some ⟨g9,0,none⟩) (nn+1) c9)->Dm K wS gs k ln nm (.slice av nn cv) vt ve nn xs rest w (.returned (.bool ok)) W):=Xj (λ W hW=>by
   subst hW
   refine hym.o _ ((HM9.o.sO HLT.o.2.2.1 _ _ _ _ _ _).sc (p:=⟨gs,3,none⟩) HGS.o _) (HLA.o.sx _) (HC9.o.kept (Xp _ gs 3 _) (.inr (by show some g9≠some gs;have:=HLT.o.1;simp;exact this))) (λ b n1 n2=>(heap_setCell_other _ _ b _ n2).trans (Uk b n1)) (by simp[World.setCell]))
  obtain⟨p0,p1,p2,p3,p4,p5⟩:=HLA.o.cells
  obtain⟨j0,j1,j2,j3,j4,j5⟩:=HLA.o.froz
  have hlA:=HLA.o.lt
  refine rdK 12 λ K0 hK=>?_
  go_simp
  refine hK.out _ _ (λ h=>absurd h (by decide)) ?_
  clear hK K0
  refine Xz ?_
  refine Qt (by kernel_rfl) ?_ _
  refine Xz ?_
  have hZ:=hjy.o _ rfl
  clear hjy
  go_wp2_with fail
  refine bodyPost_ret (v:=.bool ok) (by simp[results,Tryz.results192,go_sem]) rfl ?_
  exact hZ
 go_simp
 refine hK.out _ _ (λ h=>absurd h (by decide)) ?_
 clear hK K0
 refine Xz ?_
 obtain⟨wq,hwq⟩:∃ W,w9.setCell ⟨gs,3,none⟩ (.slice (some ⟨g9,0,none⟩) (nn+1) c9)=W:=⟨_,rfl⟩
 have hng:∀ b,b≠gs->wq.heap[b]?=w9.heap[b]?:=λ b hb=>by rw[<- hwq];exact heap_setCell_other _ _ b _ hb
 have HMQ:Xq (MS K wS wq at2 r):=Xj (by rw[<- hwq];exact HM9.o.sc (p:=⟨gs,3,none⟩) HGS.o _)
 have HLQ:Xq (Ls wq gs k ln nm (.slice (some ⟨g9,0,none⟩) (nn+1) c9) vt ve):=Xj (by rw[<- hwq];exact HL9.o.sx _)
 have HOQ:Xq (wq.ownsRow wS.heap.size 37 6 (.slice (some ⟨g9,0,none⟩) (nn+1) c9) (nn+1) (xs++[.int .i64 0,.int .i64 0,.int .i64 0,.int .i64 0,.string { data := #[] },.slice none 0 0])):=Xj (by rw[<- hwq];exact HO9.o.kept (Xp _ gs 3 _) (.inr (by show some g9≠some gs;have:=HLT.o.1;simp;exact this)))
 have HSQ:Xq (wq.heap.size=w9.heap.size):=Xj (by rw[<- hwq];simp[World.setCell])
 have HNQ:=Xj hng
 have hne:g9≠gs:=HLT.o.1
 have e0':wq.cell? ⟨g9,nn*6,none⟩=some (.int .i64 0):=(World.cell?_of_block (a:=⟨g9,nn*6,none⟩) (hng g9 hne)).trans e0
 have e1':wq.cell? ⟨g9,nn*6+1,none⟩=some (.int .i64 0):=(World.cell?_of_block (a:=⟨g9,nn*6+1,none⟩) (hng g9 hne)).trans e1
 have e2':wq.cell? ⟨g9,nn*6+2,none⟩=some (.int .i64 0):=(World.cell?_of_block (a:=⟨g9,nn*6+2,none⟩) (hng g9 hne)).trans e2
 have e3':wq.cell? ⟨g9,nn*6+3,none⟩=some (.int .i64 0):=(World.cell?_of_block (a:=⟨g9,nn*6+3,none⟩) (hng g9 hne)).trans e3
 have e4':wq.cell? ⟨g9,nn*6+4,none⟩=some (.string { data := #[] }):=(World.cell?_of_block (a:=⟨g9,nn*6+4,none⟩) (hng g9 hne)).trans e4
 have e5':wq.cell? ⟨g9,nn*6+5,none⟩=some (.slice none 0 0):=(World.cell?_of_block (a:=⟨g9,nn*6+5,none⟩) (hng g9 hne)).trans e5
 have f0':=HOQ.o.frozenAt (nn*6)
 have f1':=HOQ.o.frozenAt (nn*6+1)
 have f2':=HOQ.o.frozenAt (nn*6+2)
 have f3':=HOQ.o.frozenAt (nn*6+3)
 have f4':=HOQ.o.frozenAt (nn*6+4)
 have f5':=HOQ.o.frozenAt (nn*6+5)
 have hlq:g9<wq.heap.size:=Vc HOQ.o
 (try rw[hwq])
 have hjy:Xq (∀ W,W=Gd wq g9 (nn*6) (.int .i64 h.k) (.int .i64 h.op) (.int .i64 h.v) (.int .i64 h.ln) (.string (st h.nm)) (.slice a n c)->Dm K wS gs k ln nm (.slice av nn cv) vt ve nn xs rest w (.returned (.bool ok)) W):=Xj (λ W hW=>by
  subst hW
  exact hym.o _ (HMQ.o.sO HLT.o.2.2.1 _ _ _ _ _ _) ((Uk gs (λ e=>HLT.o.1 e.symm)).trans HLQ.o) (Nu HOQ.o HO3.o.1 _ _ _ _ _ _) (λ b n1 n2=>(Uk b n1).trans (HNQ.o b n2)) (by rw[Sm];exact HSQ.o))
 clear e0 e1 e2 e3 e4 e5 f0 f1 f2 f3 f4 f5 hlg q0 q1 q2 q3 q4 q5 g0 g1 g2 g3 g4 g5 hls hwq hng
 refine rdK 9 λ K0 hK=>?_
 go_simp
 refine hK.out _ _ (λ h=>absurd h (by decide)) ?_
 clear hK K0
 refine Xz ?_
 refine Qt (by kernel_rfl) ?_ _
 refine Xz ?_
 have hZ:=hjy.o _ rfl
 clear hjy
 go_wp2_with fail
 refine bodyPost_ret (v:=.bool ok) (by simp[results,Tryz.results192,go_sem]) rfl ?_
 exact hZ
end
end Go.Proofs.YtldgghnjminhiaaGreatDoor
