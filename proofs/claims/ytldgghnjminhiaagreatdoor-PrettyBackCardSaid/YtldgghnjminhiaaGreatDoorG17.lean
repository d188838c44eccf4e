/-
  WORDS, PLAIN LAWS and WALKS (QsI QsJ QsK QnO PxA), pressed. (Filled in from templates of this repo.)
-/
import Derived.Test.YtldgghnjminhiaaGreatDoorG16
import Derived.Test.YtldgghnjminhiaaGreatDoorG11
import Derived.Test.YtldgghnjminhiaaGreatDoorG15
import Derived.Test.YtldgghnjminhiaaGreatDoorG8
import Derived.Test.YtldgghnjminhiaaGreatDoorG14
namespace Go.Proofs.YtldgghnjminhiaaGreatDoor
open Go Go.ChangeAt Go.ChangeShapes Go.RowKit Go.WideShapes
set_option linter.unusedVariables false
set_option linter.unusedSimpArgs false
set_option maxRecDepth 100000
set_option maxHeartbeats 16000000
theorem LQ.cj {K:PC} {w wr:World} {gR gt gx:Nat} {x0:Tk} {lv:Lv} {C:Fo->List Tk->Prop} {at_:Nat} {bad:Bool} {rest:List Tk} {h:Hd} {a:Option Addr} {n c:Nat} {at2:Nat} {r:List Tk}
  (H:LQ K w gR gx lv C at_ bad rest h a n c false at2 r wr) (T:Lt wr gt x0) (b1:w.heap.size<=gR) (b2:gR<gt) (b3:gt<gx) (hk:kOf r≠0) :
  bad=false/\∃ ar,C (Xb h ar) r/\r.length<rest.length/\CJ K w gR gt gx x0 h (.slice a n c) ar (.slice none 0 0) 0 [] (at2+1) false r.tail (wr.setCell ⟨K.g,1,none⟩ (.int .i64 ((at2:Int)+1))):=by
 have hgl:=H.ms.gl
 rcases H.res with⟨h1,h2,ar,h3,h4,h5⟩|⟨_,h2,_⟩|⟨_,h2,_⟩
 ·refine⟨h1,ar,h3,h5,H.ms.step hk,H.rc.s1 (p:=⟨K.g,1,none⟩) (by show gR≠K.g;omega),T.s1 (p:=⟨K.g,1,none⟩) (by show gt≠K.g;omega),H.xc.s1 (p:=⟨K.g,1,none⟩) (by show gx≠K.g;omega),World.ownsRow_nil _ _ _ _,⟨b1,b2,b3,(λ e=>nomatch e),(λ e=>nomatch e),(λ e=>nomatch e)⟩,?_⟩
  exact Xg (Kn (p:=⟨K.g,1,none⟩) (v:=.int .i64 ((at2:Int)+1)) h4 (λ b hb=>by show b≠K.g;have:=hb.1;omega)) (λ b hb _=>⟨hb,λ e=>nomatch e⟩)
 ·cases h2
 cases h2
def Oc (xs:List Value):Prop:=∀ u∈xs,u.oneCell'=true
theorem Oc.nil:Oc []:=λ u hu=>nomatch hu
theorem Oc.push {xs:List Value} (h:Oc xs) (h2:Hd) (a:Option Addr) (n c:Nat):Oc (xs++hdc h2 (.slice a n c)):=by
 intro u hu
 rcases List.mem_append.1 hu with hu|hu
 ·exact h u hu
 simp only[hdc,List.mem_cons,List.not_mem_nil,or_false] at hu
 rcases hu with rfl|rfl|rfl|rfl|rfl|rfl<;>rfl
def xzy (K:PC) (w:World) (gR gx:Nat) (r0:List Tk) (v:Value) (nn:Nat) (xs:List Value) (bad3:Bool) (r3:List Tk) (wx:World):Prop :=
 (bad3=false/\∃ F,FJ w gR gx v nn xs F wx/\∀ z,Ps (.ag false F) r3 z->Ps (.ag true .nil) r0.tail z)\/(bad3=true/\Ps (.ag true .nil) r0.tail (.bad r3))
theorem Pt (m:Nat) (hE:∀ j,j<m->CQ 49 .ex j) (hPr:CQ 207 .pr m):CQ 203 .ca m:=by
 intro K at_ bad rest w hP hm
 have HM1:=Xj ((RS.init hP).al zex)
 have HR1:=Xj (Lc.zero w)
 have HMm:=Xj hm
 have HE:Xq (∀ (w2:World) (at2:Nat) (r:List Tk),bad=false->RAt w2 K at2 false r->r.length<rest.length->Calls Tryz.prog 49 #[.pointer (some ⟨K.g,0,none⟩)] w2 (EQ K .ex at2 false r w2)):=Xj (λ w2 at2 r hb hp hl=>by subst hb;have h3:rest.length<=m:=hm;exact hE r.length (by omega) K at2 false r w2 hp (Nat.le_refl _))
 have HA:=Xj hPr
 obtain⟨⟨tk,tn,tv,tt⟩,r0,hr0⟩:=hP.en.cons
 have HX0:=Xj hr0
 have HKT:Xq (kOf rest=tk):=Xj (by rw[hr0];rfl)
 clear hE hPr hP hm hr0
 go_enter Tryz.func203,Tryz.ntmps203
 go_upto_region 1 with fail
 obtain⟨w1,hw1⟩:∃ W,w.alloc zex=W:=⟨_,rfl⟩
 obtain⟨gR,hgR⟩:∃ x,w.heap.size=x:=⟨_,rfl⟩
 (try rw[show w.alloc (.cells #[.int .i64 0,.int .i64 0,.int .i64 0,.int .i64 0,.string { data := #[] },.slice none 0 0] 37)=w1 from hw1])
 rw[hw1] at HM1 HR1
 rw[hgR] at HR1
 (try rw[hgR])
 have HGR:=Xj hgR
 clear hw1 hgR
 go_wp2_with fail
 refine(Vm K at_ bad tk tn tv tt r0 w1 (HX0.o▸HM1.o.pat)).mono ?_
 rintro e w2 ⟨rfl,hb2⟩
 have HM3:=Xj ((HM1.o.be hb2).al (.cells #[.int .i64 tk,.int .i64 tn,.int .i64 tv,.string (st tt)] 103))
 have HR3:=Xj ((HR1.o.be hb2).al (.cells #[.int .i64 tk,.int .i64 tn,.int .i64 tv,.string (st tt)] 103))
 have HT3:=Xj (Lt.new w2 ⟨tk,tn,tv,tt⟩)
 have HS3:Xq (gR<w2.heap.size):=Xj (HR1.o.be hb2).lt
 clear hb2 HM1 HR1
 go_upto_region 2 with fail
 obtain⟨w3,hw3⟩:∃ W,w2.alloc (.cells #[.int .i64 tk,.int .i64 tn,.int .i64 tv,.string (st tt)] 103)=W:=⟨_,rfl⟩
 obtain⟨gt,hgt⟩:∃ x,w2.heap.size=x:=⟨_,rfl⟩
 have HT4:Xq (Lt w3 gt ⟨tk,tn,tv,tt⟩):=Xj (by rw[<- hw3,<- hgt];exact HT3.o)
 rw[hw3] at HM3 HR3
 rw[hgt] at HS3
 (try rw[hw3])
 (try rw[hgt])
 clear hw3 hgt HT3
 go_wp2_with fail
 refine(HA.o K at_ bad rest _ HM3.o.pat HMm.o).mono ?_
 rintro e w4 ⟨h,a,n,c,bad2,at2,r,rfl,hp4,hpj,hg4,hyg⟩
 have HL5:Xq (LQ K w gR w4.heap.size .ca (CLc rest) at_ bad rest h a n c bad2 at2 r (w4.alloc (.cells (ecs h (.slice a n c)) 37))/\Lt (w4.alloc (.cells (ecs h (.slice a n c)) 37)) gt ⟨tk,tn,tv,tt⟩/\gt<w4.heap.size):=Xj (by
  have hgl:=HM3.o.gl
  have hs4:=hg4.size
  have hgr:=HGR.o
  have hs3:=HS3.o
  have htl:=HT4.o.lt
  refine⟨⟨(HM3.o.call hp4 hg4).al _,(HR3.o.gr hg4 (by omega)).al _,Lc.new w4 h (.slice a n c),hpj,?_⟩,(HT4.o.gr hg4 (by omega)).al _,by omega⟩
  rcases hyg.o with⟨h1,h1',ar,h2,h3,h4⟩|⟨h1,h1',h2⟩|hr
  ·exact .inl ⟨h1,h1',ar,λ z hz=>Ps.ca_ok h2 (Bool.and_comm _ _) hz,Xg (Yr _ h3) (λ b hb _=>⟨by have:=hb.1;have:=HM3.o.gr.size;omega,by have:=hb.1;omega,hb.2⟩),h4⟩
  ·exact .inr (.inl ⟨h1,h1',Ps.ca_bad h2⟩)
  exact .inr (.inr hr))
 clear hyg hp4 hg4 hpj HT4 HR3 HM3
 go_upto_block 0 with fail
 obtain⟨w5,hw5⟩:∃ W,w4.alloc (.cells (ecs h (.slice a n c)) 37)=W:=⟨_,rfl⟩
 obtain⟨gx,hgx⟩:∃ x,w4.heap.size=x:=⟨_,rfl⟩
 (try rw[show w4.alloc (.cells #[.int .i64 h.k,.int .i64 h.op,.int .i64 h.v,.int .i64 h.ln,.string (st h.nm),.slice a n c] 37)=w5 from hw5])
 rw[hw5,hgx] at HL5
 (try rw[hgx])
 have HGX:Xq (gR<gt/\gt<gx):=Xj ⟨HS3.o,HL5.o.2.2⟩
 have HL6:Xq (LQ K w gR gx .ca (CLc rest) at_ bad rest h a n c bad2 at2 r w5/\Lt w5 gt ⟨tk,tn,tv,tt⟩):=Xj ⟨HL5.o.1,HL5.o.2.1⟩
 clear hw5 hgx HL5 HS3
 go_wp2_with fail
 go_loopw [5,6] (λ _ _ wr=>∃ (h:Hd) (a:Option Addr) (n c:Nat) (bad2:Bool) (at2:Nat) (r:List Tk),Xq (LQ K w gR gx .ca (CLc rest) at_ bad rest h a n c bad2 at2 r wr/\Lt wr gt ⟨tk,tn,tv,tt⟩)) (λ _ _ wr=>K.ts.length-natAt wr K.g)
 case atStart=>exact⟨h,a,n,c,bad2,at2,r,HL6⟩
 rename World=>wa
 obtain⟨h,a,n,c,bad2,at2,r,HL⟩:=hrel
 have hgg:=HL.o.1.ms.gl
 go_wp2_with fail
 refine(Wc K at2 bad2 r [40] _ HL.o.1.ms.pat).mono ?_
 rintro e w6 ⟨rfl,hb6⟩
 have HL6:=Xj (And.intro (HL.o.1.be hb6) (HL.o.2.be hb6))
 clear hb6
 cases hT:(!bad2&&isT [40] r)
 ·have HF:=Xj (HL6.o.1.fin (by have:=HGR.o;omega) (λ hb F hc=>hc _ (Ps.caL_end (by rw[hb] at hT;simpa using hT))))
  (try rw[hT])
  clear hT
  obtain⟨x0,x1,x2,x3,x4,x5⟩:=HL6.o.1.xc.cells
  obtain⟨y0,y1,y2,y3,y4,y5⟩:=HL6.o.1.rc.cells
  obtain⟨g0,g1,g2,g3,g4,g5⟩:=HL6.o.1.rc.froz
  have hlR:=HL6.o.1.rc.lt
  have hlX:=HL6.o.1.xc.lt
  go_wp2_with fail
  obtain⟨wz,hwz⟩:∃ W,set6 w6 gR (.int .i64 h.k) (.int .i64 h.op) (.int .i64 h.v) (.int .i64 h.ln) (.string (st h.nm)) (.slice a n c)=W:=⟨_,rfl⟩
  have hY:=hwz
  unfold set6 at hY
  (try rw[hY])
  rw[hwz] at HF
  obtain⟨d0,d1,d2,d3,d4,d5⟩:=HF.o.2.cells
  refine bodyPost_ret (v:=exv h (.slice a n c)) (by simp[results,Tryz.results203,go_sem,d0,d1,d2,d3,d4,d5]) rfl ?_
  exact HF.o.1
 obtain⟨rfl,hT2⟩:bad2=false/\isT [40] r=true:=by simpa using hT
 have HT:=Xj hT2
 (try rw[hT])
 clear hT hT2
 obtain⟨⟨uk,un,uv,ut⟩,r1,hr1⟩:=HL6.o.1.ms.pat.en.cons
 have HLO:=Xj (Vm K at2 false uk un uv ut r1 w6 (hr1▸HL6.o.1.ms.pat))
 have HLN:Xq (Yb r=un):=Xj (by rw[hr1];rfl)
 have HRT:Xq (r.tail.length<r.length):=Xj (by rw[hr1];simp)
 have hfd:∀ W:World,(Instr.field 103 (.agg #[.int .i64 uk,.int .i64 un,.int .i64 uv,.string (st ut)]) 1).run Tryz.prog W=.ok (.int .i64 un) W:=λ _=>by kernel_rfl
 clear hr1
 go_wp2_with fail
 refine HLO.o.mono ?_
 rintro e w7 ⟨rfl,hb7⟩
 have HL7:=Xj (And.intro (HL6.o.1.be hb7) (HL6.o.2.be hb7))
 obtain⟨rfl,ar,hco,hlt,hcj⟩:=HL7.o.1.cj HL7.o.2 (by have:=HGR.o;omega) HGX.o.1 HGX.o.2 (Qx HT.o).2.2.1
 have HCO:=Xj hco
 have HLT:=Xj hlt
 have HC8:=Xj hcj
 clear hb7 hco hlt hcj HLO
 obtain⟨-,p1,-,f1,-,hlp⟩:=HL7.o.1.ms.pat.cells
 have hw1:=HL7.o.1.ms.w1
 go_upto_region 7 with fail
 obtain⟨w8,hw8⟩:∃ W,w7.setCell ⟨K.g,1,none⟩ (.int .i64 ((at2:Int)+1))=W:=⟨_,rfl⟩
 rw[hw8] at HC8
 (try rw[hw8])
 clear hw8 p1 f1 hlp hw1 HL7 HL6 hfd
 go_wp2_with fail
 refine(Jv K (at2+1) false r.tail [41] _ HC8.o.ms.pat).mono ?_
 rintro e wb ⟨at3,r3,rfl,hp3,hg3,hc3⟩
 have HCB:=Xj (HC8.o.gr hp3 hg3)
 have HC3:=Xj hc3
 clear hp3 hg3 hc3
 obtain⟨b41,hdu⟩:∃ b,(!false&&isT [41] r.tail)=b:=⟨_,rfl⟩
 have hwp:Xq (isT [41] r.tail=b41):=Xj (by simpa using hdu)
 (try rw[hdu])
 (try rw[show isT [41] r.tail=b41 from hwp.o])
 clear hdu
 go_upto_if 25 with fail
 go_cut [6] from 26 to 39 (λ v6 wx=>∃ (a3:Option Addr) (n3 c3:Nat) (xs:List Value) (at3:Nat) (bad3:Bool) (r3:List Tk),v6=.slice a3 n3 c3/\Xq (CJ K w gR gt gx ⟨tk,tn,tv,tt⟩ h (.slice a n c) ar (.slice a3 n3 c3) n3 xs at3 bad3 r3 wx/\xzu K w gR gx r (.slice a3 n3 c3) n3 xs bad3 r3 wx/\n3<=100000/\r3.length<=r.tail.length/\(n3=0->xs=[]/\a3=none/\c3=0)/\Oc xs))
 case first =>
  cases b41
  rotate_left
  ·obtain⟨rfl,rfl⟩:at3=at2+1+1/\r3=r.tail.tail:=by
    rcases HC3.o with⟨_,_,h1,h2⟩|⟨h1,_⟩
    ·exact⟨h1,h2⟩
    have:=hwp.o;rw[this] at h1;simp at h1
   have H41:=hwp
   go_wp2_with fail
   go_meet
   refine⟨none,0,0,[],_,false,_,rfl,Xj ⟨HCB.o,.inl ⟨rfl,.nil,FJ.nil _ _ _ _,Ps.ag_end H41.o,?_⟩,by omega,by simp,λ _=>⟨rfl,rfl,rfl⟩,Oc.nil⟩⟩
   exact Uq (by intro e;have:=H41.o;rw[e] at this;cases this)
  obtain⟨rfl,rfl⟩:at3=at2+1/\r3=r.tail:=by
   rcases HC3.o with⟨_,h1,_⟩|⟨_,h1,h2⟩
   ·have:=hwp.o;rw[this] at h1;cases h1
   exact⟨h1,h2⟩
  have H41:=hwp
  go_wp2_with fail
  refine(HE.o wb (at2+1) r.tail (by first|rfl|trivial) HCB.o.ms.pat (by have:=HRT.o;have:=HLT.o;omega)).mono ?_
  rintro e wc ⟨h2,a2,n2,c2,bad7,at7,r7,rfl,hp7,He,hg7,hI⟩
  have HC7:=Xj (HCB.o.gr hp7 hg7)
  have hvv:=Xj He
  have hqz:Xq ((bad7=false/\∃ ar2,Ps .ex r.tail (.ok (Xb h2 ar2) r7)/\Xk wc (TBj w gR gx (.slice none 0 0)) ar2 (.slice a2 n2 c2))\/(bad7=true/\Ps .ex r.tail (.bad r7))):=Xj (by
   rcases hI.o with⟨_,e1,ar2,e2,e3,e4⟩|⟨_,e1,e2⟩|⟨e1,_⟩
   ·exact .inl ⟨e1,ar2,e2,Xg e3 (λ b hb _=>⟨⟨by have:=HCB.o.ms.gr.size;omega,by have:=HCB.o.rc.lt;omega,by have:=HCB.o.xc.lt;omega⟩,λ e=>nomatch e⟩)⟩
   ·exact .inr ⟨e1,e2⟩
   cases e1)
  clear hI hp7 hg7 He
  obtain⟨i0,hi0,hz0,hz1,hz2⟩:=info_parts Tryz.infoExpr
  have HIF:=Xj hi0
  have HZ0:=Xj hz0
  have HZ1:=Xj hz1
  have HZ2:=Xj hz2
  clear hi0 hz0 hz1 hz2
  have hql:=HC7.o.ms.gr.size
  have HOA:=Xj (HC7.o.own.alloc (.cells (ecs h2 (.slice a2 n2 c2)) 37))
  go_wp2_with (at_builtin;refine wpList_append_lies _ rfl _ _ _ rfl w.heap.size 37 i0 _ 6 72 Tryz.underlying35 HIF.o HZ0.o HZ1.o HZ2.o rfl (by omega) _ _ _ rfl HOA.o ⟨wc.heap.size,0,none⟩ 1 1 (hdc h2 (.slice a2 n2 c2)) rfl rfl (World.news_of_block (cs:=(hdc h2 (.slice a2 n2 c2)).toArray) (t:=37) (fr:=(0,0)) (heap_alloc_new wc _)) (by simp[Value.oneCell']) (by omega) (by unfold maxLen;omega) (by omega) (by simp;omega) _ rfl ?_;intro g9 c9 w9 hown9 hgrow9 hor9 hlt9;have HO9:=Xj hown9;have HG9:=Xj hgrow9;have HR9:=Xj hor9;clear hown9 hgrow9 hor9 hlt9)
  have HC9:=Xj (HC7.o.push HG9.o HR9.o HO9.o)
  have HK9:Xq (0+1<=at7/\r7.length<=r.tail.length/\xzy K w gR gx r (.slice (some ⟨g9,0,none⟩) (0+1) c9) (0+1) ([]++hdc h2 (.slice a2 n2 c2)) bad7 r7 w9):=Xj (by
   refine⟨by have h1:=HC9.o.ms.pat.lt.2;have h2:=HCB.o.ms.pat.lt.2;have h3:=hvv.o;omega,hvv.o,?_⟩
   rcases hqz.o with⟨e1,ar2,e2,e3⟩|⟨e1,e2⟩
   ·exact .inl ⟨e1,Fo.nil.app (Xb h2 ar2),(FJ.nil w gR gx wc).push e3 HG9.o HR9.o,λ z hz=>Ps.ag_first H41.o e2 hz⟩
   exact .inr ⟨e1,Ps.ag_first_bad H41.o e2⟩)
  clear hql hqz HO9 HG9 HR9 HOA
  go_loopw [6] (λ v6 wr=>∃ (a3:Option Addr) (n3 c3:Nat) (xs:List Value) (at3:Nat) (bad3:Bool) (r3:List Tk),v6=.slice a3 n3 c3/\Xq (CJ K w gR gt gx ⟨tk,tn,tv,tt⟩ h (.slice a n c) ar (.slice a3 n3 c3) n3 xs at3 bad3 r3 wr/\0<n3/\n3<=at3/\r3.length<=r.tail.length/\xzy K w gR gx r (.slice a3 n3 c3) n3 xs bad3 r3 wr/\Oc xs)) (λ _ wr=>K.ts.length-natAt wr K.g)
  case atStart=>exact⟨some ⟨g9,0,none⟩,0+1,c9,_,at7,bad7,r7,rfl,Xj ⟨HC9.o,by omega,HK9.o.1,HK9.o.2.1,HK9.o.2.2,Oc.nil.push h2 a2 n2 c2⟩⟩
  rename World=>wl
  obtain⟨a3,n3,c3,xs,at3,bad3,r3,rfl,HI⟩:=hrel
  go_wp2_with fail
  refine(Jv K at3 bad3 r3 [44] _ HI.o.1.ms.pat).mono ?_
  rintro e wm ⟨at4,r4,rfl,hp4,hg4,hc4⟩
  have HC4:=Xj (HI.o.1.gr hp4 hg4)
  have HK4:Xq (xzy K w gR gx r (.slice a3 n3 c3) n3 xs bad3 r3 wm):=Xj (by
   rcases HI.o.2.2.2.2.1 with⟨e1,F,e2,e3⟩|hr
   ·exact .inl ⟨e1,F,e2.gr hg4 HI.o.1.ms.gl,e3⟩
   exact .inr hr)
  clear hp4 hg4
  rcases hc4 with⟨rfl,h44,rfl,rfl⟩|⟨h44,rfl,rfl⟩
  ·have H44:=Xj h44
   (try rw[h44])
   clear h44
   obtain⟨F,hf,hfc⟩:∃ F,FJ w gR gx (.slice a3 n3 c3) n3 xs F wm/\∀ z,Ps (.ag false F) r3 z->Ps (.ag true .nil) r.tail z:=by
    rcases HK4.o with⟨_,h1⟩|⟨h1,_⟩
    ·exact h1
    cases h1
   have HF:=Xj hf
   have HFC:=Xj hfc
   have hbm:Xq (r3.tail.length<r3.length):=Xj (Uq (by intro e;have:=H44.o;rw[e] at this;cases this))
   have HN3:Xq (n3<=100000):=Xj (by have:=HI.o.2.2.1;have:=HI.o.1.ms.pat.lt;have:=HI.o.1.ms.pat.n;omega)
   clear hf hfc
   go_wp2_with fail
   refine(HE.o wm (at3+1) r3.tail (by first|rfl|trivial) HC4.o.ms.pat (by have:=HRT.o;have:=HLT.o;have:=hbm.o;have:=HI.o.2.2.2.1;omega)).mono ?_
   rintro e wc ⟨h2,a2,n2,c2,bad7,at7,r7,rfl,hp7,He,hg7,hI⟩
   have HC7:=Xj (HC4.o.gr hp7 hg7)
   have HF7:=Xj (HF.o.gr hg7 HC4.o.ms.gl)
   have hvv:=Xj He
   have hqz:Xq ((bad7=false/\∃ ar2,Ps .ex r3.tail (.ok (Xb h2 ar2) r7)/\Xk wc (TBj w gR gx (.slice a3 n3 c3)) ar2 (.slice a2 n2 c2))\/(bad7=true/\Ps .ex r3.tail (.bad r7))):=Xj (by
    rcases hI.o with⟨_,e1,ar2,e2,e3,e4⟩|⟨_,e1,e2⟩|⟨e1,_⟩
    ·exact .inl ⟨e1,ar2,e2,Xg e3 (λ b hb _=>⟨⟨by have:=HC4.o.ms.gr.size;omega,by have:=HC4.o.rc.lt;omega,by have:=HC4.o.xc.lt;omega⟩,λ e=>by have:=(HC4.o.own.lt _ e.symm).2;omega⟩)⟩
    ·exact .inr ⟨e1,e2⟩
    cases e1)
   clear hI hp7 hg7 He HF HK4
   have hn3:=HN3.o
   have hql:=HC7.o.ms.gr.size
   have HOA:=Xj (HC7.o.own.alloc (.cells (ecs h2 (.slice a2 n2 c2)) 37))
   go_wp2_with (at_builtin;refine wpList_append_lies _ rfl _ _ _ rfl w.heap.size 37 i0 _ 6 72 Tryz.underlying35 HIF.o HZ0.o HZ1.o HZ2.o rfl (by omega) _ _ _ rfl HOA.o ⟨wc.heap.size,0,none⟩ 1 1 (hdc h2 (.slice a2 n2 c2)) rfl rfl (World.news_of_block (cs:=(hdc h2 (.slice a2 n2 c2)).toArray) (t:=37) (fr:=(0,0)) (heap_alloc_new wc _)) (by simp[Value.oneCell']) (by omega) (by unfold maxLen;omega) (by omega) (by simp;omega) _ rfl ?_;intro g9 c9 w9 hown9 hgrow9 hor9 hlt9;have HO9:=Xj hown9;have HG9:=Xj hgrow9;have HR9:=Xj hor9;clear hown9 hgrow9 hor9 hlt9)
   have HC9:=Xj (HC7.o.push HG9.o HR9.o HO9.o)
   have HM9:Xq (at3<at7/\r7.length<=r.tail.length):=Xj (by have h1:=HC9.o.ms.pat.lt.2;have h2:=HI.o.1.ms.pat.lt.2;have h3:=hvv.o;have h4:=hbm.o;have h5:=HI.o.2.2.2.1;exact⟨by omega,by omega⟩)
   have HK9:Xq (xzy K w gR gx r (.slice (some ⟨g9,0,none⟩) (n3+1) c9) (n3+1) (xs++hdc h2 (.slice a2 n2 c2)) bad7 r7 w9):=Xj (by
    have H41n:=xxu (t:=[41]) H44.o (by decide)
    rcases hqz.o with⟨e1,ar2,e2,e3⟩|⟨e1,e2⟩
    ·exact .inl ⟨e1,F.app (Xb h2 ar2),HF7.o.push e3 HG9.o HR9.o,λ z hz=>HFC.o z (Ps.ag_next H41n H44.o e2 hz)⟩
    exact .inr ⟨e1,HFC.o _ (Ps.ag_next_bad H41n H44.o e2)⟩)
   clear hql hqz HO9 HG9 HR9 HOA hn3
   go_roundw
   case rel=>exact⟨some ⟨g9,0,none⟩,n3+1,c9,_,at7,bad7,r7,rfl,Xj ⟨HC9.o,by omega,by have:=HM9.o.1;have:=HI.o.2.2.1;omega,HM9.o.2,HK9.o,HI.o.2.2.2.2.2.push h2 a2 n2 c2⟩⟩
   have h1:=HC9.o.ms.pat.natAt
   have h2:=HI.o.1.ms.pat.natAt
   have h3:=HC9.o.ms.pat.lt.1
   have h4:=HM9.o.1
   rw[h1,h2]
   omega
  have H44:=Xj h44
  (try rw[h44])
  clear h44
  go_wp2_with fail
  refine(Un K at4 bad3 r4 [41] _ HC4.o.ms.pat).mono ?_
  rintro e wn ⟨at5,bad5,r5,rfl,hp5,hg5,hc5⟩
  have HC5:=Xj (HC4.o.gr hp5 hg5)
  have HN3:Xq (n3<=100000/\0<n3):=Xj (by have:=HI.o.2.1;have:=HI.o.2.2.1;have:=HI.o.1.ms.pat.lt;have:=HI.o.1.ms.pat.n;exact⟨by omega,by omega⟩)
  have HJ5:Xq (r5.length<=r.tail.length/\xzu K w gR gx r (.slice a3 n3 c3) n3 xs bad5 r5 wn):=Xj (by
   have hle:=HI.o.2.2.2.1
   rcases HK4.o with⟨e1,F,e2,e3⟩|⟨e1,e2⟩
   ·rcases hc5 with⟨q1,q2,q3,q4,q5⟩|⟨q1,q2,q4,q5⟩
    ·have hl5:r5.length<r4.length:=by rw[q5];exact Uq (by intro e;rw[e] at q3;cases q3)
     refine⟨by omega,.inl ⟨q2,F,e2.gr hg5 HC4.o.ms.gl,?_,by omega⟩⟩
     rw[q5]
     exact e3 _ (Ps.ag_end q3)
    refine⟨by rw[q5];exact hle,.inr ⟨q2,?_⟩⟩
    rw[q5]
    refine e3 _ (Ps.ag_bad ?_ ?_)
    ·rw[e1] at q1;simpa using q1
    have:=H44.o;rw[e1] at this;simpa using this
   rcases hc5 with⟨q1,q2,q3,q4,q5⟩|⟨q1,q2,q4,q5⟩
   ·rw[q1] at e1;cases e1
   refine⟨by rw[q5];exact hle,.inr ⟨q2,?_⟩⟩
   rw[q5]
   exact e2)
  clear hp5 hg5 hc5 HK4
  go_wp2_with fail
  go_meet
  exact⟨a3,n3,c3,xs,at5,bad5,r5,rfl,Xj ⟨HC5.o,HJ5.o.2,HN3.o.1,HJ5.o.1,λ e=>by have:=HN3.o.2;omega,HI.o.2.2.2.2.2⟩⟩
 case rest =>
 clear HC3 HCB HC8 hwp
 rename World=>wq
 obtain⟨a3,n3,c3,xs,at4,bad4,r4,rfl,HC⟩:=hcut
 have HLE:Xq (r4.length<=rest.length/\r4.length<=r.tail.length):=Xj ⟨by have:=HC.o.2.2.2.1;have:=HRT.o;have:=HLT.o;omega,HC.o.2.2.2.1⟩
 have HMS:Xq (at2<at4):=Xj (by have h1:=HC.o.1.ms.pat.lt.2;have h2:=HL.o.1.ms.pat.lt.2;have h3:=HLE.o.2;have h4:=HRT.o;omega)
 obtain⟨x0,x1,x2,x3,x4,x5⟩:=HC.o.1.xc.cells
 obtain⟨t0,t1,t2,t3⟩:=HC.o.1.tc.cells
 (try dsimp only at t0 t1 t2 t3)
 obtain⟨g0,g1,g2,g3,g4,g5⟩:=HC.o.1.xc.froz
 have hlX:=HC.o.1.xc.lt
 have hlT:=HC.o.1.tc.lt
 have hwg:Xq ((h.k==13&&kOf rest==1)=false->∀ (W w9:World) (g9 c9:Nat),(wq.alloc (.cells #[.int .i64 h.k,.int .i64 h.op,.int .i64 h.v,.int .i64 h.ln,.string (st h.nm),.slice a n c] 37)).grownBy w9 (some wq.heap.size)->(some wq.heap.size=some g9\/g9=(wq.alloc (.cells #[.int .i64 h.k,.int .i64 h.op,.int .i64 h.v,.int .i64 h.ln,.string (st h.nm),.slice a n c] 37)).heap.size)->w9.ownsRow w.heap.size 37 6 (.slice (some ⟨g9,0,none⟩) (1+n3) c9) (1+n3) (hdc h (.slice a n c)++xs) ->
   W=set6 w9 gx (.int .i64 10) (.int .i64 0) (.int .i64 0) (.int .i64 un) (.string { data := #[] }) (.slice (some ⟨g9,0,none⟩) (1+n3) c9)->(LQ K w gR gx .ca (CLc rest) at_ false rest ⟨10,0,0,un,[]⟩ (some ⟨g9,0,none⟩) (1+n3) c9 bad4 at4 r4 W/\Lt W gt ⟨tk,tn,tv,tt⟩)/\Lc w9 gx h (.slice a n c)):=Xj (λ hpl W w9 g9 c9 hg9 hh9 ho9 hW=>by
  subst hW
  have h:=HC.o.1.value (at_:=at_) (bad:=false) (rest:=rest) (r0:=r) (ln:=un) HLE.o.1 HLT.o HC.o.2.1 HT.o HCO.o hpl HLN.o hg9 hh9 ho9
  exact⟨⟨h.1,h.2.1⟩,h.2.2⟩)
 have HVB:Xq (∀ W,W=set6 wq gx (.int .i64 9) (.int .i64 0) (.int .i64 0) (.int .i64 un) (.string (st h.nm)) (.slice a3 n3 c3)->h.k=13->tk=1->LQ K w gR gx .ca (CLc rest) at_ false rest ⟨9,0,0,un,h.nm⟩ a3 n3 c3 bad4 at4 r4 W/\Lt W gt ⟨tk,tn,tv,tt⟩):=Xj (λ W hW h13 hk1=>by
  subst hW
  exact HC.o.1.name (at_:=at_) (bad:=false) (rest:=rest) (r0:=r) (ln:=un) rfl HLE.o.1 HLT.o HC.o.2.1 HT.o HCO.o h13 (by rw[HKT.o];exact hk1) HLN.o)
 by_cases h13:h.k=13/\tk=1
 ·have e13:(h.k==13)=true:=by rw[beq_iff_eq];exact h13.1
  have e1:(tk==1)=true:=by rw[beq_iff_eq];exact h13.2
  have H13:=Xj h13
  clear h13
  go_wp2_with fail
  go_roundw
  case rel=>exact⟨_,a3,n3,c3,bad4,at4,r4,Xj (HVB.o _ rfl H13.o.1 H13.o.2)⟩
  have h1:=(HVB.o _ rfl H13.o.1 H13.o.2).1.ms.pat.natAt
  have h2:=HL.o.1.ms.pat.natAt
  have h3:=HL.o.1.ms.pat.lt.1
  have h4:=HMS.o
  unfold set6 at h1
  rw[h2]
  first|(rw[h1];omega)|(simp at h1;rw[h1];omega)
 have HPL:Xq ((h.k==13&&kOf rest==1)=false):=Xj (by
  rw[HKT.o]
  cases e1:(h.k==13)
  ·rfl
  cases e2:(tk==1)
  ·rfl
  exact absurd ⟨by simpa using e1,by simpa using e2⟩ h13)
 cases e13:(h.k==13)
 ·clear h13
  have hql:=HC.o.1.ms.gr.size
  by_cases hn0:n3=0
  ·obtain⟨hxs,ha3,hc3⟩:=HC.o.2.2.2.2.1 hn0
   subst hn0 hxs ha3 hc3
   go_wp2_with fail
   have HVV:Xq (∀ W,W=(set6 wq gx (.int .i64 10) (.int .i64 0) (.int .i64 0) (.int .i64 un) (.string { data := #[] }) (.slice (some ⟨wq.heap.size,0,none⟩) 1 1)).alloc (.cells #[.int .i64 h.k,.int .i64 h.op,.int .i64 h.v,.int .i64 h.ln,.string (st h.nm),.slice a n c] 37)->LQ K w gR gx .ca (CLc rest) at_ false rest ⟨10,0,0,un,[]⟩ (some ⟨wq.heap.size,0,none⟩) 1 1 bad4 at4 r4 W/\Lt W gt ⟨tk,tn,tv,tt⟩):=Xj (λ W hW=>by
    rw[<- Zx _ HC.o.1.xc.lt] at hW
    exact(hwg.o HPL.o W (wq.alloc (.cells #[.int .i64 h.k,.int .i64 h.op,.int .i64 h.v,.int .i64 h.ln,.string (st h.nm),.slice a n c] 37)) wq.heap.size 1 ⟨rfl,rfl,rfl,Nat.le_refl _,λ _ _ _=>rfl⟩ (.inl rfl) (by rw[List.append_nil];exact⟨by simp[hdc],.inr ⟨wq.heap.size,1,_,rfl,hql,heap_alloc_new wq _,Nat.le_refl _,by simp[maxLen],by simp,by simp[hdc]⟩⟩) hW).1)
   go_roundw
   case rel=>exact⟨⟨10,0,0,un,[]⟩,some ⟨wq.heap.size,0,none⟩,1,1,bad4,at4,r4,Xj (HVV.o _ rfl)⟩
   have h1:=(HVV.o _ rfl).1.ms.pat.natAt
   have h2:=HL.o.1.ms.pat.natAt
   have h3:=HL.o.1.ms.pat.lt.1
   have h4:=HMS.o
   unfold set6 at h1
   rw[h2]
   first|(rw[h1];omega)|(simp at h1 ⊢;rw[h1];omega)
  have HOC:=Xj HC.o.2.2.2.2.2
  have HOA:Xq ((wq.alloc (.cells #[.int .i64 h.k,.int .i64 h.op,.int .i64 h.v,.int .i64 h.ln,.string (st h.nm),.slice a n c] 37)).ownsRow w.heap.size 37 6 (.slice (some ⟨wq.heap.size,0,none⟩) 1 1) 1 (hdc h (.slice a n c))):=Xj ⟨by simp[hdc],.inr ⟨wq.heap.size,1,_,rfl,hql,heap_alloc_new wq _,Nat.le_refl _,by simp[maxLen],by simp,by simp[hdc]⟩⟩
  have HJ:xs.length=n3*6:=HC.o.1.own.1
  obtain⟨g3,c3',hsl,hg3,hg3l,hdb,hdm,hdf,hqx⟩:=Km HC.o.1.own (by intro e;rw[e] at HJ;simp at HJ;omega)
  injection hsl with ha3 _ hcc3
  subst ha3 hcc3
  have hdh:Xq (∀ j u,xs[j]?=some u->(wq.alloc (.cells #[.int .i64 h.k,.int .i64 h.op,.int .i64 h.v,.int .i64 h.ln,.string (st h.nm),.slice a n c] 37)).cell? ((⟨g3,0,none⟩:Addr).add j)=some u):=Xj (λ j u hj=>by rw[Vv];simpa using Xc _ (hqx j u hj))
  have hn3:=HC.o.2.2.1
  clear hqx hdb hdm hdf
  obtain⟨i0,hi0,hz0,hz1,hz2⟩:=info_parts Tryz.infoExpr
  have HIF:=Xj hi0
  have HZ0:=Xj hz0
  have HZ1:=Xj hz1
  have HZ2:=Xj hz2
  clear hi0 hz0 hz1 hz2
  go_wp2_with (at_builtin;refine wpList_append_lies _ rfl _ _ _ rfl w.heap.size 37 i0 _ 6 72 Tryz.underlying35 HIF.o HZ0.o HZ1.o HZ2.o rfl (by omega) _ _ _ rfl HOA.o ⟨g3,0,none⟩ n3 c3 xs rfl HJ hdh.o HOC.o (by omega) (by unfold maxLen;omega) (by omega) (by simp;omega) _ rfl ?_;intro g9 c9 w9 hown9 hgrow9 hor9 hlt9;have HVV:=Xj (λ W hW=>hwg.o HPL.o W w9 g9 c9 hgrow9 hor9 hown9 hW);have HCX:=Xj (hwg.o HPL.o _ w9 g9 c9 hgrow9 hor9 hown9 rfl).2;obtain⟨s0,s1,s2,s3,s4,s5⟩:=HCX.o.cells;obtain⟨f0,f1,f2,f3,f4,f5⟩:=HCX.o.froz;have hlX9:=HCX.o.lt;clear hown9 hgrow9 hor9 hlt9)
  go_roundw
  case rel=>exact⟨_,_,_,_,bad4,at4,r4,Xj (HVV.o _ rfl).1⟩
  have h1:=(HVV.o _ rfl).1.1.ms.pat.natAt
  have h2:=HL.o.1.ms.pat.natAt
  have h3:=HL.o.1.ms.pat.lt.1
  have h4:=HMS.o
  unfold set6 at h1
  rw[h2]
  first|(rw[h1];omega)|(simp at h1;rw[h1];omega)
 cases e1:(tk==1)
 ·clear h13
  have hql:=HC.o.1.ms.gr.size
  by_cases hn0:n3=0
  ·obtain⟨hxs,ha3,hc3⟩:=HC.o.2.2.2.2.1 hn0
   subst hn0 hxs ha3 hc3
   go_wp2_with fail
   have HVV:Xq (∀ W,W=(set6 wq gx (.int .i64 10) (.int .i64 0) (.int .i64 0) (.int .i64 un) (.string { data := #[] }) (.slice (some ⟨wq.heap.size,0,none⟩) 1 1)).alloc (.cells #[.int .i64 h.k,.int .i64 h.op,.int .i64 h.v,.int .i64 h.ln,.string (st h.nm),.slice a n c] 37)->LQ K w gR gx .ca (CLc rest) at_ false rest ⟨10,0,0,un,[]⟩ (some ⟨wq.heap.size,0,none⟩) 1 1 bad4 at4 r4 W/\Lt W gt ⟨tk,tn,tv,tt⟩):=Xj (λ W hW=>by
    rw[<- Zx _ HC.o.1.xc.lt] at hW
    exact(hwg.o HPL.o W (wq.alloc (.cells #[.int .i64 h.k,.int .i64 h.op,.int .i64 h.v,.int .i64 h.ln,.string (st h.nm),.slice a n c] 37)) wq.heap.size 1 ⟨rfl,rfl,rfl,Nat.le_refl _,λ _ _ _=>rfl⟩ (.inl rfl) (by rw[List.append_nil];exact⟨by simp[hdc],.inr ⟨wq.heap.size,1,_,rfl,hql,heap_alloc_new wq _,Nat.le_refl _,by simp[maxLen],by simp,by simp[hdc]⟩⟩) hW).1)
   go_roundw
   case rel=>exact⟨⟨10,0,0,un,[]⟩,some ⟨wq.heap.size,0,none⟩,1,1,bad4,at4,r4,Xj (HVV.o _ rfl)⟩
   have h1:=(HVV.o _ rfl).1.ms.pat.natAt
   have h2:=HL.o.1.ms.pat.natAt
   have h3:=HL.o.1.ms.pat.lt.1
   have h4:=HMS.o
   unfold set6 at h1
   rw[h2]
   first|(rw[h1];omega)|(simp at h1 ⊢;rw[h1];omega)
  have HOC:=Xj HC.o.2.2.2.2.2
  have HOA:Xq ((wq.alloc (.cells #[.int .i64 h.k,.int .i64 h.op,.int .i64 h.v,.int .i64 h.ln,.string (st h.nm),.slice a n c] 37)).ownsRow w.heap.size 37 6 (.slice (some ⟨wq.heap.size,0,none⟩) 1 1) 1 (hdc h (.slice a n c))):=Xj ⟨by simp[hdc],.inr ⟨wq.heap.size,1,_,rfl,hql,heap_alloc_new wq _,Nat.le_refl _,by simp[maxLen],by simp,by simp[hdc]⟩⟩
  have HJ:xs.length=n3*6:=HC.o.1.own.1
  obtain⟨g3,c3',hsl,hg3,hg3l,hdb,hdm,hdf,hqx⟩:=Km HC.o.1.own (by intro e;rw[e] at HJ;simp at HJ;omega)
  injection hsl with ha3 _ hcc3
  subst ha3 hcc3
  have hdh:Xq (∀ j u,xs[j]?=some u->(wq.alloc (.cells #[.int .i64 h.k,.int .i64 h.op,.int .i64 h.v,.int .i64 h.ln,.string (st h.nm),.slice a n c] 37)).cell? ((⟨g3,0,none⟩:Addr).add j)=some u):=Xj (λ j u hj=>by rw[Vv];simpa using Xc _ (hqx j u hj))
  have hn3:=HC.o.2.2.1
  clear hqx hdb hdm hdf
  obtain⟨i0,hi0,hz0,hz1,hz2⟩:=info_parts Tryz.infoExpr
  have HIF:=Xj hi0
  have HZ0:=Xj hz0
  have HZ1:=Xj hz1
  have HZ2:=Xj hz2
  clear hi0 hz0 hz1 hz2
  go_wp2_with (at_builtin;refine wpList_append_lies _ rfl _ _ _ rfl w.heap.size 37 i0 _ 6 72 Tryz.underlying35 HIF.o HZ0.o HZ1.o HZ2.o rfl (by omega) _ _ _ rfl HOA.o ⟨g3,0,none⟩ n3 c3 xs rfl HJ hdh.o HOC.o (by omega) (by unfold maxLen;omega) (by omega) (by simp;omega) _ rfl ?_;intro g9 c9 w9 hown9 hgrow9 hor9 hlt9;have HVV:=Xj (λ W hW=>hwg.o HPL.o W w9 g9 c9 hgrow9 hor9 hown9 hW);have HCX:=Xj (hwg.o HPL.o _ w9 g9 c9 hgrow9 hor9 hown9 rfl).2;obtain⟨s0,s1,s2,s3,s4,s5⟩:=HCX.o.cells;obtain⟨f0,f1,f2,f3,f4,f5⟩:=HCX.o.froz;have hlX9:=HCX.o.lt;clear hown9 hgrow9 hor9 hlt9)
  go_roundw
  case rel=>exact⟨_,_,_,_,bad4,at4,r4,Xj (HVV.o _ rfl).1⟩
  have h1:=(HVV.o _ rfl).1.1.ms.pat.natAt
  have h2:=HL.o.1.ms.pat.natAt
  have h3:=HL.o.1.ms.pat.lt.1
  have h4:=HMS.o
  unfold set6 at h1
  rw[h2]
  first|(rw[h1];omega)|(simp at h1;rw[h1];omega)
 exact absurd ⟨by simpa using e13,by simpa using e1⟩ h13
theorem rall (m:Nat):CQ 198 .un m/\CQ 49 .ex m:=by
 induction m using Nat.strongRecOn with
 | ind m ih =>
  have hE:∀ j,j<m->CQ 49 .ex j:=λ j hj=>(ih j hj).2
  have hU:=Nd m (Pt m hE (Nn m hE)) (λ j hj=>(ih j hj).1)
  exact⟨hU,Fp m (xjc m (Ns m (xjm m (Fb m hU))))⟩
theorem Au (K:PC) (at_:Nat) (rest:List Tk) (w:World) (h:RAt w K at_ false rest):Calls Tryz.prog 49 #[.pointer (some ⟨K.g,0,none⟩)] w (EQ K .ex at_ false rest w) :=
 (rall rest.length).2 K at_ false rest w h (Nat.le_refl _)
theorem RAt.s6 {w:World} {K:PC} {at_:Nat} {bad:Bool} {rest:List Tk} (h:RAt w K at_ bad rest) {b:Nat} (hb:b≠K.g/\∀ x,K.al=some x->x.block≠b) (v0 v1 v2 v3 v4 v5:Value):RAt (set6 w b v0 v1 v2 v3 v4 v5) K at_ bad rest :=
 (((((h.sc1 hb v0).sc1 hb v1).sc1 hb v2).sc1 hb v3).sc1 hb v4).sc1 hb v5
theorem Hq (T:Bt) (hT:T.length<=281474976710656) (w:World):Calls Tryz.prog 15 #[.string (st T)] w (Og T w):=by
 have HR1:=Xj (Lc.zero w)
 have HTl:=Xj hT
 have HB1:=Xj (Xw w zex)
 clear hT
 go_enter Tryz.func15,Tryz.ntmps15
 go_upto_region 1 with fail
 obtain⟨w1,hw1⟩:∃ W,w.alloc zex=W:=⟨_,rfl⟩
 obtain⟨gR,hgR⟩:∃ x,w.heap.size=x:=⟨_,rfl⟩
 (try rw[show w.alloc (.cells #[.int .i64 0,.int .i64 0,.int .i64 0,.int .i64 0,.string { data := #[] },.slice none 0 0] 37)=w1 from hw1])
 rw[hw1] at HR1 HB1
 rw[hgR] at HR1
 (try rw[hgR])
 have HGR:=Xj hgR
 have HS1:Xq (w1.heap.size=gR+1):=Xj (by rw[<- hw1,<- hgR];simp)
 clear hw1 hgR
 go_wp2_with fail
 refine(Br (st T) (by show T.length<=_;exact HTl.o) _).mono ?_
 rintro e w2 ⟨hb2,hp⟩
 have ed:(st T).data.toList=T:=by simp
 rw[ed] at hp
 have HR2:=Xj (HR1.o.be hb2)
 have HB2:=Xj (HB1.o.trans (hb2.mono HB1.o.size))
 have HS2:Xq (gR<w2.heap.size):=Xj (by have:=HS1.o;have:=hb2.size;omega)
 have hqp:∀ (ln er:Int),(∀ W,W=set6 w2 gR (.int .i64 0) (.int .i64 0) (.int .i64 0) (.int .i64 0) (.string { data := #[] }) (.slice none 0 0)->Lc W gR zhd (.slice none 0 0)/\Below w.heap.size w W):=λ _ _ W hW=>by
  subst hW
  exact⟨HR2.o.s6 zhd _,Kk HB2.o (by have:=HGR.o;omega)⟩
 have hjt:=Xj hqp
 clear hqp hb2 ed
 obtain⟨y0,y1,y2,y3,y4,y5⟩:=HR2.o.cells
 obtain⟨g0,g1,g2,g3,g4,g5⟩:=HR2.o.froz
 have hlR:=HR2.o.lt
 rcases hp with⟨hqn,rfl⟩|⟨hle,hsc,rfl⟩|⟨hle,ts,v,hsc,rfl,hjj⟩
 ·have HX:=Xj hqn
  clear hqn
  go_wp2_with fail
  obtain⟨wz,hwz⟩:∃ W,set6 w2 gR (.int .i64 0) (.int .i64 0) (.int .i64 0) (.int .i64 0) (.string { data := #[] }) (.slice none 0 0)=W:=⟨_,rfl⟩
  have hY:=hwz
  unfold set6 at hY
  (try rw[hY])
  obtain⟨hd,hbz⟩:=hjt.o 0 0 wz hwz.symm
  obtain⟨d0,d1,d2,d3,d4,d5⟩:=hd.cells
  refine bodyPost_ret (v:=.tuple #[exv zhd (.slice none 0 0),.int .i64 0,.int .i64 5]) (by simp[results,Tryz.results15,go_sem,d0,d1,d2,d3,d4,d5]) rfl ?_
  exact⟨hbz,.inl ⟨HX.o,rfl⟩⟩
 ·have HX:=Xj (And.intro hle hsc)
  clear hle hsc
  go_wp2_with fail
  obtain⟨wz,hwz⟩:∃ W,set6 w2 gR (.int .i64 0) (.int .i64 0) (.int .i64 0) (.int .i64 0) (.string { data := #[] }) (.slice none 0 0)=W:=⟨_,rfl⟩
  have hY:=hwz
  unfold set6 at hY
  (try rw[hY])
  obtain⟨hd,hbz⟩:=hjt.o 0 0 wz hwz.symm
  obtain⟨d0,d1,d2,d3,d4,d5⟩:=hd.cells
  refine bodyPost_ret (v:=.tuple #[exv zhd (.slice none 0 0),.int .i64 (scan T).2,.int .i64 6]) (by simp[results,Tryz.results15,go_sem,d0,d1,d2,d3,d4,d5]) rfl ?_
  exact⟨hbz,.inr (.inl ⟨HX.o.1,HX.o.2,rfl⟩)⟩
 have hL:=Nf hsc
 obtain⟨al,cl,rfl,_,hc1,hc2,htl,hbl⟩:=Tks.of_own hjj
 have HX:=Xj (And.intro hle hsc)
 have HAL:Xq (∀ x,al=some x->x.block≠gR):=Xj (λ x hx=>by have:=hbl x hx;have:=HS1.o;omega)
 have HP:Xq (∀ W g,W=w2.alloc (.cells #[.slice al ts.length cl,.int .i64 0,.bool false,.int .i64 0] 91)->g=w2.heap.size->RAt W ⟨g,al,cl,ts,0⟩ 0 false ts):=Xj (λ W g hW hg=>by
  subst hW
  subst hg
  exact⟨heap_alloc_new w2 _,htl.below (Xw w2 _),λ x hx=>by obtain⟨b,off,e2,hb,_⟩:=htl 0 (hdT ts) (by obtain⟨x,r,e⟩:=hL.2.cons;rw[e];rfl);rw[e2] at hx;injection hx with hx;subst hx;show b≠w2.heap.size;omega,by simp,hL.2,⟨hc1,hc2⟩,by show ts.length<=100000;have:=hL.1;omega⟩)
 have HR3:=Xj (HR2.o.al (.cells #[.slice al ts.length cl,.int .i64 0,.bool false,.int .i64 0] 91))
 have HB3:=Xj (HB2.o.alloc (by exact HB2.o.size) (.cells #[.slice al ts.length cl,.int .i64 0,.bool false,.int .i64 0] 91))
 clear hL hc1 hc2 htl hbl hle hsc hjj y0 y1 y2 y3 y4 y5 g0 g1 g2 g3 g4 g5 hlR
 go_upto_region 5 with fail
 obtain⟨w3,hw3⟩:∃ W,w2.alloc (.cells #[.slice al ts.length cl,.int .i64 0,.bool false,.int .i64 0] 91)=W:=⟨_,rfl⟩
 obtain⟨g,hg⟩:∃ x,w2.heap.size=x:=⟨_,rfl⟩
 have HP3:=Xj (HP.o w3 g hw3.symm hg.symm)
 (try rw[hw3])
 rw[hw3] at HR3 HB3
 (try rw[hg])
 have HG3:Xq (gR<g):=Xj (by have:=HS2.o;omega)
 clear HP hw3 hg
 go_wp2_with fail
 refine(Au ⟨g,al,cl,ts,0⟩ 0 ts _ HP3.o).mono ?_
 rintro e w4 ⟨h,a,n,c,bad,at2,r,rfl,hp4,hpj,hg4,Ha⟩
 have HP4:=Xj hp4
 have hgl:gR<g:=HG3.o
 have HR4:=Xj (HR3.o.gr hg4 (show gR≠g by omega))
 have HB4:Xq (Below w.heap.size w w4):=Xj (Eg (g:=g) ⟨hg4.os.trans HB3.o.os,hg4.tape.trans HB3.o.tape,hg4.output.trans HB3.o.output,Nat.le_trans HB3.o.size hg4.size,λ k hk hn=>(hg4.block k (by have:=HB3.o.size;omega) hn).trans (HB3.o.block k hk)⟩ (by have:=HGR.o;omega))
 have HSZ:=Xj (And.intro HB3.o.size HGR.o)
 have HS3:Xq (gR<w3.heap.size):=Xj HR3.o.lt
 have HR5:=Xj (HR4.o.s6 h (.slice a n c))
 have hp5:RAt (set6 w4 gR (.int .i64 h.k) (.int .i64 h.op) (.int .i64 h.v) (.int .i64 h.ln) (.string (st h.nm)) (.slice a n c)) ⟨g,al,cl,ts,0⟩ at2 bad r:=hp4.s6 ⟨by show gR≠g;omega,HAL.o⟩ _ _ _ _ _ _
 have HP5:=Xj hp5
 obtain⟨y0,y1,y2,y3,y4,y5⟩:=HR4.o.cells
 obtain⟨g0,g1,g2,g3,g4,g5⟩:=HR4.o.froz
 have hlR:=HR4.o.lt
 have hyu:Xq ((bad=false/\∃ ar,Ps .ex ts (.ok (Xb h ar) r)/\Xk w4 (λ b=>w3.heap.size<=b) ar (.slice a n c))\/(bad=true/\Ps .ex ts (.bad r))):=Xj (by
  rcases Ha.o with⟨_,h1,ar,h2,h3,_⟩|⟨_,h1,h2⟩|⟨h1,_⟩
  ·exact .inl ⟨h1,ar,h2,h3⟩
  ·exact .inr ⟨h1,h2⟩
  cases h1)
 clear hp4 hp5 hpj hg4 Ha HP4 HP3 HR3 HB3
 have HB5:=Xj (Kk (v0:=.int .i64 h.k) (v1:=.int .i64 h.op) (v2:=.int .i64 h.v) (v3:=.int .i64 h.ln) (v4:=.string (st h.nm)) (v5:=.slice a n c) HB4.o (g:=gR) (by have:=HGR.o;omega))
 have HA5:Xq (∀ ar,Xk w4 (λ b=>w3.heap.size<=b) ar (.slice a n c)->Xk (set6 w4 gR (.int .i64 h.k) (.int .i64 h.op) (.int .i64 h.v) (.int .i64 h.ln) (.string (st h.nm)) (.slice a n c)) (λ b=>w.heap.size<=b/\b≠gR) ar (.slice a n c)):=Xj (λ ar ha=>Xg (Yz ha (λ b hb=>by have:=HSZ.o.1;have:=HS3.o;omega)) (λ b hb _=>⟨by have:=HSZ.o.1;omega,by have:=HS3.o;omega⟩))
 go_upto_region 6 with fail
 obtain⟨w5,hw5⟩:∃ W,set6 w4 gR (.int .i64 h.k) (.int .i64 h.op) (.int .i64 h.v) (.int .i64 h.ln) (.string (st h.nm)) (.slice a n c)=W:=⟨_,rfl⟩
 have hdr:=hw5
 unfold set6 at hdr
 (try rw[hdr])
 rw[hw5] at HR5 HP5 HB5 HA5
 clear hw5 hdr y0 y1 y2 y3 y4 y5 g0 g1 g2 g3 g4 g5 hlR HR4 HB4
 go_wp2_with fail
 refine(Lp ⟨g,al,cl,ts,0⟩ at2 bad r _ HP5.o rfl).mono ?_
 rintro e wc ⟨hbc,hdn⟩
 have HBc:=Xj hbc
 have HRc:=Xj (HR5.o.be HBc.o)
 have HBw:=Xj (HB5.o.trans (HBc.o.mono HB5.o.size))
 clear hbc
 rcases hdn with⟨hq,rfl⟩|⟨rfl,hk0,rfl⟩
 ·have HY:Xq (∃ y,Ps .ex ts y/\((∃ F,y=.ok F r/\kOf r≠0)\/y=.bad r)):=Xj (by
   rcases hyu.o with⟨rfl,ar,h1,_⟩|⟨rfl,h1⟩
   ·exact⟨_,h1,.inl ⟨_,rfl,by rcases hq with hq|hq;(cases hq);exact hq⟩⟩
   exact⟨_,h1,.inr rfl⟩)
  clear hq
  obtain⟨y0,y1,y2,y3,y4,y5⟩:=HRc.o.cells
  obtain⟨g0,g1,g2,g3,g4,g5⟩:=HRc.o.froz
  have hlR:=HRc.o.lt
  have HDZ:=Xj (HRc.o.s6 zhd (.slice none 0 0))
  have HBZ:=Xj (Kk (v0:=.int .i64 0) (v1:=.int .i64 0) (v2:=.int .i64 0) (v3:=.int .i64 0) (v4:=.string { data := #[] }) (v5:=.slice none 0 0) HBw.o (g:=gR) (by have:=HGR.o;omega))
  obtain⟨rn,hrn⟩:∃ x,Yb r=x:=⟨_,rfl⟩
  have HRN:=Xj hrn
  (try rw[hrn])
  clear hrn
  go_wp2_with fail
  obtain⟨wz,hwz⟩:∃ W,set6 wc gR (.int .i64 0) (.int .i64 0) (.int .i64 0) (.int .i64 0) (.string { data := #[] }) (.slice none 0 0)=W:=⟨_,rfl⟩
  have hY:=hwz
  unfold set6 at hY
  (try rw[hY])
  have hdz:Lc wz gR zhd (.slice none 0 0):=by rw[<- hwz];exact HDZ.o
  rw[hwz] at HBZ
  obtain⟨d0,d1,d2,d3,d4,d5⟩:=hdz.cells
  refine bodyPost_ret (v:=.tuple #[exv zhd (.slice none 0 0),.int .i64 rn,.int .i64 7]) (by simp[results,Tryz.results15,go_sem,d0,d1,d2,d3,d4,d5]) rfl ?_
  obtain⟨y,hy1,hy2⟩:=HY.o
  exact⟨HBZ.o,.inr (.inr ⟨HX.o.1,ts,y,HX.o.2,Xj ⟨hy1,.inr ⟨r,hy2,by rw[HRN.o]⟩⟩⟩)⟩
 have HK0:=Xj hk0
 obtain⟨ar,hps,har⟩:∃ ar,Ps .ex ts (.ok (Xb h ar) r)/\Xk w4 (λ b=>w3.heap.size<=b) ar (.slice a n c):=by
  rcases hyu.o with⟨_,h1⟩|⟨h1,_⟩
  ·exact h1
  cases h1
 have HPS:=Xj hps
 have HAc:=Xj ((HA5.o ar har).keep (Q:=λ b=>w.heap.size<=b/\b≠gR) (λ b hb hlt=>⟨HBc.o.block b hlt,hb⟩) HBc.o.size)
 clear hps har hk0
 obtain⟨y0,y1,y2,y3,y4,y5⟩:=HRc.o.cells
 obtain⟨g0,g1,g2,g3,g4,g5⟩:=HRc.o.froz
 have hlR:=HRc.o.lt
 have HAZ:=Xj (Yz (v0:=.int .i64 h.k) (v1:=.int .i64 h.op) (v2:=.int .i64 h.v) (v3:=.int .i64 h.ln) (v4:=.string (st h.nm)) (v5:=.slice a n c) HAc.o (λ b hb=>hb.2))
 have HDZ:=Xj (HRc.o.s6 h (.slice a n c))
 have HBZ:=Xj (Kk (v0:=.int .i64 h.k) (v1:=.int .i64 h.op) (v2:=.int .i64 h.v) (v3:=.int .i64 h.ln) (v4:=.string (st h.nm)) (v5:=.slice a n c) HBw.o (g:=gR) (by have:=HGR.o;omega))
 go_wp2_with fail
 obtain⟨wz,hwz⟩:∃ W,set6 wc gR (.int .i64 h.k) (.int .i64 h.op) (.int .i64 h.v) (.int .i64 h.ln) (.string (st h.nm)) (.slice a n c)=W:=⟨_,rfl⟩
 have hY:=hwz
 unfold set6 at hY
 (try rw[hY])
 rw[hwz] at HAZ HDZ HBZ
 obtain⟨d0,d1,d2,d3,d4,d5⟩:=HDZ.o.cells
 refine bodyPost_ret (v:=.tuple #[exv h (.slice a n c),.int .i64 0,.int .i64 0]) (by simp[results,Tryz.results15,go_sem,d0,d1,d2,d3,d4,d5]) rfl ?_
 exact⟨HBZ.o,.inr (.inr ⟨HX.o.1,ts,_,HX.o.2,Xj ⟨HPS.o,.inl ⟨h,ar,r,a,n,c,rfl,HK0.o,Xg HAZ.o (λ b hb _=>hb.1),rfl⟩⟩⟩)⟩
def peT (T:Bt):Option PR:=match (scan T).1 with
 | some ts=>Pn 60 .ex ts
 | none=>none
def okT (T:Bt):Option Fo:=match peT T with
 | some (.ok F r)=>if kOf r=0 then some F else none
 | _=>none
theorem xvh {T:Bt} {w w':World} {e:Ending} {F:Fo} (h:Og T w e w') (hT:T.length<=65536) (hF:okT T=some F) :
  ∃ (h0:Hd) (ar:Fo) (a:Option Addr) (n c:Nat),e=.returned (.tuple #[exv h0 (.slice a n c),.int .i64 0,.int .i64 0])/\F=Xb h0 ar/\Xk w' (λ b=>w.heap.size<=b) ar (.slice a n c):=by
 have hF2:=hF
 unfold okT at hF
 split at hF
 ·rename_i F' r hp
  split at hF
  ·rename_i hk
   injection hF with hF
   subst hF
   have hp2:=hp
   unfold peT at hp
   split at hp
   ·rename_i ts hts
    rcases h.2 with⟨h1,_⟩|⟨_,h1,_⟩|⟨_,ts2,y,h1,h2⟩
    ·omega
    ·rw[hts] at h1;cases h1
    rw[hts] at h1
    injection h1 with h1
    subst h1
    have hy:=h2.o.1.det ⟨60,hp⟩
    subst hy
    rcases h2.o.2 with⟨h0,ar,r2,a,n,c,e1,e2,e3,e4⟩|⟨r2,e1,e2⟩
    ·injection e1 with e1 _
     exact⟨h0,ar,a,n,c,e4,e1,e3⟩
    rcases e1 with⟨F2,e1,e3⟩|e1
    ·injection e1 with _ e1
     subst e1
     exact absurd hk e3
    cases e1
   cases hp
  cases hF
 cases hF
abbrev aw5:Fo:=.cons ⟨1,0,1,1,[]⟩ .nil (.cons ⟨6,5,0,1,[]⟩ (.cons ⟨1,0,2,1,[]⟩ .nil (.cons ⟨1,0,3,1,[]⟩ .nil .nil)) .nil)
theorem Ms:okT [49,43,50,42,51]=some (nd 6 3 0 1 [] aw5):=by kernel_rfl
theorem Ky:Yw ⟨6,3,0,1,[]⟩ aw5=[49,32,43,32,40,50,32,42,32,51,41]:=by kernel_rfl
theorem Bg:(Xb ⟨6,3,0,1,[]⟩ aw5).pr:=by
 refine⟨?_,by decide,⟨?_,by decide,trivial,?_,by decide,⟨?_,by decide,trivial,?_,by decide,trivial,trivial⟩,trivial⟩,trivial⟩<;>(unfold prH;simp[Fo.len])
theorem Rl (w:World) (hw:Lad w):Calls Tryz.prog 9 #[] w λ e w'=>e=.returned (.bool true)/\Below w.heap.size w w':=by
 have HSC:=Xj (Hq [49,43,50,42,51] (by decide) w)
 have HW:=Xj hw
 clear hw
 go_enter Tryz.func9,Tryz.ntmps9
 go_wp2_with fail
 refine HSC.o.mono ?_
 intro e w1 hp
 have hb:=hp.1
 obtain⟨h0,ar,a,n,c,rfl,hF,hA⟩:=xvh hp (by decide) Ms
 obtain⟨rfl,rfl⟩:(⟨6,3,0,1,[]⟩:Hd)=h0/\aw5=ar:=by
  injection hF with h1 h2
  exact⟨h1,h2⟩
 obtain rfl:n=2:=by obtain⟨_,_,_,e,_⟩:=hA;injection e
 have hb2:=Xw w1 (.cells #[.int .i64 6,.int .i64 3,.int .i64 0,.int .i64 1,.string (st []),.slice a 2 c] 37)
 have hr2:=heap_alloc_new w1 (.cells #[.int .i64 6,.int .i64 3,.int .i64 0,.int .i64 1,.string (st []),.slice a 2 c] 37)
 have HA2:=Xj (hA.keep (Q:=λ _=>True) (λ b hb hlt=>⟨hb2.block b hlt,trivial⟩) hb2.size)
 have HB:=Xj (hb.trans (hb2.mono hb.size))
 clear hb hp hA hF
 go_upto_region 2 with fail
 obtain⟨w2,hw2⟩:∃ W,w1.alloc (.cells #[.int .i64 6,.int .i64 3,.int .i64 0,.int .i64 1,.string (st []),.slice a 2 c] 37)=W:=⟨_,rfl⟩
 obtain⟨gx,hgx⟩:∃ x,w1.heap.size=x:=⟨_,rfl⟩
 (try rw[hw2])
 rw[hw2] at hr2 HA2 HB
 rw[hgx] at hr2
 (try rw[hgx])
 clear hw2 hgx hb2
 obtain⟨p0,p1,p2,p3,p4,p5⟩:=Xl hr2
 clear hr2
 go_wp2_with fail
 refine(Bh ⟨6,3,0,1,[]⟩ aw5 Bg (by rw[Ky];decide) (by rw[Ky];decide) _ _ HA2.o (HW.o.below HB.o)).mono ?_
 rintro e w3 ⟨rfl,hb3⟩
 rw[Ky]
 have HB3:=Xj (HB.o.trans (hb3.mono HB.o.size))
 clear hb3
 go_wp2_with fail
 go_ret
 exact⟨rfl,HB3.o⟩
end Go.Proofs.YtldgghnjminhiaaGreatDoor
