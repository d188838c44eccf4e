/-
  WORDS, PLAIN LAWS and WALKS (PsY PsZ), pressed. (Filled in from templates of this repo.)
-/
import Derived.Test.YtldgghnjminhiaaGreatDoorG3
import Derived.OrdersHeld
import Derived.Deep.RegionLaw
namespace Go.Proofs.YtldgghnjminhiaaGreatDoor
open Go Go.ChangeAt Go.ChangeShapes Go.RowKit Go.WideShapes
set_option linter.unusedVariables false
set_option linter.unusedSimpArgs false
set_option maxRecDepth 100000
set_option maxHeartbeats 16000000
theorem Pl (m:Nat) (hA:CE 169 .su m):CE 145 .cm m:=by
 intro K at_ rest w hP hm
 have HM1:=Xj ((MS.init hP).al zex)
 have HR1:=Xj (Lc.zero w)
 have HA:=Xj hA
 have HMm:=Xj hm
 clear hA hP hm
 go_enter Tryz.func145,Tryz.ntmps145
 go_upto_region 1 with fail
 obtain⟨w1,hw1⟩:∃ W,w.alloc zex=W:=⟨_,rfl⟩
 obtain⟨gR,hgR⟩:∃ x,w.heap.size=x:=⟨_,rfl⟩
 (try rw[show w.alloc (.cells #[.int .i64 0,.int .i64 0,.int .i64 0,.int .i64 0,.string { data := #[] },.slice none 0 0] 37)=w1 from hw1])
 rw[hw1] at HM1 HR1
 rw[hgR] at HR1
 (try rw[hgR])
 have HGR:=Xj hgR
 have HS1:Xq (w1.heap.size=gR+1):=Xj (by rw[<- hw1,<- hgR];simp)
 clear hw1 hgR
 go_wp2_with fail
 refine(HA.o K at_ rest _ HM1.o.pat HMm.o).mono ?_
 rintro e w2 ⟨h,a,n,c,ok,at2,r,rfl,hp2,hjb,hg2,hI⟩
 have HM2:=Xj (HM1.o.call hp2 hg2)
 have HR2:=Xj (HR1.o.gr hg2 (by have:=HM1.o.gl;have:=HGR.o;omega))
 have hs2:=hg2.size
 have HM3:=Xj (HM2.o.al (.cells (ecs h (.slice a n c)) 37))
 have HR3:=Xj (HR2.o.al (.cells (ecs h (.slice a n c)) 37))
 have HX3:=Xj (Lc.new w2 h (.slice a n c))
 have H9:Xq ((ok=true/\∃ ar,Ps .su rest (.ok (Xh h ar) r)/\Xk (w2.alloc (.cells (ecs h (.slice a n c)) 37)) (TBk w gR w2.heap.size) ar (.slice a n c)/\r.length<rest.length)\/(ok=false/\Ps .su rest (.bad r))):=Xj (by
  rcases hI.o with⟨h1,ar,h2,h3,h4⟩|⟨h1,h2⟩
  ·exact .inl ⟨h1,ar,h2,Xc (Yl _ h3) (λ b hb _=>⟨by have:=hb.1;have:=HS1.o;have:=HGR.o;omega,by have:=hb.1;have:=HS1.o;omega,hb.2⟩),h4⟩
  exact .inr ⟨h1,h2⟩)
 clear hI hp2 hg2
 go_upto_region 2 with fail
 obtain⟨w3,hw3⟩:∃ W,w2.alloc (.cells (ecs h (.slice a n c)) 37)=W:=⟨_,rfl⟩
 obtain⟨gx,hgx⟩:∃ x,w2.heap.size=x:=⟨_,rfl⟩
 (try rw[show w2.alloc (.cells #[.int .i64 h.k,.int .i64 h.op,.int .i64 h.v,.int .i64 h.ln,.string (st h.nm),.slice a n c] 37)=w3 from hw3])
 rw[hw3] at HM3 HR3 HX3 H9
 rw[hgx] at HX3 H9
 (try rw[hgx])
 have HGX:Xq (gR<gx):=Xj (by have:=HS1.o;omega)
 have HLE:=Xj hjb
 have hgg:=HM3.o.gl
 have hxv:=HGR.o
 have hyx:=HGX.o
 clear hw3 hgx hs2 hjb HM2 HR2 HM1 HR1
 obtain⟨x0,x1,x2,x3,x4,x5⟩:=HX3.o.cells
 obtain⟨y0,y1,y2,y3,y4,y5⟩:=HR3.o.cells
 obtain⟨g0,g1,g2,g3,g4,g5⟩:=HR3.o.froz
 have hlR:=HR3.o.lt
 have hlX:=HX3.o.lt
 cases ok
 ·have HB:Xq (Ps .cm rest (.bad r)):=Xj (by
   rcases H9.o with⟨h1,_⟩|⟨_,h1⟩
   ·cases h1
   exact Ps.cm_bad h1)
  have HRf:=HR3
  have HMf:=HM3
  go_wp2_with fail
  have HDZ:=Xj (HRf.o.s6 h (.slice a n c))
  have HMZ:=Xj (HMf.o.s6 (b:=gR) (by have:=HGR.o;omega) (.int .i64 (Hd.k h)) (.int .i64 (Hd.op h)) (.int .i64 (Hd.v h)) (.int .i64 (Hd.ln h)) (.string (st (Hd.nm h))) (.slice a n c))
  have HEZ:=Xj (show _ from (Or.inr ⟨rfl,HB.o⟩:(false=true/\∃ ar,Ps .cm rest (.ok (Xh h ar) r)/\Xk (set6 w3 gR (.int .i64 (Hd.k h)) (.int .i64 (Hd.op h)) (.int .i64 (Hd.v h)) (.int .i64 (Hd.ln h)) (.string (st (Hd.nm h))) (.slice a n c)) (λ b=>w.heap.size<=b) ar (.slice a n c)/\r.length<rest.length)\/(false=false/\Ps .cm rest (.bad r))))
  obtain⟨wz,hwz⟩:∃ W,set6 w3 gR (.int .i64 (Hd.k h)) (.int .i64 (Hd.op h)) (.int .i64 (Hd.v h)) (.int .i64 (Hd.ln h)) (.string (st (Hd.nm h))) (.slice a n c)=W:=⟨_,rfl⟩
  have hY:=hwz
  unfold set6 at hY
  (try rw[hY])
  rw[hwz] at HDZ HMZ HEZ
  obtain⟨d0,d1,d2,d3,d4,d5⟩:=HDZ.o.cells
  refine bodyPost_ret (v:=.tuple #[exv h (.slice a n c),.bool false]) (by simp[results,Tryz.results145,go_sem,d0,d1,d2,d3,d4,d5]) rfl ?_
  exact⟨h,_,_,_,false,at2,r,rfl,HMZ.o.pat,by exact HLE.o,HMZ.o.gr,Xj HEZ.o⟩
 obtain⟨ar,hps,har,hlt⟩:∃ ar,Ps .su rest (.ok (Xh h ar) r)/\Xk w3 (TBk w gR gx) ar (.slice a n c)/\r.length<rest.length:=by
  rcases H9.o with⟨_,h1⟩|⟨h1,_⟩
  ·exact h1
  cases h1
 have HPS:=Xj hps
 have HAR:=Xj har
 have HLT:=Xj hlt
 have HOP:=Xj (Vx K 8 11 (by omega) at2 r w3 HM3.o.pat)
 clear hps har hlt H9 x0 x1 x2 x3 x4 x5 y0 y1 y2 y3 y4 y5 g0 g1 g2 g3 g4 g5
 go_wp2_with fail
 refine HOP.o.mono ?_
 rintro e w4 ⟨at4,r4,hp4,hg4,hI⟩
 have HM4:=Xj (HM3.o.call hp4 hg4)
 have HR4:=Xj (HR3.o.gr hg4 (by omega))
 have HX4:=Xj (HX3.o.gr hg4 (by omega))
 have hqg:=Xj (Zq HAR.o hg4 (λ b hb=>by have:=hb.1;omega))
 obtain⟨x0,x1,x2,x3,x4,x5⟩:=HX4.o.cells
 obtain⟨y0,y1,y2,y3,y4,y5⟩:=HR4.o.cells
 obtain⟨g0,g1,g2,g3,g4,g5⟩:=HR4.o.froz
 have hyv:=HR4.o.lt
 have hlX4:=HX4.o.lt
 clear hp4 hg4
 rcases hI with⟨hT,rfl,rfl,rfl⟩|⟨hT,rfl,rfl,rfl⟩
 ·have HT:=Xj hT
  obtain⟨op,hop⟩:∃ o,Zr 8 11 r=o:=⟨_,rfl⟩
  obtain⟨tn,htn⟩:∃ o,Yc r=o:=⟨_,rfl⟩
  have HLN:=Xj (And.intro hop htn)
  have HRT:Xq (r.tail.length<r.length):=Xj (Jv (by intro e;rw[e] at hT;exact hT rfl))
  have dop:(op==0)=false:=by rw[beq_eq_false_iff_ne,<- hop];exact hT
  have dop2:(op != 0)=true:=by rw[bne_iff_ne,<- hop];exact hT
  (try rw[hop])
  (try rw[htn])
  clear hT hop htn x0 x1 x2 x3 x4 x5 y0 y1 y2 y3 y4 y5 g0 g1 g2 g3 g4 g5
  go_wp2_with fail
  refine(HA.o K (at2+1) r.tail _ HM4.o.pat (by have:=HRT.o;have:=HLE.o;have:=HMm.o;omega)).mono ?_
  rintro e w7 ⟨h2,a2,n2,c2,ok2,at7,r7,rfl,hp7,HJ,hg7,hR⟩
  have hs7:=hg7.size
  have HM7:=Xj ((HM4.o.call hp7 hg7).al (.cells (ecs h2 (.slice a2 n2 c2)) 37))
  have HR7:=Xj ((HR4.o.gr hg7 (by omega)).al (.cells (ecs h2 (.slice a2 n2 c2)) 37))
  have HX7:=Xj ((HX4.o.gr hg7 (by omega)).al (.cells (ecs h2 (.slice a2 n2 c2)) 37))
  have HY7:=Xj (Lc.new w7 h2 (.slice a2 n2 c2))
  have hzq:=Xj (Xc (Yl (.cells (ecs h2 (.slice a2 n2 c2)) 37) (Zq hqg.o hg7 (λ b hb=>by have:=hb.1;omega))) (λ b hb _=>hb.1))
  have hqz:Xq ((ok2=true/\∃ ar2,Ps .su r.tail (.ok (Xh h2 ar2) r7)/\Xk (w7.alloc (.cells (ecs h2 (.slice a2 n2 c2)) 37)) (TBk w gR gx) ar2 (.slice a2 n2 c2)/\r7.length<r.tail.length)\/(ok2=false/\Ps .su r.tail (.bad r7))):=Xj (by
   rcases hR.o with⟨h1,ar2,h2',h3,h4⟩|hr
   ·exact .inl ⟨h1,ar2,h2',Xc (Yl _ h3) (λ b hb _=>⟨by have:=hb.1;omega,by have:=hb.1;omega,by have:=hb.1;omega⟩),h4⟩
   exact .inr hr)
  clear hR hp7 hg7 HM4 HR4 HX4 hqg
  go_upto_region 7 with fail
  obtain⟨w8,hw8⟩:∃ W,w7.alloc (.cells (ecs h2 (.slice a2 n2 c2)) 37)=W:=⟨_,rfl⟩
  obtain⟨gy,hgy⟩:∃ x,w7.heap.size=x:=⟨_,rfl⟩
  (try rw[show w7.alloc (.cells #[.int .i64 h2.k,.int .i64 h2.op,.int .i64 h2.v,.int .i64 h2.ln,.string (st h2.nm),.slice a2 n2 c2] 37)=w8 from hw8])
  rw[hw8] at HM7 HR7 HX7 HY7 hzq hqz
  rw[hgy] at HY7 hs7
  (try rw[hgy])
  clear hw8 hgy
  obtain⟨q0,q1,q2,q3,q4,q5⟩:=HX7.o.cells
  obtain⟨v0,v1,v2,v3,v4,v5⟩:=HY7.o.cells
  obtain⟨k0,k1,k2,k3,k4,k5⟩:=HR7.o.froz
  obtain⟨u0,u1,u2,u3,u4,u5⟩:=HR7.o.cells
  have hwr:=HX7.o.lt
  have hkj:=HY7.o.lt
  have hmd:=HR7.o.lt
  have hZ:∀ W,W=(set6 w8 gR (.int .i64 6) (.int .i64 op) (.int .i64 0) (.int .i64 tn) (.string { data := #[] }) (.slice (some ⟨w8.heap.size,0,none⟩) 2 2)).alloc (.cells #[.int .i64 h.k,.int .i64 h.op,.int .i64 h.v,.int .i64 h.ln,.string (st h.nm),.slice a n c,.int .i64 h2.k,.int .i64 h2.op,.int .i64 h2.v,.int .i64 h2.ln,.string (st h2.nm),.slice a2 n2 c2] 37) ->
    Lc W gR ⟨6,op,0,tn,[]⟩ (.slice (some ⟨w8.heap.size,0,none⟩) 2 2)/\EP K .cm rest w (.returned (.tuple #[exv ⟨6,op,0,tn,[]⟩ (.slice (some ⟨w8.heap.size,0,none⟩) 2 2),.bool ok2])) W:=λ W hW=>by
   rw[<- Zw _ HR7.o.lt] at hW
   have hA:=HR7.o.al (.cells #[.int .i64 h.k,.int .i64 h.op,.int .i64 h.v,.int .i64 h.ln,.string (st h.nm),.slice a n c,.int .i64 h2.k,.int .i64 h2.op,.int .i64 h2.v,.int .i64 h2.ln,.string (st h2.nm),.slice a2 n2 c2] 37)
   subst hW
   have hms:=(HM7.o.al (.cells #[.int .i64 h.k,.int .i64 h.op,.int .i64 h.v,.int .i64 h.ln,.string (st h.nm),.slice a n c,.int .i64 h2.k,.int .i64 h2.op,.int .i64 h2.v,.int .i64 h2.ln,.string (st h2.nm),.slice a2 n2 c2] 37)).s6 (b:=gR) (by omega) (.int .i64 6) (.int .i64 op) (.int .i64 0) (.int .i64 tn) (.string { data := #[] }) (.slice (some ⟨w8.heap.size,0,none⟩) 2 2)
   refine⟨hA.s6 ⟨6,op,0,tn,[]⟩ (.slice (some ⟨w8.heap.size,0,none⟩) 2 2),⟨6,op,0,tn,[]⟩,_,_,_,ok2,at7,r7,rfl,hms.pat,by have:=HRT.o;have:=HLE.o;omega,hms.gr,Xj ?_⟩
   rcases hqz.o with⟨h1,ar2,h2',h3,h4⟩|⟨h1,h2'⟩
   ·refine .inl ⟨h1,(Xh h ar).app (Xh h2 ar2),?_,?_,by have:=HRT.o;have:=HLT.o;omega⟩
    ·have:=Ps.cm_two HPS.o HT.o h2'
     rw[HLN.o.1,HLN.o.2] at this
     exact this
    exact Xc (Yv (Ur (Q:=TBk w gR gx) hzq.o h3 (λ b hb _=>hb) ⟨by have:=HM7.o.gr.size;omega,by have:=HR7.o.lt;omega,by have:=HX7.o.lt;omega⟩) (λ b hb=>hb.2.1)) (λ b hb _=>hb.1)
   exact .inr ⟨h1,Ps.cm_two_bad HPS.o HT.o h2'⟩
  have hjy:=Xj hZ
  clear hZ
  go_wp2_with fail
  obtain⟨wz,hwz⟩:∃ W,(set6 w8 gR (.int .i64 6) (.int .i64 op) (.int .i64 0) (.int .i64 tn) (.string { data := #[] }) (.slice (some ⟨w8.heap.size,0,none⟩) 2 2)).alloc (.cells #[.int .i64 h.k,.int .i64 h.op,.int .i64 h.v,.int .i64 h.ln,.string (st h.nm),.slice a n c,.int .i64 h2.k,.int .i64 h2.op,.int .i64 h2.v,.int .i64 h2.ln,.string (st h2.nm),.slice a2 n2 c2] 37)=W:=⟨_,rfl⟩
  have hY:=hwz
  unfold set6 at hY
  (try rw[hY])
  obtain⟨hd,hep⟩:=hjy.o wz hwz.symm
  obtain⟨d0,d1,d2,d3,d4,d5⟩:=hd.cells
  refine bodyPost_ret (v:=.tuple #[exv ⟨6,op,0,tn,[]⟩ (.slice (some ⟨w8.heap.size,0,none⟩) 2 2),.bool ok2]) (by simp[results,Tryz.results145,go_sem,d0,d1,d2,d3,d4,d5]) rfl ?_
  exact hep
 have HZ:Xq (Ps .cm rest (.ok (Xh h ar) r4)):=Xj (Ps.cm_end HPS.o hT)
 have HRf:=HR4
 have HMf:=HM4
 clear hT
 go_wp2_with fail
 have HDZ:=Xj (HRf.o.s6 h (.slice a n c))
 have HMZ:=Xj (HMf.o.s6 (b:=gR) (by have:=HGR.o;omega) (.int .i64 (Hd.k h)) (.int .i64 (Hd.op h)) (.int .i64 (Hd.v h)) (.int .i64 (Hd.ln h)) (.string (st (Hd.nm h))) (.slice a n c))
 have HEZ:=Xj (Xc (Yv (v0:=.int .i64 (Hd.k h)) (v1:=.int .i64 (Hd.op h)) (v2:=.int .i64 (Hd.v h)) (v3:=.int .i64 (Hd.ln h)) (v4:=.string (st (Hd.nm h))) (v5:=.slice a n c) hqg.o (λ b hb=>hb.2.1)) (Q:=λ b=>w.heap.size<=b) (λ b hb _=>hb.1))
 obtain⟨wz,hwz⟩:∃ W,set6 w4 gR (.int .i64 (Hd.k h)) (.int .i64 (Hd.op h)) (.int .i64 (Hd.v h)) (.int .i64 (Hd.ln h)) (.string (st (Hd.nm h))) (.slice a n c)=W:=⟨_,rfl⟩
 have hY:=hwz
 unfold set6 at hY
 (try rw[hY])
 rw[hwz] at HDZ HMZ HEZ
 obtain⟨d0,d1,d2,d3,d4,d5⟩:=HDZ.o.cells
 refine bodyPost_ret (v:=.tuple #[exv h (.slice a n c),.bool true]) (by simp[results,Tryz.results145,go_sem,d0,d1,d2,d3,d4,d5]) rfl ?_
 exact⟨h,_,_,_,true,at4,r4,rfl,HMZ.o.pat,HLE.o,HMZ.o.gr,Xj (.inl ⟨rfl,ar,HZ.o,HEZ.o,HLT.o⟩)⟩
theorem Mr (m:Nat) (hC:CE 206 .ca m) (hU:∀ j,j<m->CE 202 .un j):CE 202 .un m:=by
 intro K at_ rest w hP hm
 have HM1:=Xj ((MS.init hP).al zex)
 have HR1:=Xj (Lc.zero w)
 have HC:=Xj hC
 have HMm:=Xj hm
 have HU:Xq (∀ (w2:World),PAt w2 K (at_+1) rest.tail->rest.tail.length<m->Calls Tryz.prog 202 #[.pointer (some ⟨K.g,0,none⟩)] w2 (EP K .un rest.tail w2)):=Xj (λ w2 hp hl=>hU _ hl K (at_+1) rest.tail w2 hp (Nat.le_refl _))
 obtain⟨⟨tk,tn,tv,tt⟩,r0,hr0⟩:=hP.en.cons
 have HRT:Xq (rest.tail.length<rest.length):=Xj (by rw[hr0];simp)
 have HLN:Xq (Yc rest=tn):=Xj (by rw[hr0];rfl)
 have HX0:=Xj hr0
 clear hC hU hP hm hr0
 go_enter Tryz.func202,Tryz.ntmps202
 go_upto_region 1 with fail
 obtain⟨w1,hw1⟩:∃ W,w.alloc zex=W:=⟨_,rfl⟩
 obtain⟨gR,hgR⟩:∃ x,w.heap.size=x:=⟨_,rfl⟩
 (try rw[show w.alloc (.cells #[.int .i64 0,.int .i64 0,.int .i64 0,.int .i64 0,.string { data := #[] },.slice none 0 0] 37)=w1 from hw1])
 rw[hw1] at HM1 HR1
 rw[hgR] at HR1
 (try rw[hgR])
 have HGR:=Xj hgR
 have HS1:Xq (w1.heap.size=gR+1):=Xj (by rw[<- hw1,<- hgR];simp)
 clear hw1 hgR
 have HLO:=Xj (Zb K at_ tk tn tv tt r0 w1 (HX0.o▸HM1.o.pat))
 have hfd:∀ W:World,(Instr.field 103 (.agg #[.int .i64 tk,.int .i64 tn,.int .i64 tv,.string (st tt)]) 1).run Tryz.prog W=.ok (.int .i64 tn) W:=λ _=>by kernel_rfl
 go_wp2_with fail
 refine HLO.o.mono ?_
 rintro e w2 ⟨rfl,hb2⟩
 have HM2:=Xj (HM1.o.be hb2)
 have HR2:=Xj (HR1.o.be hb2)
 clear hb2 HM1 HR1
 go_wp2_with fail
 refine(Yj K at_ rest [45] _ HM2.o.pat).mono ?_
 rintro e w3 ⟨at3,r3,rfl,hp3,hg3,hc3⟩
 have HM3:=Xj (HM2.o.call hp3 hg3)
 have HR3:=Xj (HR2.o.gr hg3 (by have:=HM2.o.gl;have:=HGR.o;omega))
 clear hp3 hg3 HM2 HR2
 rcases hc3 with⟨hT,rfl,rfl⟩|⟨hT,rfl,rfl⟩
 ·have HT:=Xj hT
  rw[hT]
  clear hT
  have hxu:=HM3
  have hyw:=HR3
  have hU:=HU.o
  go_wp2_with fail
  refine(hU _ hxu.o.pat (by have:=HRT.o;have:=HMm.o;omega)).mono ?_
  rintro e w7 ⟨h,a,n,c,ok,at7,r7,rfl,hp7,HJ,hg7,hR⟩
  have hs7:=hg7.size
  have hgl:=hxu.o.gl
  have hwb:=hxu.o.gr.size
  have HM7:=Xj ((hxu.o.call hp7 hg7).al (.cells (ecs h (.slice a n c)) 37))
  have HR7:=Xj ((hyw.o.gr hg7 (by have:=HGR.o;omega)).al (.cells (ecs h (.slice a n c)) 37))
  have HY7:=Xj (Lc.new w7 h (.slice a n c))
  have HWB:Xq (gR<w3.heap.size):=Xj hyw.o.lt
  have hqz:Xq ((ok=true/\∃ ar,Ps .un rest.tail (.ok (Xh h ar) r7)/\Xk (w7.alloc (.cells (ecs h (.slice a n c)) 37)) (TBk w gR w7.heap.size) ar (.slice a n c)/\r7.length<rest.tail.length)\/(ok=false/\Ps .un rest.tail (.bad r7))):=Xj (by
   rcases hR.o with⟨h1,ar2,h2',h3,h4⟩|hr
   ·exact .inl ⟨h1,ar2,h2',Xc (Yl _ h3) (λ b hb _=>⟨by have:=hb.1;omega,by have:=hb.1;have:=HWB.o;omega,hb.2⟩),h4⟩
   exact .inr hr)
  clear hR hp7 hg7
  go_upto_region 8 with fail
  obtain⟨w8,hw8⟩:∃ W,w7.alloc (.cells (ecs h (.slice a n c)) 37)=W:=⟨_,rfl⟩
  obtain⟨gx,hgx⟩:∃ x,w7.heap.size=x:=⟨_,rfl⟩
  (try rw[show w7.alloc (.cells #[.int .i64 h.k,.int .i64 h.op,.int .i64 h.v,.int .i64 h.ln,.string (st h.nm),.slice a n c] 37)=w8 from hw8])
  rw[hw8] at HM7 HR7 HY7 hqz
  rw[hgx] at HY7 hqz hs7
  (try rw[hgx])
  clear hw8 hgx
  obtain⟨v0,v1,v2,v3,v4,v5⟩:=HY7.o.cells
  obtain⟨k0,k1,k2,k3,k4,k5⟩:=HR7.o.froz
  obtain⟨u0,u1,u2,u3,u4,u5⟩:=HR7.o.cells
  have hkj:=HY7.o.lt
  have hmd:=HR7.o.lt
  have hxv:=HGR.o
  have hZ:∀ W,W=(set6 w8 gR (.int .i64 5) (.int .i64 1) (.int .i64 0) (.int .i64 tn) (.string { data := #[] }) (.slice (some ⟨w8.heap.size,0,none⟩) 1 1)).alloc (.cells #[.int .i64 h.k,.int .i64 h.op,.int .i64 h.v,.int .i64 h.ln,.string (st h.nm),.slice a n c] 37) ->
    Lc W gR ⟨5,1,0,tn,[]⟩ (.slice (some ⟨w8.heap.size,0,none⟩) 1 1)/\EP K .un rest w (.returned (.tuple #[exv ⟨5,1,0,tn,[]⟩ (.slice (some ⟨w8.heap.size,0,none⟩) 1 1),.bool ok])) W:=λ W hW=>by
   rw[<- Zw _ HR7.o.lt] at hW
   have hA:=HR7.o.al (.cells #[.int .i64 h.k,.int .i64 h.op,.int .i64 h.v,.int .i64 h.ln,.string (st h.nm),.slice a n c] 37)
   subst hW
   have hms:=(HM7.o.al (.cells #[.int .i64 h.k,.int .i64 h.op,.int .i64 h.v,.int .i64 h.ln,.string (st h.nm),.slice a n c] 37)).s6 (b:=gR) (by omega) (.int .i64 5) (.int .i64 1) (.int .i64 0) (.int .i64 tn) (.string { data := #[] }) (.slice (some ⟨w8.heap.size,0,none⟩) 1 1)
   refine⟨hA.s6 ⟨5,1,0,tn,[]⟩ (.slice (some ⟨w8.heap.size,0,none⟩) 1 1),⟨5,1,0,tn,[]⟩,_,_,_,ok,at7,r7,rfl,hms.pat,by have:=HRT.o;omega,hms.gr,Xj ?_⟩
   rcases hqz.o with⟨h1,ar,h2,h3,h4⟩|⟨h1,h2⟩
   ·refine .inl ⟨h1,Xh h ar,?_,?_,by have:=HRT.o;omega⟩
    ·have:=Ps.un_neg HT.o h2
     rw[HLN.o] at this
     exact this
    exact Xc (Yv (Ub (Q:=TBk w gR gx) h3 (λ b hb _=>hb) ⟨by have:=HM7.o.gr.size;omega,by have:=HR7.o.lt;omega,by have:=HY7.o.lt;omega⟩) (λ b hb=>hb.2.1)) (λ b hb _=>hb.1)
   exact .inr ⟨h1,Ps.un_neg_bad HT.o h2⟩
  have hjy:=Xj hZ
  clear hZ
  go_wp2_with fail
  obtain⟨wz,hwz⟩:∃ W,(set6 w8 gR (.int .i64 5) (.int .i64 1) (.int .i64 0) (.int .i64 tn) (.string { data := #[] }) (.slice (some ⟨w8.heap.size,0,none⟩) 1 1)).alloc (.cells #[.int .i64 h.k,.int .i64 h.op,.int .i64 h.v,.int .i64 h.ln,.string (st h.nm),.slice a n c] 37)=W:=⟨_,rfl⟩
  have hY:=hwz
  unfold set6 at hY
  (try rw[hY])
  obtain⟨hd,hep⟩:=hjy.o wz hwz.symm
  obtain⟨d0,d1,d2,d3,d4,d5⟩:=hd.cells
  refine bodyPost_ret (v:=.tuple #[exv ⟨5,1,0,tn,[]⟩ (.slice (some ⟨w8.heap.size,0,none⟩) 1 1),.bool ok]) (by simp[results,Tryz.results202,go_sem,d0,d1,d2,d3,d4,d5]) rfl ?_
  exact hep
 have HN0:=Xj hT
 rw[hT]
 clear hT
 go_wp2_with fail
 refine(Yj K at3 r3 [33] _ HM3.o.pat).mono ?_
 rintro e w4 ⟨at4,r4,rfl,hp4,hg4,hc4⟩
 have HM4:=Xj (HM3.o.call hp4 hg4)
 have HR4:=Xj (HR3.o.gr hg4 (by have:=HM3.o.gl;have:=HGR.o;omega))
 clear hp4 hg4 HM3 HR3
 rcases hc4 with⟨hT,rfl,rfl⟩|⟨hT,rfl,rfl⟩
 ·have HT:=Xj hT
  rw[hT]
  clear hT
  have hxu:=HM4
  have hyw:=HR4
  have hU:=HU.o
  go_wp2_with fail
  refine(hU _ hxu.o.pat (by have:=HRT.o;have:=HMm.o;omega)).mono ?_
  rintro e w7 ⟨h,a,n,c,ok,at7,r7,rfl,hp7,HJ,hg7,hR⟩
  have hs7:=hg7.size
  have hgl:=hxu.o.gl
  have hwb:=hxu.o.gr.size
  have HM7:=Xj ((hxu.o.call hp7 hg7).al (.cells (ecs h (.slice a n c)) 37))
  have HR7:=Xj ((hyw.o.gr hg7 (by have:=HGR.o;omega)).al (.cells (ecs h (.slice a n c)) 37))
  have HY7:=Xj (Lc.new w7 h (.slice a n c))
  have HWB:Xq (gR<w4.heap.size):=Xj hyw.o.lt
  have hqz:Xq ((ok=true/\∃ ar,Ps .un r3.tail (.ok (Xh h ar) r7)/\Xk (w7.alloc (.cells (ecs h (.slice a n c)) 37)) (TBk w gR w7.heap.size) ar (.slice a n c)/\r7.length<r3.tail.length)\/(ok=false/\Ps .un r3.tail (.bad r7))):=Xj (by
   rcases hR.o with⟨h1,ar2,h2',h3,h4⟩|hr
   ·exact .inl ⟨h1,ar2,h2',Xc (Yl _ h3) (λ b hb _=>⟨by have:=hb.1;omega,by have:=hb.1;have:=HWB.o;omega,hb.2⟩),h4⟩
   exact .inr hr)
  clear hR hp7 hg7
  go_upto_region 8 with fail
  obtain⟨w8,hw8⟩:∃ W,w7.alloc (.cells (ecs h (.slice a n c)) 37)=W:=⟨_,rfl⟩
  obtain⟨gx,hgx⟩:∃ x,w7.heap.size=x:=⟨_,rfl⟩
  (try rw[show w7.alloc (.cells #[.int .i64 h.k,.int .i64 h.op,.int .i64 h.v,.int .i64 h.ln,.string (st h.nm),.slice a n c] 37)=w8 from hw8])
  rw[hw8] at HM7 HR7 HY7 hqz
  rw[hgx] at HY7 hqz hs7
  (try rw[hgx])
  clear hw8 hgx
  obtain⟨v0,v1,v2,v3,v4,v5⟩:=HY7.o.cells
  obtain⟨k0,k1,k2,k3,k4,k5⟩:=HR7.o.froz
  obtain⟨u0,u1,u2,u3,u4,u5⟩:=HR7.o.cells
  have hkj:=HY7.o.lt
  have hmd:=HR7.o.lt
  have hxv:=HGR.o
  have hZ:∀ W,W=(set6 w8 gR (.int .i64 5) (.int .i64 2) (.int .i64 0) (.int .i64 tn) (.string { data := #[] }) (.slice (some ⟨w8.heap.size,0,none⟩) 1 1)).alloc (.cells #[.int .i64 h.k,.int .i64 h.op,.int .i64 h.v,.int .i64 h.ln,.string (st h.nm),.slice a n c] 37) ->
    Lc W gR ⟨5,2,0,tn,[]⟩ (.slice (some ⟨w8.heap.size,0,none⟩) 1 1)/\EP K .un r3 w (.returned (.tuple #[exv ⟨5,2,0,tn,[]⟩ (.slice (some ⟨w8.heap.size,0,none⟩) 1 1),.bool ok])) W:=λ W hW=>by
   rw[<- Zw _ HR7.o.lt] at hW
   have hA:=HR7.o.al (.cells #[.int .i64 h.k,.int .i64 h.op,.int .i64 h.v,.int .i64 h.ln,.string (st h.nm),.slice a n c] 37)
   subst hW
   have hms:=(HM7.o.al (.cells #[.int .i64 h.k,.int .i64 h.op,.int .i64 h.v,.int .i64 h.ln,.string (st h.nm),.slice a n c] 37)).s6 (b:=gR) (by omega) (.int .i64 5) (.int .i64 2) (.int .i64 0) (.int .i64 tn) (.string { data := #[] }) (.slice (some ⟨w8.heap.size,0,none⟩) 1 1)
   refine⟨hA.s6 ⟨5,2,0,tn,[]⟩ (.slice (some ⟨w8.heap.size,0,none⟩) 1 1),⟨5,2,0,tn,[]⟩,_,_,_,ok,at7,r7,rfl,hms.pat,by have:=HRT.o;omega,hms.gr,Xj ?_⟩
   rcases hqz.o with⟨h1,ar,h2,h3,h4⟩|⟨h1,h2⟩
   ·refine .inl ⟨h1,Xh h ar,?_,?_,by have:=HRT.o;omega⟩
    ·have:=Ps.un_not HN0.o HT.o h2
     rw[HLN.o] at this
     exact this
    exact Xc (Yv (Ub (Q:=TBk w gR gx) h3 (λ b hb _=>hb) ⟨by have:=HM7.o.gr.size;omega,by have:=HR7.o.lt;omega,by have:=HY7.o.lt;omega⟩) (λ b hb=>hb.2.1)) (λ b hb _=>hb.1)
   exact .inr ⟨h1,Ps.un_not_bad HN0.o HT.o h2⟩
  have hjy:=Xj hZ
  clear hZ
  go_wp2_with fail
  obtain⟨wz,hwz⟩:∃ W,(set6 w8 gR (.int .i64 5) (.int .i64 2) (.int .i64 0) (.int .i64 tn) (.string { data := #[] }) (.slice (some ⟨w8.heap.size,0,none⟩) 1 1)).alloc (.cells #[.int .i64 h.k,.int .i64 h.op,.int .i64 h.v,.int .i64 h.ln,.string (st h.nm),.slice a n c] 37)=W:=⟨_,rfl⟩
  have hY:=hwz
  unfold set6 at hY
  (try rw[hY])
  obtain⟨hd,hep⟩:=hjy.o wz hwz.symm
  obtain⟨d0,d1,d2,d3,d4,d5⟩:=hd.cells
  refine bodyPost_ret (v:=.tuple #[exv ⟨5,2,0,tn,[]⟩ (.slice (some ⟨w8.heap.size,0,none⟩) 1 1),.bool ok]) (by simp[results,Tryz.results202,go_sem,d0,d1,d2,d3,d4,d5]) rfl ?_
  exact hep
 have HN1:=Xj hT
 rw[hT]
 clear hT
 go_wp2_with fail
 refine(HC.o K _ _ _ HM4.o.pat HMm.o).mono ?_
 rintro e w7 ⟨h,a,n,c,ok,at7,r7,rfl,hp7,HJ,hg7,hR⟩
 have hwb:=HM4.o.gr.size
 have HWB:Xq (gR<w4.heap.size):=Xj HR4.o.lt
 have HMf:=Xj (HM4.o.call hp7 hg7)
 have HRf:=Xj (HR4.o.gr hg7 (by have:=HM4.o.gl;have:=HGR.o;omega))
 have HRS:=Xj hR.o
 have HL7:=Xj HJ
 clear hR hp7 hg7 HJ
 obtain⟨k0,k1,k2,k3,k4,k5⟩:=HRf.o.froz
 obtain⟨u0,u1,u2,u3,u4,u5⟩:=HRf.o.cells
 have hmd:=HRf.o.lt
 have hxv:=HGR.o
 go_wp2_with fail
 have HDZ:=Xj (HRf.o.s6 h (.slice a n c))
 have HMZ:=Xj (HMf.o.s6 (b:=gR) (by have:=HGR.o;omega) (.int .i64 (Hd.k h)) (.int .i64 (Hd.op h)) (.int .i64 (Hd.v h)) (.int .i64 (Hd.ln h)) (.string (st (Hd.nm h))) (.slice a n c))
 have HEZ:=Xj (show (ok=true/\∃ ar,Ps .un r4 (.ok (Xh h ar) r7)/\Xk (set6 w7 gR (.int .i64 (Hd.k h)) (.int .i64 (Hd.op h)) (.int .i64 (Hd.v h)) (.int .i64 (Hd.ln h)) (.string (st (Hd.nm h))) (.slice a n c)) (λ b=>w.heap.size<=b) ar (.slice a n c)/\r7.length<r4.length)\/(ok=false/\Ps .un r4 (.bad r7)) from by
     rcases HRS.o with⟨h1,ar,h2,h3,h4⟩|⟨h1,h2⟩
     ·exact .inl ⟨h1,ar,Ps.un_ca HN0.o HN1.o h2,Xc (Yv h3 (λ b hb=>by have:=HWB.o;omega)) (λ b hb _=>by omega),h4⟩
     exact .inr ⟨h1,Ps.un_ca HN0.o HN1.o h2⟩)
 obtain⟨wz,hwz⟩:∃ W,set6 w7 gR (.int .i64 (Hd.k h)) (.int .i64 (Hd.op h)) (.int .i64 (Hd.v h)) (.int .i64 (Hd.ln h)) (.string (st (Hd.nm h))) (.slice a n c)=W:=⟨_,rfl⟩
 have hY:=hwz
 unfold set6 at hY
 (try rw[hY])
 rw[hwz] at HDZ HMZ HEZ
 obtain⟨d0,d1,d2,d3,d4,d5⟩:=HDZ.o.cells
 refine bodyPost_ret (v:=.tuple #[exv h (.slice a n c),.bool ok]) (by simp[results,Tryz.results202,go_sem,d0,d1,d2,d3,d4,d5]) rfl ?_
 exact⟨h,_,_,_,ok,at7,r7,rfl,HMZ.o.pat,HL7.o,HMZ.o.gr,Xj HEZ.o⟩
section
def Lt (wx:World) (b:Nat) (x:Tk):Prop:=wx.heap[b]?=some (.cells #[.int .i64 x.k,.int .i64 x.n,.int .i64 x.v,.string (st x.t)] 103 (0,0))
section
variable {wx wy:World} {b:Nat} {x:Tk}
theorem Lt.lt (k:Lt wx b x):b<wx.heap.size:=Xv k
theorem Lt.al (k:Lt wx b x) (o:Obj):Lt (wx.alloc o) b x:=(Below.heap_alloc wx o b k.lt).trans k
theorem Lt.be (k:Lt wx b x) (hb:Below wx.heap.size wx wy):Lt wy b x:=(hb.block b k.lt).trans k
theorem Lt.gr {g:Nat} (k:Lt wx b x) (hg:wx.grownBy wy (some g)) (hn:b≠g):Lt wy b x:=(hg.block b k.lt (λ e=>by injection e with e;exact hn e)).trans k
theorem Lt.s1 (k:Lt wx b x) {p:Addr} {v:Value} (hn:b≠p.block):Lt (wx.setCell p v) b x:=(heap_setCell_other wx p b v hn).trans k
theorem Lt.cells (k:Lt wx b x):wx.cell? ⟨b,0,none⟩=some (.int .i64 x.k)/\wx.cell? ⟨b,1,none⟩=some (.int .i64 x.n)/\wx.cell? ⟨b,2,none⟩=some (.int .i64 x.v)/\wx.cell? ⟨b,3,none⟩=some (.string (st x.t)) :=
 ⟨cell_of_row wx b 0 _ _ _ k,cell_of_row wx b 1 _ _ _ k,cell_of_row wx b 2 _ _ _ k,cell_of_row wx b 3 _ _ _ k⟩
theorem Lt.new (w:World) (x:Tk):Lt (w.alloc (.cells #[.int .i64 x.k,.int .i64 x.n,.int .i64 x.v,.string (st x.t)] 103)) w.heap.size x:=heap_alloc_new w _
end
theorem Ju {K:PC} {lv:Lv} {rest:List Tk} {w wx:World} {gR at2:Nat} {r:List Tk} {h0:Hd} {s0:Value} (hm:MS K w wx at2 r) (hr:Lc wx gR h0 s0) (hg:w.heap.size<=gR) (hl:r.length<=rest.length) (h:Hd) (a:Option Addr) (n c:Nat) (ok:Bool)
  (hI:(ok=true/\∃ ar,Ps lv rest (.ok (Xh h ar) r)/\Xk wx (λ b=>w.heap.size<=b/\b≠gR) ar (.slice a n c)/\r.length<rest.length)\/(ok=false/\Ps lv rest (.bad r))) (W:World)
  (hW:W=set6 wx gR (.int .i64 h.k) (.int .i64 h.op) (.int .i64 h.v) (.int .i64 h.ln) (.string (st h.nm)) (.slice a n c)) :
  Lc W gR h (.slice a n c)/\EP K lv rest w (.returned (.tuple #[exv h (.slice a n c),.bool ok])) W:=by
 subst hW
 have h2:=hm.s6 hg (.int .i64 h.k) (.int .i64 h.op) (.int .i64 h.v) (.int .i64 h.ln) (.string (st h.nm)) (.slice a n c)
 refine⟨hr.s6 h _,h,a,n,c,ok,at2,r,rfl,h2.pat,hl,h2.gr,Xj ?_⟩
 rcases hI with⟨e1,ar,e2,e3,e4⟩|e
 ·exact .inl ⟨e1,ar,e2,Xc (Yv e3 (λ b hb=>hb.2)) (λ b hb _=>hb.1),e4⟩
 exact .inr e
theorem Py (m:Nat) (hE:∀ j,j<m->CE 56 .ex j):CE 208 .pr m:=by
 intro K at_ rest w hP hm
 have HM1:=Xj ((MS.init hP).al zex)
 have HR1:=Xj (Lc.zero w)
 have HMm:=Xj hm
 have HE:Xq (∀ (w2:World) (at2:Nat) (r:List Tk),PAt w2 K at2 r->r.length<rest.length->Calls Tryz.prog 56 #[.pointer (some ⟨K.g,0,none⟩)] w2 (EP K .ex r w2)):=Xj (λ w2 at2 r hp hl=>hE r.length (by omega) K at2 r w2 hp (Nat.le_refl _))
 obtain⟨⟨tk,tn,tv,tt⟩,r0,hr0⟩:=hP.en.cons
 have HX0:=Xj hr0
 have HTV:=Xj hP.en
 clear hE hP hm hr0
 go_enter Tryz.func208,Tryz.ntmps208
 go_upto_region 1 with fail
 obtain⟨w1,hw1⟩:∃ W,w.alloc zex=W:=⟨_,rfl⟩
 obtain⟨gR,hgR⟩:∃ x,w.heap.size=x:=⟨_,rfl⟩
 (try rw[show w.alloc (.cells #[.int .i64 0,.int .i64 0,.int .i64 0,.int .i64 0,.string { data := #[] },.slice none 0 0] 37)=w1 from hw1])
 rw[hw1] at HM1 HR1
 rw[hgR] at HR1
 (try rw[hgR])
 have HGR:=Xj hgR
 have HS1:Xq (w1.heap.size=gR+1):=Xj (by rw[<- hw1,<- hgR];simp)
 clear hw1 hgR
 go_wp2_with fail
 refine(Zb K at_ tk tn tv tt r0 w1 (HX0.o▸HM1.o.pat)).mono ?_
 rintro e w2 ⟨rfl,hb2⟩
 have hs2:=hb2.size
 have HM3:=Xj ((HM1.o.be hb2).al (.cells #[.int .i64 tk,.int .i64 tn,.int .i64 tv,.string (st tt)] 103))
 have HR3:=Xj ((HR1.o.be hb2).al (.cells #[.int .i64 tk,.int .i64 tn,.int .i64 tv,.string (st tt)] 103))
 have HT3:=Xj (Lt.new w2 ⟨tk,tn,tv,tt⟩)
 clear hb2 HM1 HR1
 go_upto_block 0 with fail
 obtain⟨w3,hw3⟩:∃ W,w2.alloc (.cells #[.int .i64 tk,.int .i64 tn,.int .i64 tv,.string (st tt)] 103)=W:=⟨_,rfl⟩
 obtain⟨gt,hgt⟩:∃ x,w2.heap.size=x:=⟨_,rfl⟩
 (try rw[hw3])
 (try dsimp only at HT3)
 rw[hw3] at HM3 HR3 HT3
 rw[hgt] at HT3
 (try rw[hgt])
 have HGT:Xq (gR<gt):=Xj (by have:=HS1.o;omega)
 have hgg:=HM3.o.gl
 have hxv:=HGR.o
 have HGTo:=HGT.o
 clear hw3 hgt hs2
 obtain⟨t0,t1,t2,t3⟩:=HT3.o.cells
 obtain⟨y0,y1,y2,y3,y4,y5⟩:=HR3.o.cells
 obtain⟨g0,g1,g2,g3,g4,g5⟩:=HR3.o.froz
 have hlR:=HR3.o.lt
 have hlT:=HT3.o.lt
 (try dsimp only at t0 t1 t2 t3)
 have HKT:Xq (kOf rest=tk/\Yc rest=tn/\vOf rest=tv/\tOf rest=tt/\rest.tail=r0/\r0.length<rest.length):=Xj (by rw[HX0.o];exact⟨rfl,rfl,rfl,rfl,rfl,by simp⟩)
 by_cases h2:tk=2
 ·subst h2
  obtain⟨-,p1,-,f1,-,hlp⟩:=HM3.o.pat.cells
  have hw1:=HM3.o.w1
  have HM4:=Xj (HM3.o.step (by have:=HKT.o.1;omega))
  have HR4:=Xj (HR3.o.s1 (p:=⟨K.g,1,none⟩) (v:=.int .i64 ((at_:Int)+1)) (by show gR≠K.g;omega))
  have HT4:=Xj (HT3.o.s1 (p:=⟨K.g,1,none⟩) (v:=.int .i64 ((at_:Int)+1)) (by show gt≠K.g;omega))
  go_wp2_with fail
  have hZ:=Ju (lv:=.pr) (rest:=rest) HM4.o HR4.o (show w.heap.size<=gR by have:=HGR.o;omega) (by rw[HKT.o.2.2.2.2.1];exact Nat.le_of_lt HKT.o.2.2.2.2.2) ⟨1,0,tv,tn,[]⟩ none 0 0 true (.inl ⟨rfl,.nil,by have h:=Ps.pr_num (ts:=rest) HKT.o.1;rw[HKT.o.2.1,HKT.o.2.2.1] at h;exact h,Xk.nil _ _,by rw[HKT.o.2.2.2.2.1];exact HKT.o.2.2.2.2.2⟩)
  obtain⟨wz,hwz⟩:∃ W,set6 (w3.setCell ⟨K.g,1,none⟩ (.int .i64 ((at_:Int)+1))) gR (.int .i64 1) (.int .i64 0) (.int .i64 tv) (.int .i64 tn) (.string { data := #[] }) (.slice none 0 0)=W:=⟨_,rfl⟩
  have hY:=hwz
  unfold set6 at hY
  (try rw[hY])
  obtain⟨hd,hep⟩:=hZ wz hwz.symm
  obtain⟨d0,d1,d2,d3,d4,d5⟩:=hd.cells
  refine bodyPost_ret (v:=.tuple #[exv ⟨1,0,tv,tn,[]⟩ (.slice none 0 0),.bool true]) (by simp[results,Tryz.results208,go_sem,d0,d1,d2,d3,d4,d5]) rfl ?_
  exact hep
 by_cases h1:tk=1
 ·subst h1
  obtain⟨-,p1,-,f1,-,hlp⟩:=HM3.o.pat.cells
  have hw1:=HM3.o.w1
  have HM4:=Xj (HM3.o.step (by have:=HKT.o.1;omega))
  have HR4:=Xj (HR3.o.s1 (p:=⟨K.g,1,none⟩) (v:=.int .i64 ((at_:Int)+1)) (by show gR≠K.g;omega))
  have HT4:=Xj (HT3.o.s1 (p:=⟨K.g,1,none⟩) (v:=.int .i64 ((at_:Int)+1)) (by show gt≠K.g;omega))
  go_upto_region 7 with fail
  obtain⟨w4,hw4⟩:∃ W,w3.setCell ⟨K.g,1,none⟩ (.int .i64 ((at_:Int)+1))=W:=⟨_,rfl⟩
  rw[hw4] at HM4 HR4 HT4 ⊢
  clear hw4 p1 f1 hw1 hlp t0 t1 t2 t3 y0 y1 y2 y3 y4 y5 g0 g1 g2 g3 g4 g5 hlR hlT
  go_wp2_with fail
  refine(Yj K (at_+1) rest.tail [91] _ HM4.o.pat).mono ?_
  rintro e w5 ⟨at5,r5,rfl,hp5,hg5,hc5⟩
  have HM5:=Xj (HM4.o.call hp5 hg5)
  have HR5:=Xj (HR4.o.gr hg5 (by omega))
  have HT5:=Xj (HT4.o.gr hg5 (by omega))
  obtain⟨t0,t1,t2,t3⟩:=HT5.o.cells
  (try dsimp only at t0 t1 t2 t3)
  obtain⟨y0,y1,y2,y3,y4,y5⟩:=HR5.o.cells
  obtain⟨g0,g1,g2,g3,g4,g5⟩:=HR5.o.froz
  have hlR:=HR5.o.lt
  have hlT:=HT5.o.lt
  clear hp5 hg5
  rcases hc5 with⟨hT,rfl,rfl⟩|⟨hT,rfl,rfl⟩
  ·have HT:=Xj hT
   rw[hT]
   have HRT:Xq (rest.tail.tail.length<rest.length/\rest.tail.length<rest.length):=Xj (by rw[HX0.o];simp<;>omega)
   clear hT t0 t1 t2 t3 y0 y1 y2 y3 y4 y5 g0 g1 g2 g3 g4 g5 hlR hlT
   go_wp2_with fail
   refine(HE.o _ _ _ HM5.o.pat (by exact HRT.o.1)).mono ?_
   rintro e w7 ⟨h,a,n,c,ok,at7,r7,rfl,hp7,HJ,hg7,hR⟩
   have hs7:=hg7.size
   have hws:=HM5.o.gr.size
   have hlRs:=HR5.o.lt
   have hlTs:=HT5.o.lt
   have HM8:=Xj ((HM5.o.call hp7 hg7).al (.cells (ecs h (.slice a n c)) 37))
   have HR8:=Xj ((HR5.o.gr hg7 (by omega)).al (.cells (ecs h (.slice a n c)) 37))
   have HT8:=Xj ((HT5.o.gr hg7 (by omega)).al (.cells (ecs h (.slice a n c)) 37))
   have HX8:=Xj (Lc.new w7 h (.slice a n c))
   have hjm:Xq ((ok=true/\∃ ar,Ps .ex rest.tail.tail (.ok (Xh h ar) r7)/\Xk (w7.alloc (.cells (ecs h (.slice a n c)) 37)) (TBk w gR w7.heap.size) ar (.slice a n c)/\r7.length<rest.tail.tail.length)\/(ok=false/\Ps .ex rest.tail.tail (.bad r7))):=Xj (by
    rcases hR.o with⟨e1,ar2,e2,e3,e4⟩|hr
    ·exact .inl ⟨e1,ar2,e2,Xc (Yl _ e3) (λ b hb _=>⟨by have:=hb.1;omega,by have:=hb.1;omega,hb.2⟩),e4⟩
    exact .inr hr)
   have HL7:=Xj HJ
   clear hR hp7 hg7 HJ
   go_upto_region 10 with fail
   obtain⟨w8,hw8⟩:∃ W,w7.alloc (.cells (ecs h (.slice a n c)) 37)=W:=⟨_,rfl⟩
   obtain⟨gx,hgx⟩:∃ x,w7.heap.size=x:=⟨_,rfl⟩
   (try rw[show w7.alloc (.cells #[.int .i64 h.k,.int .i64 h.op,.int .i64 h.v,.int .i64 h.ln,.string (st h.nm),.slice a n c] 37)=w8 from hw8])
   rw[hw8] at HM8 HR8 HT8 HX8 hjm
   rw[hgx] at HX8 hjm hs7
   (try rw[hgx])
   clear hw8 hgx
   obtain⟨q0,q1,q2,q3,q4,q5⟩:=HX8.o.cells
   obtain⟨s0,s1,s2,s3⟩:=HT8.o.cells
   (try dsimp only at s0 s1 s2 s3)
   have hwr:=HX8.o.lt
   have hlT8:=HT8.o.lt
   have hngx:gx≠K.g:=by omega
   have hngt:gt≠K.g:=by omega
   have hum:gR≠K.g:=by omega
   cases ok
   ·have HB:Xq (Ps .pr rest (.bad r7)):=Xj (by
     rcases hjm.o with⟨h1,_⟩|⟨_,h1⟩
     ·cases h1
     exact Ps.pr_el_bad HKT.o.1 HT.o h1)
    clear hjm
    refine wp_region_held_drew (S:=(λ w'=>w'.cell? ⟨gt,3,none⟩=some (.string (st tt))/\w'.cell? ⟨gt,1,none⟩=some (.int .i64 tn)/\w'.cell? ⟨gx,0,none⟩=some (.int .i64 h.k)/\w'.cell? ⟨gx,1,none⟩=some (.int .i64 h.op)/\w'.cell? ⟨gx,2,none⟩=some (.int .i64 h.v)/\w'.cell? ⟨gx,3,none⟩=some (.int .i64 h.ln)/\w'.cell? ⟨gx,4,none⟩=some (.string (st h.nm))/\w'.cell? ⟨gx,5,none⟩=some (.slice a n c))) (by kernel_rfl) ⟨s3,s1,q0,q1,q2,q3,q4,q5⟩ (λ hJ=>?_)
    refine tkH 0 53 ?_
    refine tkH 1 54 ?_
    refine tkH 2 55 ?_
    refine tkH 3 56 ?_
    refine tkH 4 57 ?_
    refine tkH 7 60 ?_
    refine tkH 8 61 ?_
    refine tkU 9 62 ?_
    refine tkU 10 63 ?_
    refine tkH 11 64 ?_
    obtain⟨wd,hwd⟩:∃ W,w8.drew=W:=⟨_,rfl⟩
    have HMd:Xq (MS K w wd at7 r7):=Xj (by rw[<- hwd];exact HM8.o.be (Below.refl _ _).drew)
    have HRd:Xq (Lc wd gR zhd (.slice none 0 0)):=Xj (by rw[<- hwd];exact HR8.o)
    rw[hwd] at hJ ⊢
    have hsd:w8.heap.size=wd.heap.size:=by rw[<- hwd];rfl
    clear hwd
    refine rdH 5 λ K0 hK=>?_
    go_simp
    refine goH hK ⟨Xu _ hJ.1,Xu _ hJ.2.1,Xu _ hJ.2.2.1,Xu _ hJ.2.2.2.1,Xu _ hJ.2.2.2.2.1,Xu _ hJ.2.2.2.2.2.1,Xu _ hJ.2.2.2.2.2.2.1,Xu _ hJ.2.2.2.2.2.2.2⟩ λ hJ=>?_
    clear hK K0
    obtain⟨wn,hwn⟩:∃ W,wd.alloc (.cells #[.int .i64 h.k,.int .i64 h.op,.int .i64 h.v,.int .i64 h.ln,.string (st h.nm),.slice a n c] 37)=W:=⟨_,rfl⟩
    obtain⟨gs,hgs⟩:∃ x,wd.heap.size=x:=⟨_,rfl⟩
    have HM9:Xq (MS K w wn at7 r7):=Xj (by rw[<- hwn];exact HMd.o.al _)
    have HR9:Xq (Lc wn gR zhd (.slice none 0 0)):=Xj (by rw[<- hwn];exact HRd.o.al _)
    rw[hwn] at hJ ⊢
    (try rw[hgs])
    have hgs8:w8.heap.size=gs:=by omega
    clear hwn hgs
    refine tkH 6 59 ?_
    obtain⟨u0,u1,u2,u3,u4,u5⟩:=HR9.o.cells
    obtain⟨k0,k1,k2,k3,k4,k5⟩:=HR9.o.froz
    have huc:=HR9.o.lt
    refine rdH 12 λ K0 hK=>?_
    go_simp
    refine goH hK ⟨Xm (by omega) hJ.1,Xm (by omega) hJ.2.1,Xm (by omega) hJ.2.2.1,Xm (by omega) hJ.2.2.2.1,Xm (by omega) hJ.2.2.2.2.1,Xm (by omega) hJ.2.2.2.2.2.1,Xm (by omega) hJ.2.2.2.2.2.2.1,Xm (by omega) hJ.2.2.2.2.2.2.2⟩ λ hJ=>?_
    clear hK K0
    refine tkH 13 3 ?_
    refine wpAnyH_done (by kernel_rfl) ?_ _
    refine Xz ?_
    clear u0 u1 u2 u3 u4 u5 k0 k1 k2 k3 k4 k5 hJ
    have hZ:=Ju (lv:=.pr) (rest:=rest) HM9.o HR9.o (show w.heap.size<=gR by omega) (by have h1:=HL7.o;have h2:=HRT.o.1;omega) ⟨4,0,0,tn,tt⟩ (some ⟨gs,0,none⟩) 1 1 false (.inr ⟨rfl,HB.o⟩)
    obtain⟨wz,hwz⟩:∃ W,set6 wn gR (.int .i64 4) (.int .i64 0) (.int .i64 0) (.int .i64 tn) (.string (st tt)) (.slice (some ⟨gs,0,none⟩) 1 1)=W:=⟨_,rfl⟩
    have hY:=hwz
    unfold set6 at hY
    (try rw[hY])
    obtain⟨hd,hep⟩:=hZ wz hwz.symm
    obtain⟨d0,d1,d2,d3,d4,d5⟩:=hd.cells
    clear hZ
    go_wp2_with fail
    refine bodyPost_ret (v:=.tuple #[exv ⟨4,0,0,tn,tt⟩ (.slice (some ⟨gs,0,none⟩) 1 1),.bool false]) (by simp[results,Tryz.results208,go_sem,d0,d1,d2,d3,d4,d5]) rfl ?_
    exact hep
   obtain⟨ar,hps,har,hlt⟩:∃ ar,Ps .ex rest.tail.tail (.ok (Xh h ar) r7)/\Xk w8 (TBk w gR gx) ar (.slice a n c)/\r7.length<rest.tail.tail.length:=by
    rcases hjm.o with⟨_,h1⟩|⟨h1,_⟩
    ·exact h1
    cases h1
   have HPS:=Xj hps
   have HAR:=Xj har
   have HLT:=Xj hlt
   clear hps har hlt hjm
   refine wp_region_held_drew (S:=(λ w'=>w'.cell? ⟨gt,3,none⟩=some (.string (st tt))/\w'.cell? ⟨gt,1,none⟩=some (.int .i64 tn)/\w'.cell? ⟨gx,0,none⟩=some (.int .i64 h.k)/\w'.cell? ⟨gx,1,none⟩=some (.int .i64 h.op)/\w'.cell? ⟨gx,2,none⟩=some (.int .i64 h.v)/\w'.cell? ⟨gx,3,none⟩=some (.int .i64 h.ln)/\w'.cell? ⟨gx,4,none⟩=some (.string (st h.nm))/\w'.cell? ⟨gx,5,none⟩=some (.slice a n c))) (by kernel_rfl) ⟨s3,s1,q0,q1,q2,q3,q4,q5⟩ (λ hJ=>?_)
   refine tkH 0 53 ?_
   refine tkH 1 54 ?_
   refine tkH 2 55 ?_
   refine tkH 3 56 ?_
   refine tkH 4 57 ?_
   refine tkH 7 60 ?_
   refine tkH 8 61 ?_
   refine tkH 9 62 ?_
   obtain⟨wd,hwd⟩:∃ W,w8.drew=W:=⟨_,rfl⟩
   have HMd:Xq (MS K w wd at7 r7):=Xj (by rw[<- hwd];exact HM8.o.be (Below.refl _ _).drew)
   have HRd:Xq (Lc wd gR zhd (.slice none 0 0)):=Xj (by rw[<- hwd];exact HR8.o)
   have HARd:Xq (Xk wd (TBk w gR gx) ar (.slice a n c)):=Xj (by rw[<- hwd];exact HAR.o.keep (λ b hb hlt=>⟨rfl,hb⟩) (Nat.le_refl _))
   rw[hwd] at hJ ⊢
   have hsd:w8.heap.size=wd.heap.size:=by rw[<- hwd];rfl
   clear hwd
   refine wpAnyH_ready (rs:=[5,10]) (by kernel_rfl) (by simp) ?_
   refine AllReadyH.cons rfl (λ K0 hK=>?_) (AllReadyH.cons rfl (λ K0 hK=>?_) AllReadyH.nil)
   ·go_simp
    refine goH hK ⟨Xu _ hJ.1,Xu _ hJ.2.1,Xu _ hJ.2.2.1,Xu _ hJ.2.2.2.1,Xu _ hJ.2.2.2.2.1,Xu _ hJ.2.2.2.2.2.1,Xu _ hJ.2.2.2.2.2.2.1,Xu _ hJ.2.2.2.2.2.2.2⟩ λ hJ=>?_
    clear hK K0
    obtain⟨wa,hwn⟩:∃ W,wd.alloc (.cells #[.int .i64 h.k,.int .i64 h.op,.int .i64 h.v,.int .i64 h.ln,.string (st h.nm),.slice a n c] 37)=W:=⟨_,rfl⟩
    obtain⟨gs,hgs⟩:∃ x,wd.heap.size=x:=⟨_,rfl⟩
    have hAA:=Ub (Q:=λ b=>w.heap.size<=b/\b≠gR) (h1:=h) HARd.o (λ b hb _=>⟨hb.1,hb.2.1⟩) ⟨by have:=HMd.o.gr.size;omega,by have:=HRd.o.lt;omega⟩
    rw[hwn,hgs] at hAA
    have HAA:=Xj hAA
    have HMa:Xq (MS K w wa _ _):=Xj (by rw[<- hwn];exact HMd.o.al _)
    have HRa:Xq (Lc wa gR zhd (.slice none 0 0)):=Xj (by rw[<- hwn];exact HRd.o.al _)
    rw[hwn] at hJ ⊢
    (try rw[hgs])
    have hszn:wd.heap.size<=wa.heap.size:=by rw[<- hwn];simp
    clear hwn hgs hAA
    refine tkH 6 59 ?_
    refine rdH 10 λ K0 hK=>?_
    go_simp
    refine(Yj K at7 r7 [93] _ HMa.o.pat).mono ?_
    rintro e wn ⟨at9,r9,rfl,hp9,hg9,hc9⟩
    have hjn:∀ p:Addr,p.block<wa.heap.size->p.block≠K.g->wn.cell? p=wa.cell? p:=λ p hp hn=>hg9.cell_far p hp (by simp;omega)
    refine goH hK ⟨(hjn ⟨gt,3,none⟩ (by show gt<_;omega) (by show gt≠K.g;omega)).trans hJ.1,(hjn ⟨gt,1,none⟩ (by show gt<_;omega) (by show gt≠K.g;omega)).trans hJ.2.1,(hjn ⟨gx,0,none⟩ (by show gx<_;omega) (by show gx≠K.g;omega)).trans hJ.2.2.1,(hjn ⟨gx,1,none⟩ (by show gx<_;omega) (by show gx≠K.g;omega)).trans hJ.2.2.2.1,(hjn ⟨gx,2,none⟩ (by show gx<_;omega) (by show gx≠K.g;omega)).trans hJ.2.2.2.2.1,(hjn ⟨gx,3,none⟩ (by show gx<_;omega) (by show gx≠K.g;omega)).trans hJ.2.2.2.2.2.1,(hjn ⟨gx,4,none⟩ (by show gx<_;omega) (by show gx≠K.g;omega)).trans hJ.2.2.2.2.2.2.1,(hjn ⟨gx,5,none⟩ (by show gx<_;omega) (by show gx≠K.g;omega)).trans hJ.2.2.2.2.2.2.2⟩ λ hJ=>?_
    clear hK K0
    have HM9:=Xj (HMa.o.call hp9 hg9)
    have HR9:=Xj (HRa.o.gr hg9 hum)
    have HAF:=Xj (Zq HAA.o hg9 (λ b hb=>by have:=hb.1;omega))
    clear hp9 hjn
    refine tkH 11 64 ?_
    obtain⟨u0,u1,u2,u3,u4,u5⟩:=HR9.o.cells
    obtain⟨k0,k1,k2,k3,k4,k5⟩:=HR9.o.froz
    have huc:=HR9.o.lt
    refine rdH 12 λ K0 hK=>?_
    go_simp
    refine goH hK ⟨Xm (by omega) hJ.1,Xm (by omega) hJ.2.1,Xm (by omega) hJ.2.2.1,Xm (by omega) hJ.2.2.2.1,Xm (by omega) hJ.2.2.2.2.1,Xm (by omega) hJ.2.2.2.2.2.1,Xm (by omega) hJ.2.2.2.2.2.2.1,Xm (by omega) hJ.2.2.2.2.2.2.2⟩ λ hJ=>?_
    clear hK K0
    refine tkH 13 3 ?_
    refine wpAnyH_done (by kernel_rfl) ?_ _
    refine Xz ?_
    clear u0 u1 u2 u3 u4 u5 k0 k1 k2 k3 k4 k5 hJ
    rcases hc9 with⟨h93,rfl,rfl⟩|⟨h93,rfl,rfl⟩
    ·(try rw[h93])
     have hZ:=Ju (lv:=.pr) (rest:=rest) HM9.o HR9.o (show w.heap.size<=gR by omega) (by have h1:=HLT.o;have h2:=HRT.o.1;simp only[List.length_tail] at h1 ⊢;omega) ⟨4,0,0,tn,tt⟩ (some ⟨gs,0,none⟩) 1 1 true (.inl ⟨rfl,Xh h ar,(by have hh:=Ps.pr_el HKT.o.1 HT.o HPS.o h93;rw[HKT.o.2.1,HKT.o.2.2.2.1] at hh;exact hh),HAF.o,by have h1:=HLT.o;have h2:=HRT.o.1;simp only[List.length_tail] at h1 ⊢;omega⟩)
     obtain⟨wz,hwz⟩:∃ W,set6 wn gR (.int .i64 4) (.int .i64 0) (.int .i64 0) (.int .i64 tn) (.string (st tt)) (.slice (some ⟨gs,0,none⟩) 1 1)=W:=⟨_,rfl⟩
     have hY:=hwz
     unfold set6 at hY
     (try rw[hY])
     obtain⟨hd,hep⟩:=hZ wz hwz.symm
     obtain⟨d0,d1,d2,d3,d4,d5⟩:=hd.cells
     clear hZ
     go_wp2_with fail
     refine bodyPost_ret (v:=.tuple #[exv ⟨4,0,0,tn,tt⟩ (.slice (some ⟨gs,0,none⟩) 1 1),.bool true]) (by simp[results,Tryz.results208,go_sem,d0,d1,d2,d3,d4,d5]) rfl ?_
     exact hep
    (try rw[h93])
    have hZ:=Ju (lv:=.pr) (rest:=rest) HM9.o HR9.o (show w.heap.size<=gR by omega) (by have h1:=HL7.o;have h2:=HRT.o.1;omega) ⟨4,0,0,tn,tt⟩ (some ⟨gs,0,none⟩) 1 1 false (.inr ⟨rfl,Ps.pr_el_bad2 HKT.o.1 HT.o HPS.o h93⟩)
    obtain⟨wz,hwz⟩:∃ W,set6 wn gR (.int .i64 4) (.int .i64 0) (.int .i64 0) (.int .i64 tn) (.string (st tt)) (.slice (some ⟨gs,0,none⟩) 1 1)=W:=⟨_,rfl⟩
    have hY:=hwz
    unfold set6 at hY
    (try rw[hY])
    obtain⟨hd,hep⟩:=hZ wz hwz.symm
    obtain⟨d0,d1,d2,d3,d4,d5⟩:=hd.cells
    clear hZ
    go_wp2_with fail
    refine bodyPost_ret (v:=.tuple #[exv ⟨4,0,0,tn,tt⟩ (.slice (some ⟨gs,0,none⟩) 1 1),.bool false]) (by simp[results,Tryz.results208,go_sem,d0,d1,d2,d3,d4,d5]) rfl ?_
    exact hep
   go_simp
   refine(Yj K at7 r7 [93] _ HMd.o.pat).mono ?_
   rintro e wc ⟨at9,r9,rfl,hp9,hg9,hc9⟩
   have hjn:∀ p:Addr,p.block<wd.heap.size->p.block≠K.g->wc.cell? p=wd.cell? p:=λ p hp hn=>hg9.cell_far p hp (by simp;omega)
   refine goH hK ⟨(hjn ⟨gt,3,none⟩ (by show gt<_;omega) (by show gt≠K.g;omega)).trans hJ.1,(hjn ⟨gt,1,none⟩ (by show gt<_;omega) (by show gt≠K.g;omega)).trans hJ.2.1,(hjn ⟨gx,0,none⟩ (by show gx<_;omega) (by show gx≠K.g;omega)).trans hJ.2.2.1,(hjn ⟨gx,1,none⟩ (by show gx<_;omega) (by show gx≠K.g;omega)).trans hJ.2.2.2.1,(hjn ⟨gx,2,none⟩ (by show gx<_;omega) (by show gx≠K.g;omega)).trans hJ.2.2.2.2.1,(hjn ⟨gx,3,none⟩ (by show gx<_;omega) (by show gx≠K.g;omega)).trans hJ.2.2.2.2.2.1,(hjn ⟨gx,4,none⟩ (by show gx<_;omega) (by show gx≠K.g;omega)).trans hJ.2.2.2.2.2.2.1,(hjn ⟨gx,5,none⟩ (by show gx<_;omega) (by show gx≠K.g;omega)).trans hJ.2.2.2.2.2.2.2⟩ λ hJ=>?_
   clear hK K0
   have HMc:=Xj (HMd.o.call hp9 hg9)
   have HRc:=Xj (HRd.o.gr hg9 hum)
   have HARc:=Xj (Zq HARd.o hg9 (λ b hb=>by have:=hb.1;omega))
   have hszc:=hg9.size
   clear hp9 hjn
   refine tkH 11 64 ?_
   refine rdH 5 λ K0 hK=>?_
   go_simp
   refine goH hK ⟨Xu _ hJ.1,Xu _ hJ.2.1,Xu _ hJ.2.2.1,Xu _ hJ.2.2.2.1,Xu _ hJ.2.2.2.2.1,Xu _ hJ.2.2.2.2.2.1,Xu _ hJ.2.2.2.2.2.2.1,Xu _ hJ.2.2.2.2.2.2.2⟩ λ hJ=>?_
   clear hK K0
   obtain⟨wn,hwn⟩:∃ W,wc.alloc (.cells #[.int .i64 h.k,.int .i64 h.op,.int .i64 h.v,.int .i64 h.ln,.string (st h.nm),.slice a n c] 37)=W:=⟨_,rfl⟩
   obtain⟨gs,hgs⟩:∃ x,wc.heap.size=x:=⟨_,rfl⟩
   have hAA:=Ub (Q:=λ b=>w.heap.size<=b/\b≠gR) (h1:=h) HARc.o (λ b hb _=>⟨hb.1,hb.2.1⟩) ⟨by have:=HMc.o.gr.size;omega,by have:=HRc.o.lt;omega⟩
   rw[hwn,hgs] at hAA
   have HAA:=Xj hAA
   have HMa:Xq (MS K w wn _ _):=Xj (by rw[<- hwn];exact HMc.o.al _)
   have HRa:Xq (Lc wn gR zhd (.slice none 0 0)):=Xj (by rw[<- hwn];exact HRc.o.al _)
   rw[hwn] at hJ ⊢
   (try rw[hgs])
   have hszn:wc.heap.size<=wn.heap.size:=by rw[<- hwn];simp
   clear hwn hgs hAA
   have HM9:=HMa
   have HR9:=HRa
   have HAF:=HAA
   refine tkH 6 59 ?_
   obtain⟨u0,u1,u2,u3,u4,u5⟩:=HR9.o.cells
   obtain⟨k0,k1,k2,k3,k4,k5⟩:=HR9.o.froz
   have huc:=HR9.o.lt
   refine rdH 12 λ K0 hK=>?_
   go_simp
   refine goH hK ⟨Xm (by omega) hJ.1,Xm (by omega) hJ.2.1,Xm (by omega) hJ.2.2.1,Xm (by omega) hJ.2.2.2.1,Xm (by omega) hJ.2.2.2.2.1,Xm (by omega) hJ.2.2.2.2.2.1,Xm (by omega) hJ.2.2.2.2.2.2.1,Xm (by omega) hJ.2.2.2.2.2.2.2⟩ λ hJ=>?_
   clear hK K0
   refine tkH 13 3 ?_
   refine wpAnyH_done (by kernel_rfl) ?_ _
   refine Xz ?_
   clear u0 u1 u2 u3 u4 u5 k0 k1 k2 k3 k4 k5 hJ
   rcases hc9 with⟨h93,rfl,rfl⟩|⟨h93,rfl,rfl⟩
   ·(try rw[h93])
    have hZ:=Ju (lv:=.pr) (rest:=rest) HM9.o HR9.o (show w.heap.size<=gR by omega) (by have h1:=HLT.o;have h2:=HRT.o.1;simp only[List.length_tail] at h1 ⊢;omega) ⟨4,0,0,tn,tt⟩ (some ⟨gs,0,none⟩) 1 1 true (.inl ⟨rfl,Xh h ar,(by have hh:=Ps.pr_el HKT.o.1 HT.o HPS.o h93;rw[HKT.o.2.1,HKT.o.2.2.2.1] at hh;exact hh),HAF.o,by have h1:=HLT.o;have h2:=HRT.o.1;simp only[List.length_tail] at h1 ⊢;omega⟩)
    obtain⟨wz,hwz⟩:∃ W,set6 wn gR (.int .i64 4) (.int .i64 0) (.int .i64 0) (.int .i64 tn) (.string (st tt)) (.slice (some ⟨gs,0,none⟩) 1 1)=W:=⟨_,rfl⟩
    have hY:=hwz
    unfold set6 at hY
    (try rw[hY])
    obtain⟨hd,hep⟩:=hZ wz hwz.symm
    obtain⟨d0,d1,d2,d3,d4,d5⟩:=hd.cells
    clear hZ
    go_wp2_with fail
    refine bodyPost_ret (v:=.tuple #[exv ⟨4,0,0,tn,tt⟩ (.slice (some ⟨gs,0,none⟩) 1 1),.bool true]) (by simp[results,Tryz.results208,go_sem,d0,d1,d2,d3,d4,d5]) rfl ?_
    exact hep
   (try rw[h93])
   have hZ:=Ju (lv:=.pr) (rest:=rest) HM9.o HR9.o (show w.heap.size<=gR by omega) (by have h1:=HL7.o;have h2:=HRT.o.1;omega) ⟨4,0,0,tn,tt⟩ (some ⟨gs,0,none⟩) 1 1 false (.inr ⟨rfl,Ps.pr_el_bad2 HKT.o.1 HT.o HPS.o h93⟩)
   obtain⟨wz,hwz⟩:∃ W,set6 wn gR (.int .i64 4) (.int .i64 0) (.int .i64 0) (.int .i64 tn) (.string (st tt)) (.slice (some ⟨gs,0,none⟩) 1 1)=W:=⟨_,rfl⟩
   have hY:=hwz
   unfold set6 at hY
   (try rw[hY])
   obtain⟨hd,hep⟩:=hZ wz hwz.symm
   obtain⟨d0,d1,d2,d3,d4,d5⟩:=hd.cells
   clear hZ
   go_wp2_with fail
   refine bodyPost_ret (v:=.tuple #[exv ⟨4,0,0,tn,tt⟩ (.slice (some ⟨gs,0,none⟩) 1 1),.bool false]) (by simp[results,Tryz.results208,go_sem,d0,d1,d2,d3,d4,d5]) rfl ?_
   exact hep
  have HT:=Xj hT
  rw[hT]
  clear hT
  go_wp2_with fail
  have hZ:=Ju (lv:=.pr) (rest:=rest) HM5.o HR5.o (show w.heap.size<=gR by have:=HGR.o;omega) (by rw[HKT.o.2.2.2.2.1];exact Nat.le_of_lt HKT.o.2.2.2.2.2) ⟨13,0,0,tn,tt⟩ none 0 0 true (.inl ⟨rfl,.nil,by have h:=Ps.pr_name (ts:=rest) HKT.o.1 HT.o;rw[HKT.o.2.1,HKT.o.2.2.2.1] at h;exact h,Xk.nil _ _,by rw[HKT.o.2.2.2.2.1];exact HKT.o.2.2.2.2.2⟩)
  obtain⟨wz,hwz⟩:∃ W,set6 w5 gR (.int .i64 13) (.int .i64 0) (.int .i64 0) (.int .i64 tn) (.string (st tt)) (.slice none 0 0)=W:=⟨_,rfl⟩
  have hY:=hwz
  unfold set6 at hY
  (try rw[hY])
  obtain⟨hd,hep⟩:=hZ wz hwz.symm
  obtain⟨d0,d1,d2,d3,d4,d5⟩:=hd.cells
  refine bodyPost_ret (v:=.tuple #[exv ⟨13,0,0,tn,tt⟩ (.slice none 0 0),.bool true]) (by simp[results,Tryz.results208,go_sem,d0,d1,d2,d3,d4,d5]) rfl ?_
  exact hep
 have d2:(tk==2)=false:=by rw[beq_eq_false_iff_ne];exact h2
 have d1:(tk==1)=false:=by rw[beq_eq_false_iff_ne];exact h1
 have HN12:Xq (tk≠1/\tk≠2):=Xj ⟨h1,h2⟩
 clear h1 h2
 go_wp2_with fail
 refine(Yj K at_ rest [38] _ HM3.o.pat).mono ?_
 rintro e w4 ⟨at4,r4,rfl,hp4,hg4,hc4⟩
 have HM4:=Xj (HM3.o.call hp4 hg4)
 have HR4:=Xj (HR3.o.gr hg4 (by omega))
 have HT4:=Xj (HT3.o.gr hg4 (by omega))
 clear hp4 hg4
 rcases hc4 with⟨hT,rfl,rfl⟩|⟨hT,rfl,rfl⟩
 ·have HT:=Xj hT
  rw[hT]
  clear hT t0 t1 t2 t3 y0 y1 y2 y3 y4 y5 g0 g1 g2 g3 g4 g5 hlR hlT
  go_wp2_with fail
  refine(Us K (at_+1) rest.tail _ HM4.o.pat).mono ?_
  rintro e w5 ⟨at5,r5,hp5,hg5,hc5⟩
  have HM5:=Xj (HM4.o.call hp5 hg5)
  have HR5:=Xj (HR4.o.gr hg5 (by omega))
  have HT5:=Xj (HT4.o.gr hg5 (by omega))
  clear hp5 hg5
  obtain⟨t0,t1,t2,t3⟩:=HT5.o.cells
  (try dsimp only at t0 t1 t2 t3)
  obtain⟨y0,y1,y2,y3,y4,y5⟩:=HR5.o.cells
  obtain⟨g0,g1,g2,g3,g4,g5⟩:=HR5.o.froz
  have hlR:=HR5.o.lt
  have hlT:=HT5.o.lt
  have HRT:Xq (rest.tail.tail.length<rest.length/\rest.tail.length<rest.length):=Xj (by rw[HX0.o];simp<;>omega)
  rcases hc5 with⟨hk,rfl,rfl,rfl⟩|⟨hk,rfl,rfl,rfl⟩
  ·obtain⟨nm,hnm⟩:∃ x,tOf rest.tail=x:=⟨_,rfl⟩
   have HNM:=Xj hnm
   have HK:=Xj hk
   rw[hnm]
   clear hnm hk
   go_wp2_with fail
   have hZ:=Ju (lv:=.pr) (rest:=rest) HM5.o HR5.o (show w.heap.size<=gR by have:=HGR.o;omega) (Nat.le_of_lt HRT.o.1) ⟨11,0,0,tn,nm⟩ none 0 0 true (.inl ⟨rfl,.nil,by have h:=Ps.pr_func HT.o HK.o;rw[HKT.o.2.1,HNM.o] at h;exact h,Xk.nil _ _,HRT.o.1⟩)
   obtain⟨wz,hwz⟩:∃ W,set6 w5 gR (.int .i64 11) (.int .i64 0) (.int .i64 0) (.int .i64 tn) (.string (st nm)) (.slice none 0 0)=W:=⟨_,rfl⟩
   have hY:=hwz
   unfold set6 at hY
   (try rw[hY])
   obtain⟨hd,hep⟩:=hZ wz hwz.symm
   obtain⟨d0,d1,d2,d3,d4,d5⟩:=hd.cells
   refine bodyPost_ret (v:=.tuple #[exv ⟨11,0,0,tn,nm⟩ (.slice none 0 0),.bool true]) (by simp[results,Tryz.results208,go_sem,d0,d1,d2,d3,d4,d5]) rfl ?_
   exact hep
  have HK:=Xj hk
  clear hk
  go_wp2_with fail
  have hZ:=Ju (lv:=.pr) (rest:=rest) HM5.o HR5.o (show w.heap.size<=gR by have:=HGR.o;omega) (Nat.le_of_lt HRT.o.2) ⟨11,0,0,tn,[]⟩ none 0 0 false (.inr ⟨rfl,Ps.pr_func_bad HT.o HK.o⟩)
  obtain⟨wz,hwz⟩:∃ W,set6 w5 gR (.int .i64 11) (.int .i64 0) (.int .i64 0) (.int .i64 tn) (.string { data := #[] }) (.slice none 0 0)=W:=⟨_,rfl⟩
  have hY:=hwz
  unfold set6 at hY
  (try rw[hY])
  obtain⟨hd,hep⟩:=hZ wz hwz.symm
  obtain⟨d0,d1,d2,d3,d4,d5⟩:=hd.cells
  refine bodyPost_ret (v:=.tuple #[exv ⟨11,0,0,tn,[]⟩ (.slice none 0 0),.bool false]) (by simp[results,Tryz.results208,go_sem,d0,d1,d2,d3,d4,d5]) rfl ?_
  exact hep
 have HN38:=Xj hT
 rw[hT]
 clear hT t0 t1 t2 t3 y0 y1 y2 y3 y4 y5 g0 g1 g2 g3 g4 g5 hlR hlT
 go_wp2_with fail
 refine(Yj K at4 r4 [114,101,97,100] _ HM4.o.pat).mono ?_
 rintro e w5 ⟨at5,r5,rfl,hp5,hg5,hc5⟩
 have HM5:=Xj (HM4.o.call hp5 hg5)
 have HR5:=Xj (HR4.o.gr hg5 (by omega))
 have HT5:=Xj (HT4.o.gr hg5 (by omega))
 clear hp5 hg5
 rcases hc5 with⟨hT,rfl,rfl⟩|⟨hT,rfl,rfl⟩
 ·have HT:=Xj hT
  rw[hT]
  clear hT
  obtain⟨t0,t1,t2,t3⟩:=HT5.o.cells
  (try dsimp only at t0 t1 t2 t3)
  obtain⟨y0,y1,y2,y3,y4,y5⟩:=HR5.o.cells
  obtain⟨g0,g1,g2,g3,g4,g5⟩:=HR5.o.froz
  have hlR:=HR5.o.lt
  have hlT:=HT5.o.lt
  have HRT:Xq (r4.tail.length<r4.length):=Xj (by rw[HX0.o];simp<;>omega)
  go_wp2_with fail
  have hZ:=Ju (lv:=.pr) (rest:=r4) HM5.o HR5.o (show w.heap.size<=gR by have:=HGR.o;omega) (Nat.le_of_lt HRT.o) ⟨12,0,0,tn,[]⟩ none 0 0 true (.inl ⟨rfl,.nil,by have h:=Ps.pr_read HT.o;rw[HKT.o.2.1] at h;exact h,Xk.nil _ _,HRT.o⟩)
  obtain⟨wz,hwz⟩:∃ W,set6 w5 gR (.int .i64 12) (.int .i64 0) (.int .i64 0) (.int .i64 tn) (.string { data := #[] }) (.slice none 0 0)=W:=⟨_,rfl⟩
  have hY:=hwz
  unfold set6 at hY
  (try rw[hY])
  obtain⟨hd,hep⟩:=hZ wz hwz.symm
  obtain⟨d0,d1,d2,d3,d4,d5⟩:=hd.cells
  refine bodyPost_ret (v:=.tuple #[exv ⟨12,0,0,tn,[]⟩ (.slice none 0 0),.bool true]) (by simp[results,Tryz.results208,go_sem,d0,d1,d2,d3,d4,d5]) rfl ?_
  exact hep
 have hmh:=Xj hT
 rw[hT]
 clear hT
 go_wp2_with fail
 refine(Yj K at5 r5 [40] _ HM5.o.pat).mono ?_
 rintro e w6 ⟨at6,r6,rfl,hp6,hg6,hc6⟩
 have HM6:=Xj (HM5.o.call hp6 hg6)
 have HR6:=Xj (HR5.o.gr hg6 (by omega))
 have HT6:=Xj (HT5.o.gr hg6 (by omega))
 clear hp6 hg6
 rcases hc6 with⟨hT,rfl,rfl⟩|⟨hT,rfl,rfl⟩
 ·have HT:=Xj hT
  rw[hT]
  have HRT:Xq (r5.tail.length<r5.length):=Xj (by rw[HX0.o];simp<;>omega)
  clear hT
  go_wp2_with fail
  refine(HE.o _ _ _ HM6.o.pat (by have:=HRT.o;omega)).mono ?_
  rintro e w7 ⟨h,a,n,c,ok,at7,r7,rfl,hp7,HJ,hg7,hR⟩
  have hs7:=hg7.size
  have hws:=HM6.o.gr.size
  have hlRs:=HR6.o.lt
  have hlTs:=HT6.o.lt
  have HM8:=Xj ((HM6.o.call hp7 hg7).al (.cells (ecs h (.slice a n c)) 37))
  have HR8:=Xj ((HR6.o.gr hg7 (by omega)).al (.cells (ecs h (.slice a n c)) 37))
  have HT8:=Xj ((HT6.o.gr hg7 (by omega)).al (.cells (ecs h (.slice a n c)) 37))
  have HX8:=Xj (Lc.new w7 h (.slice a n c))
  have hjm:Xq ((ok=true/\∃ ar,Ps .ex r5.tail (.ok (Xh h ar) r7)/\Xk (w7.alloc (.cells (ecs h (.slice a n c)) 37)) (TBk w gR w7.heap.size) ar (.slice a n c)/\r7.length<r5.tail.length)\/(ok=false/\Ps .ex r5.tail (.bad r7))):=Xj (by
   rcases hR.o with⟨e1,ar2,e2,e3,e4⟩|hr
   ·exact .inl ⟨e1,ar2,e2,Xc (Yl _ e3) (λ b hb _=>⟨by have:=hb.1;omega,by have:=hb.1;omega,hb.2⟩),e4⟩
   exact .inr hr)
  have HL7:=Xj HJ
  clear hR hp7 hg7 HJ
  go_upto_region 18 with fail
  obtain⟨w8,hw8⟩:∃ W,w7.alloc (.cells (ecs h (.slice a n c)) 37)=W:=⟨_,rfl⟩
  obtain⟨gx,hgx⟩:∃ x,w7.heap.size=x:=⟨_,rfl⟩
  (try rw[show w7.alloc (.cells #[.int .i64 h.k,.int .i64 h.op,.int .i64 h.v,.int .i64 h.ln,.string (st h.nm),.slice a n c] 37)=w8 from hw8])
  rw[hw8] at HM8 HR8 HT8 HX8 hjm
  rw[hgx] at HX8 hjm hs7
  (try rw[hgx])
  clear hw8 hgx
  obtain⟨q0,q1,q2,q3,q4,q5⟩:=HX8.o.cells
  obtain⟨s0,s1,s2,s3⟩:=HT8.o.cells
  (try dsimp only at s0 s1 s2 s3)
  have hwr:=HX8.o.lt
  have hlT8:=HT8.o.lt
  have hngx:gx≠K.g:=by omega
  have hngt:gt≠K.g:=by omega
  have hum:gR≠K.g:=by omega
  cases ok
  ·have HB:Xq (Ps .pr r5 (.bad r7)):=Xj (by
    rcases hjm.o with⟨h1,_⟩|⟨_,h1⟩
    ·cases h1
    exact Ps.pr_par_bad HT.o h1)
   clear hjm
   refine wp_region_held_drew (S:=(λ w'=>w'.cell? ⟨gx,0,none⟩=some (.int .i64 h.k)/\w'.cell? ⟨gx,1,none⟩=some (.int .i64 h.op)/\w'.cell? ⟨gx,2,none⟩=some (.int .i64 h.v)/\w'.cell? ⟨gx,3,none⟩=some (.int .i64 h.ln)/\w'.cell? ⟨gx,4,none⟩=some (.string (st h.nm))/\w'.cell? ⟨gx,5,none⟩=some (.slice a n c))) (by kernel_rfl) ⟨q0,q1,q2,q3,q4,q5⟩ (λ hJ=>?_)
   refine tkH 0 92 ?_
   refine tkH 1 93 ?_
   refine tkH 2 94 ?_
   refine tkU 3 95 ?_
   refine tkU 4 96 ?_
   refine tkH 5 97 ?_
   obtain⟨wd,hwd⟩:∃ W,w8.drew=W:=⟨_,rfl⟩
   have HM9:=Xj (HM8.o.be (Below.refl _ _).drew)
   have HR9:=Xj (HR8.o.be (Below.refl _ _).drew)
   rw[hwd] at hJ HM9 HR9 ⊢
   have hsd:w8.heap.size=wd.heap.size:=by rw[<- hwd];rfl
   clear hwd
   obtain⟨u0,u1,u2,u3,u4,u5⟩:=HR9.o.cells
   obtain⟨k0,k1,k2,k3,k4,k5⟩:=HR9.o.froz
   have huc:=HR9.o.lt
   refine rdH 6 λ K0 hK=>?_
   go_simp
   refine goH hK ⟨Xm (by omega) hJ.1,Xm (by omega) hJ.2.1,Xm (by omega) hJ.2.2.1,Xm (by omega) hJ.2.2.2.1,Xm (by omega) hJ.2.2.2.2.1,Xm (by omega) hJ.2.2.2.2.2⟩ λ hJ=>?_
   clear hK K0
   refine tkH 7 3 ?_
   refine wpAnyH_done (by kernel_rfl) ?_ _
   refine Xz ?_
   clear u0 u1 u2 u3 u4 u5 k0 k1 k2 k3 k4 k5 hJ
   have hZ:=Ju (lv:=.pr) (rest:=r5) HM9.o HR9.o (show w.heap.size<=gR by omega) (by have h1:=HL7.o;have h2:=HRT.o;omega) h a n c false (.inr ⟨rfl,HB.o⟩)
   obtain⟨wz,hwz⟩:∃ W,set6 wd gR (.int .i64 h.k) (.int .i64 h.op) (.int .i64 h.v) (.int .i64 h.ln) (.string (st h.nm)) (.slice a n c)=W:=⟨_,rfl⟩
   have hY:=hwz
   unfold set6 at hY
   (try rw[hY])
   obtain⟨hd,hep⟩:=hZ wz hwz.symm
   obtain⟨d0,d1,d2,d3,d4,d5⟩:=hd.cells
   clear hZ
   go_wp2_with fail
   refine bodyPost_ret (v:=.tuple #[exv h (.slice a n c),.bool false]) (by simp[results,Tryz.results208,go_sem,d0,d1,d2,d3,d4,d5]) rfl ?_
   exact hep
  obtain⟨ar,hps,har,hlt⟩:∃ ar,Ps .ex r5.tail (.ok (Xh h ar) r7)/\Xk w8 (TBk w gR gx) ar (.slice a n c)/\r7.length<r5.tail.length:=by
   rcases hjm.o with⟨_,h1⟩|⟨h1,_⟩
   ·exact h1
   cases h1
  have HPS:=Xj hps
  have HAR:=Xj har
  have HLT:=Xj hlt
  clear hps har hlt hjm
  refine wp_region_held_drew (S:=(λ w'=>w'.cell? ⟨gx,0,none⟩=some (.int .i64 h.k)/\w'.cell? ⟨gx,1,none⟩=some (.int .i64 h.op)/\w'.cell? ⟨gx,2,none⟩=some (.int .i64 h.v)/\w'.cell? ⟨gx,3,none⟩=some (.int .i64 h.ln)/\w'.cell? ⟨gx,4,none⟩=some (.string (st h.nm))/\w'.cell? ⟨gx,5,none⟩=some (.slice a n c))) (by kernel_rfl) ⟨q0,q1,q2,q3,q4,q5⟩ (λ hJ=>?_)
  refine tkH 0 92 ?_
  refine tkH 1 93 ?_
  refine tkH 2 94 ?_
  refine tkH 3 95 ?_
  refine rdH 4 λ K0 hK=>?_
  go_simp
  refine(Yj K at7 r7 [41] _ (HM8.o.be (Below.refl _ _).drew).pat).mono ?_
  rintro e w9 ⟨at9,r9,rfl,hp9,hg9,hc9⟩
  have hjn:∀ p:Addr,p.block<w8.heap.size->p.block≠K.g->w9.cell? p=w8.drew.cell? p:=λ p hp hn=>hg9.cell_far p (by exact hp) (by simp;omega)
  refine goH hK ⟨(hjn ⟨gx,0,none⟩ (by show gx<_;omega) (by show gx≠K.g;omega)).trans hJ.1,(hjn ⟨gx,1,none⟩ (by show gx<_;omega) (by show gx≠K.g;omega)).trans hJ.2.1,(hjn ⟨gx,2,none⟩ (by show gx<_;omega) (by show gx≠K.g;omega)).trans hJ.2.2.1,(hjn ⟨gx,3,none⟩ (by show gx<_;omega) (by show gx≠K.g;omega)).trans hJ.2.2.2.1,(hjn ⟨gx,4,none⟩ (by show gx<_;omega) (by show gx≠K.g;omega)).trans hJ.2.2.2.2.1,(hjn ⟨gx,5,none⟩ (by show gx<_;omega) (by show gx≠K.g;omega)).trans hJ.2.2.2.2.2⟩ λ hJ=>?_
  clear hK K0
  have HM9:=Xj ((HM8.o.be (Below.refl _ _).drew).call hp9 hg9)
  have HR9:=Xj ((HR8.o.be (Below.refl _ _).drew).gr hg9 hum)
  have HAR9:=Xj (Zq (w:=w8.drew) (HAR.o.keep (Q:=TBk w gR gx) (λ b hb hlt=>⟨rfl,hb⟩) (Nat.le_refl _)) hg9 (λ b hb=>by have:=hb.1;omega))
  clear hp9 hjn
  refine tkH 5 97 ?_
  obtain⟨u0,u1,u2,u3,u4,u5⟩:=HR9.o.cells
  obtain⟨k0,k1,k2,k3,k4,k5⟩:=HR9.o.froz
  have huc:=HR9.o.lt
  refine rdH 6 λ K0 hK=>?_
  go_simp
  refine goH hK ⟨Xm (by omega) hJ.1,Xm (by omega) hJ.2.1,Xm (by omega) hJ.2.2.1,Xm (by omega) hJ.2.2.2.1,Xm (by omega) hJ.2.2.2.2.1,Xm (by omega) hJ.2.2.2.2.2⟩ λ hJ=>?_
  clear hK K0
  refine tkH 7 3 ?_
  refine wpAnyH_done (by kernel_rfl) ?_ _
  refine Xz ?_
  rcases hc9 with⟨h41,rfl,rfl⟩|⟨h41,rfl,rfl⟩
  ·(try rw[h41])
   clear u0 u1 u2 u3 u4 u5 k0 k1 k2 k3 k4 k5 hJ
   have hZ:=Ju (lv:=.pr) (rest:=r5) HM9.o HR9.o (show w.heap.size<=gR by omega) (by have h1:=HLT.o;have h2:=HRT.o;simp only[List.length_tail];omega) h a n c true (.inl ⟨rfl,ar,Ps.pr_par HT.o HPS.o h41,Xc HAR9.o (λ b hb _=>⟨hb.1,hb.2.1⟩),by have h1:=HLT.o;have h2:=HRT.o;simp only[List.length_tail];omega⟩)
   obtain⟨wz,hwz⟩:∃ W,set6 w9 gR (.int .i64 h.k) (.int .i64 h.op) (.int .i64 h.v) (.int .i64 h.ln) (.string (st h.nm)) (.slice a n c)=W:=⟨_,rfl⟩
   have hY:=hwz
   unfold set6 at hY
   (try rw[hY])
   obtain⟨hd,hep⟩:=hZ wz hwz.symm
   obtain⟨d0,d1,d2,d3,d4,d5⟩:=hd.cells
   clear hZ
   go_wp2_with fail
   refine bodyPost_ret (v:=.tuple #[exv h (.slice a n c),.bool true]) (by simp[results,Tryz.results208,go_sem,d0,d1,d2,d3,d4,d5]) rfl ?_
   exact hep
  (try rw[h41])
  clear u0 u1 u2 u3 u4 u5 k0 k1 k2 k3 k4 k5 hJ
  have hZ:=Ju (lv:=.pr) (rest:=r5) HM9.o HR9.o (show w.heap.size<=gR by omega) (by have h1:=HL7.o;have h2:=HRT.o;omega) h a n c false (.inr ⟨rfl,Ps.pr_par_bad2 HT.o HPS.o h41⟩)
  obtain⟨wz,hwz⟩:∃ W,set6 w9 gR (.int .i64 h.k) (.int .i64 h.op) (.int .i64 h.v) (.int .i64 h.ln) (.string (st h.nm)) (.slice a n c)=W:=⟨_,rfl⟩
  have hY:=hwz
  unfold set6 at hY
  (try rw[hY])
  obtain⟨hd,hep⟩:=hZ wz hwz.symm
  obtain⟨d0,d1,d2,d3,d4,d5⟩:=hd.cells
  clear hZ
  go_wp2_with fail
  refine bodyPost_ret (v:=.tuple #[exv h (.slice a n c),.bool false]) (by simp[results,Tryz.results208,go_sem,d0,d1,d2,d3,d4,d5]) rfl ?_
  exact hep
 have HN40:=Xj hT
 rw[hT]
 clear hT
 obtain⟨t0,t1,t2,t3⟩:=HT6.o.cells
 (try dsimp only at t0 t1 t2 t3)
 obtain⟨y0,y1,y2,y3,y4,y5⟩:=HR6.o.cells
 obtain⟨g0,g1,g2,g3,g4,g5⟩:=HR6.o.froz
 have hlR:=HR6.o.lt
 have hlT:=HT6.o.lt
 go_wp2_with fail
 have hZ:=Ju (lv:=.pr) (rest:=r6) HM6.o HR6.o (show w.heap.size<=gR by have:=HGR.o;omega) (Nat.le_refl _) ⟨0,0,0,0,[]⟩ none 0 0 false (.inr ⟨rfl,Ps.pr_bad (by have:=HKT.o.1;have:=HN12.o.1;omega) (by have:=HKT.o.1;have:=HN12.o.2;omega) HN38.o hmh.o HN40.o⟩)
 obtain⟨wz,hwz⟩:∃ W,set6 w6 gR (.int .i64 0) (.int .i64 0) (.int .i64 0) (.int .i64 0) (.string { data := #[] }) (.slice none 0 0)=W:=⟨_,rfl⟩
 have hY:=hwz
 unfold set6 at hY
 (try rw[hY])
 obtain⟨hd,hep⟩:=hZ wz hwz.symm
 obtain⟨d0,d1,d2,d3,d4,d5⟩:=hd.cells
 refine bodyPost_ret (v:=.tuple #[exv ⟨0,0,0,0,[]⟩ (.slice none 0 0),.bool false]) (by simp[results,Tryz.results208,go_sem,d0,d1,d2,d3,d4,d5]) rfl ?_
 exact hep
end
end Go.Proofs.YtldgghnjminhiaaGreatDoor
