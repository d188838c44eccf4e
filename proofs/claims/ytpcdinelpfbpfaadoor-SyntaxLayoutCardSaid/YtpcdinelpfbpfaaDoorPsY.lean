/-
  WALKS of the implementation's parser: compare, unary. (Filled in from a template of this repo, printed by mk_psy.py.)
-/
import Derived.Test.YtpcdinelpfbpfaaDoorPsX
namespace Go.Proofs.YtpcdinelpfbpfaaDoor
open Go.ChangeShapes Go.WideShapes Go.ChangeAt Go.RowKit
set_option linter.unusedVariables false
set_option linter.unusedSimpArgs false

set_option maxRecDepth 100000 in
set_option maxHeartbeats 8000000 in
theorem compare_of (m:Nat) (hA:CE 54 .su m):CE 42 .cm m:=by
 intro K at_ rest w hP hm
 have HM1:=Lib.hid ((MS.init hP).al zex)
 have HR1:=Lib.hid (Lc.zero w)
 have HA:=Lib.hid hA
 have HMm:=Lib.hid hm
 clear hA hP hm
 go_enter Tryd.func42,Tryd.ntmps42
 go_upto_region 1 with fail
 obtain⟨w1,hw1⟩ : ∃ W,w.alloc zex=W:=⟨_,rfl⟩
 obtain⟨gR,hgR⟩ : ∃ x,w.heap.size=x:=⟨_,rfl⟩
 (try rw [show w.alloc (.cells #[.int .i64 0,.int .i64 0,.int .i64 0,.int .i64 0,.string { data := #[] },.slice none 0 0] 40)=w1 from hw1])
 rw [hw1] at HM1 HR1
 rw [hgR] at HR1
 (try rw [hgR])
 have HGR:=Lib.hid hgR
 have HS1:Hid (w1.heap.size=gR+1):=Lib.hid (by rw [<- hw1,<- hgR];simp)
 clear hw1 hgR
 go_wp2_with fail
 refine(HA.out K at_ rest _ HM1.out.pat HMm.out).mono ?_
 rintro e w2 ⟨h,a,n,c,ok,at2,r,rfl,hp2,hle2,hg2,hres⟩
 have HM2:=Lib.hid (HM1.out.call hp2 hg2)
 have HR2:=Lib.hid (HR1.out.gr hg2 (by have:=HM1.out.gl;have:=HGR.out;omega))
 have hs2:=hg2.size
 have HM3:=Lib.hid (HM2.out.al (.cells (ecs h (.slice a n c)) 40))
 have HR3:=Lib.hid (HR2.out.al (.cells (ecs h (.slice a n c)) 40))
 have HX3:=Lib.hid (Lc.new w2 h (.slice a n c))
 have HRES3:Hid ((ok=true /\ ∃ ar,Ps .su rest (.ok (one1 h ar) r)/\ArgsAt (w2.alloc (.cells (ecs h (.slice a n c)) 40)) (TBk w gR w2.heap.size) ar (.slice a n c)/\r.length<rest.length)\/(ok=false/\Ps .su rest (.bad r))):=Lib.hid (by
  rcases hres.out with⟨h1,ar,h2,h3,h4⟩ | ⟨h1,h2⟩
  ·exact .inl ⟨h1,ar,h2,args_mono (args_al _ h3) (fun b hb _=>⟨by have:=hb.1;have:=HS1.out;have:=HGR.out;omega,by have:=hb.1;have:=HS1.out;omega,hb.2⟩),h4⟩
  ·exact .inr ⟨h1,h2⟩)
 clear hres hp2 hg2
 go_upto_region 2 with fail
 obtain⟨w3,hw3⟩ : ∃ W,w2.alloc (.cells (ecs h (.slice a n c)) 40)=W:=⟨_,rfl⟩
 obtain⟨gx,hgx⟩ : ∃ x,w2.heap.size=x:=⟨_,rfl⟩
 (try rw [show w2.alloc (.cells #[.int .i64 h.k,.int .i64 h.op,.int .i64 h.v,.int .i64 h.ln,.string (st h.nm),.slice a n c] 40)=w3 from hw3])
 rw [hw3] at HM3 HR3 HX3 HRES3
 rw [hgx] at HX3 HRES3
 (try rw [hgx])
 have HGX:Hid (gR<gx):=Lib.hid (by have:=HS1.out;omega)
 have HLE:=Lib.hid hle2
 have hgg:=HM3.out.gl
 have HGRo:=HGR.out
 have HGXo:=HGX.out
 clear hw3 hgx hs2 hle2 HM2 HR2 HM1 HR1
 obtain⟨x0,x1,x2,x3,x4,x5⟩:=HX3.out.cells
 obtain⟨y0,y1,y2,y3,y4,y5⟩:=HR3.out.cells
 obtain⟨g0,g1,g2,g3,g4,g5⟩:=HR3.out.froz
 have hlR:=HR3.out.lt
 have hlX:=HX3.out.lt
 cases ok
 ·have HB:Hid (Ps .cm rest (.bad r)):=Lib.hid (by
   rcases HRES3.out with⟨h1,_⟩ | ⟨_,h1⟩
   ·cases h1
   ·exact Ps.cm_bad h1)
  have HRf:=HR3
  have HMf:=HM3
  go_wp2_with fail
  have HDZ:=Lib.hid (HRf.out.s6 h (.slice a n c))
  have HMZ:=Lib.hid (HMf.out.s6 (b:=gR) (by have:=HGR.out;omega) (.int .i64 (Hd.k h)) (.int .i64 (Hd.op h)) (.int .i64 (Hd.v h)) (.int .i64 (Hd.ln h)) (.string (st (Hd.nm h))) (.slice a n c))
  have HEZ:=Lib.hid (show _ from (Or.inr ⟨rfl,HB.out⟩:(false=true /\ ∃ ar,Ps .cm rest (.ok (one1 h ar) r)/\ArgsAt (set6 w3 gR (.int .i64 (Hd.k h)) (.int .i64 (Hd.op h)) (.int .i64 (Hd.v h)) (.int .i64 (Hd.ln h)) (.string (st (Hd.nm h))) (.slice a n c)) (fun b=>w.heap.size<=b) ar (.slice a n c)/\r.length<rest.length)\/(false=false/\Ps .cm rest (.bad r))))
  obtain⟨wz,hwz⟩ : ∃ W,set6 w3 gR (.int .i64 (Hd.k h)) (.int .i64 (Hd.op h)) (.int .i64 (Hd.v h)) (.int .i64 (Hd.ln h)) (.string (st (Hd.nm h))) (.slice a n c)=W:=⟨_,rfl⟩
  have hwz2:=hwz
  unfold set6 at hwz2
  (try rw [hwz2])
  rw [hwz] at HDZ HMZ HEZ
  obtain⟨d0,d1,d2,d3,d4,d5⟩:=HDZ.out.cells
  refine bodyPost_ret (v:=.tuple #[exv h (.slice a n c),.bool false]) (by simp [results,Tryd.results42,go_sem,d0,d1,d2,d3,d4,d5]) rfl ?_
  exact⟨h,_,_,_,false,at2,r,rfl,HMZ.out.pat,by exact HLE.out,HMZ.out.gr,Lib.hid HEZ.out⟩
 ·obtain⟨ar,hps,har,hlt⟩ : ∃ ar,Ps .su rest (.ok (one1 h ar) r)/\ArgsAt w3 (TBk w gR gx) ar (.slice a n c)/\r.length<rest.length:=by
   rcases HRES3.out with⟨_,h1⟩ | ⟨h1,_⟩
   ·exact h1
   ·cases h1
  have HPS:=Lib.hid hps
  have HAR:=Lib.hid har
  have HLT:=Lib.hid hlt
  have HOP:=Lib.hid (operator_any K 8 11 (by omega) at2 r w3 HM3.out.pat)
  clear hps har hlt HRES3 x0 x1 x2 x3 x4 x5 y0 y1 y2 y3 y4 y5 g0 g1 g2 g3 g4 g5
  go_wp2_with fail
  refine HOP.out.mono ?_
  rintro e w4 ⟨at4,r4,hp4,hg4,hres⟩
  have HM4:=Lib.hid (HM3.out.call hp4 hg4)
  have HR4:=Lib.hid (HR3.out.gr hg4 (by omega))
  have HX4:=Lib.hid (HX3.out.gr hg4 (by omega))
  have HAR4:=Lib.hid (args_gr HAR.out hg4 (fun b hb=>by have:=hb.1;omega))
  obtain⟨x0,x1,x2,x3,x4,x5⟩:=HX4.out.cells
  obtain⟨y0,y1,y2,y3,y4,y5⟩:=HR4.out.cells
  obtain⟨g0,g1,g2,g3,g4,g5⟩:=HR4.out.froz
  have hlR4:=HR4.out.lt
  have hlX4:=HX4.out.lt
  clear hp4 hg4
  rcases hres with⟨hT,rfl,rfl,rfl⟩ | ⟨hT,rfl,rfl,rfl⟩
  ·have HT:=Lib.hid hT
   obtain⟨op,hop⟩ : ∃ o,opIn 8 11 r=o:=⟨_,rfl⟩
   obtain⟨tn,htn⟩ : ∃ o,lnOf r=o:=⟨_,rfl⟩
   have HLN:=Lib.hid (And.intro hop htn)
   have HRT:Hid (r.tail.length<r.length):=Lib.hid (tail_lt (by intro e;rw [e] at hT;exact hT rfl))
   have dop:(op==0)=false:=by rw [beq_eq_false_iff_ne,<- hop];exact hT
   have dop2:(op != 0)=true:=by rw [bne_iff_ne,<- hop];exact hT
   (try rw [hop])
   (try rw [htn])
   clear hT hop htn x0 x1 x2 x3 x4 x5 y0 y1 y2 y3 y4 y5 g0 g1 g2 g3 g4 g5
   go_wp2_with fail
   refine(HA.out K (at2+1) r.tail _ HM4.out.pat (by have:=HRT.out;have:=HLE.out;have:=HMm.out;omega)).mono ?_
   rintro e w7 ⟨h2,a2,n2,c2,ok2,at7,r7,rfl,hp7,hle7,hg7,hres7⟩
   have hs7:=hg7.size
   have HM7:=Lib.hid ((HM4.out.call hp7 hg7).al (.cells (ecs h2 (.slice a2 n2 c2)) 40))
   have HR7:=Lib.hid ((HR4.out.gr hg7 (by omega)).al (.cells (ecs h2 (.slice a2 n2 c2)) 40))
   have HX7:=Lib.hid ((HX4.out.gr hg7 (by omega)).al (.cells (ecs h2 (.slice a2 n2 c2)) 40))
   have HY7:=Lib.hid (Lc.new w7 h2 (.slice a2 n2 c2))
   have HAR7:=Lib.hid (args_mono (args_al (.cells (ecs h2 (.slice a2 n2 c2)) 40) (args_gr HAR4.out hg7 (fun b hb=>by have:=hb.1;omega))) (fun b hb _=>hb.1))
   have HRS7:Hid ((ok2=true /\ ∃ ar2,Ps .su r.tail (.ok (one1 h2 ar2) r7)/\ArgsAt (w7.alloc (.cells (ecs h2 (.slice a2 n2 c2)) 40)) (TBk w gR gx) ar2 (.slice a2 n2 c2)/\r7.length<r.tail.length)\/(ok2=false/\Ps .su r.tail (.bad r7))):=Lib.hid (by
    rcases hres7.out with⟨h1,ar2,h2',h3,h4⟩ | hr
    ·exact .inl ⟨h1,ar2,h2',args_mono (args_al _ h3) (fun b hb _=>⟨by have:=hb.1;omega,by have:=hb.1;omega,by have:=hb.1;omega⟩),h4⟩
    ·exact .inr hr)
   clear hres7 hp7 hg7 HM4 HR4 HX4 HAR4
   go_upto_region 7 with fail
   obtain⟨w8,hw8⟩ : ∃ W,w7.alloc (.cells (ecs h2 (.slice a2 n2 c2)) 40)=W:=⟨_,rfl⟩
   obtain⟨gy,hgy⟩ : ∃ x,w7.heap.size=x:=⟨_,rfl⟩
   (try rw [show w7.alloc (.cells #[.int .i64 h2.k,.int .i64 h2.op,.int .i64 h2.v,.int .i64 h2.ln,.string (st h2.nm),.slice a2 n2 c2] 40)=w8 from hw8])
   rw [hw8] at HM7 HR7 HX7 HY7 HAR7 HRS7
   rw [hgy] at HY7 hs7
   (try rw [hgy])
   clear hw8 hgy
   obtain⟨q0,q1,q2,q3,q4,q5⟩:=HX7.out.cells
   obtain⟨v0,v1,v2,v3,v4,v5⟩:=HY7.out.cells
   obtain⟨k0,k1,k2,k3,k4,k5⟩:=HR7.out.froz
   obtain⟨u0,u1,u2,u3,u4,u5⟩:=HR7.out.cells
   have hlX8:=HX7.out.lt
   have hlY8:=HY7.out.lt
   have hlR8:=HR7.out.lt
   have hfin : ∀ W,W=(set6 w8 gR (.int .i64 6) (.int .i64 op) (.int .i64 0) (.int .i64 tn) (.string { data := #[] }) (.slice (some ⟨w8.heap.size,0,none⟩) 2 2)).alloc (.cells #[.int .i64 h.k,.int .i64 h.op,.int .i64 h.v,.int .i64 h.ln,.string (st h.nm),.slice a n c,.int .i64 h2.k,.int .i64 h2.op,.int .i64 h2.v,.int .i64 h2.ln,.string (st h2.nm),.slice a2 n2 c2] 40) ->
     Lc W gR ⟨6,op,0,tn,[]⟩ (.slice (some ⟨w8.heap.size,0,none⟩) 2 2)/\EP K .cm rest w (.returned (.tuple #[exv ⟨6,op,0,tn,[]⟩ (.slice (some ⟨w8.heap.size,0,none⟩) 2 2),.bool ok2])) W:=fun W hW=>by
    rw [<- set6_alloc _ HR7.out.lt] at hW
    have hA:=HR7.out.al (.cells #[.int .i64 h.k,.int .i64 h.op,.int .i64 h.v,.int .i64 h.ln,.string (st h.nm),.slice a n c,.int .i64 h2.k,.int .i64 h2.op,.int .i64 h2.v,.int .i64 h2.ln,.string (st h2.nm),.slice a2 n2 c2] 40)
    subst hW
    have hms:=(HM7.out.al (.cells #[.int .i64 h.k,.int .i64 h.op,.int .i64 h.v,.int .i64 h.ln,.string (st h.nm),.slice a n c,.int .i64 h2.k,.int .i64 h2.op,.int .i64 h2.v,.int .i64 h2.ln,.string (st h2.nm),.slice a2 n2 c2] 40)).s6 (b:=gR) (by omega) (.int .i64 6) (.int .i64 op) (.int .i64 0) (.int .i64 tn) (.string { data := #[] }) (.slice (some ⟨w8.heap.size,0,none⟩) 2 2)
    refine⟨hA.s6 ⟨6,op,0,tn,[]⟩ (.slice (some ⟨w8.heap.size,0,none⟩) 2 2),⟨6,op,0,tn,[]⟩,_,_,_,ok2,at7,r7,rfl,hms.pat,by have:=HRT.out;have:=HLE.out;omega,hms.gr,Lib.hid ?_⟩
    rcases HRS7.out with⟨h1,ar2,h2',h3,h4⟩ | ⟨h1,h2'⟩
    ·refine .inl ⟨h1,(one1 h ar).app (one1 h2 ar2),?_,?_,by have:=HRT.out;have:=HLT.out;omega⟩
     ·have:=Ps.cm_two HPS.out HT.out h2'
      rw [HLN.out.1,HLN.out.2] at this
      exact this
     ·exact args_mono (args_s6 (two_made (Q:=TBk w gR gx) HAR7.out h3 (fun b hb _=>hb) ⟨by have:=HM7.out.gr.size;omega,by have:=HR7.out.lt;omega,by have:=HX7.out.lt;omega⟩) (fun b hb=>hb.2.1)) (fun b hb _=>hb.1)
    ·exact .inr ⟨h1,Ps.cm_two_bad HPS.out HT.out h2'⟩
   have HFIN:=Lib.hid hfin
   clear hfin
   go_wp2_with fail
   obtain⟨wz,hwz⟩ : ∃ W,(set6 w8 gR (.int .i64 6) (.int .i64 op) (.int .i64 0) (.int .i64 tn) (.string { data := #[] }) (.slice (some ⟨w8.heap.size,0,none⟩) 2 2)).alloc (.cells #[.int .i64 h.k,.int .i64 h.op,.int .i64 h.v,.int .i64 h.ln,.string (st h.nm),.slice a n c,.int .i64 h2.k,.int .i64 h2.op,.int .i64 h2.v,.int .i64 h2.ln,.string (st h2.nm),.slice a2 n2 c2] 40)=W:=⟨_,rfl⟩
   have hwz2:=hwz
   unfold set6 at hwz2
   (try rw [hwz2])
   obtain⟨hd,hep⟩:=HFIN.out wz hwz.symm
   obtain⟨d0,d1,d2,d3,d4,d5⟩:=hd.cells
   refine bodyPost_ret (v:=.tuple #[exv ⟨6,op,0,tn,[]⟩ (.slice (some ⟨w8.heap.size,0,none⟩) 2 2),.bool ok2]) (by simp [results,Tryd.results42,go_sem,d0,d1,d2,d3,d4,d5]) rfl ?_
   exact hep
  ·have HZ:Hid (Ps .cm rest (.ok (one1 h ar) r4)):=Lib.hid (Ps.cm_end HPS.out hT)
   have HRf:=HR4
   have HMf:=HM4
   clear hT
   go_wp2_with fail
   have HDZ:=Lib.hid (HRf.out.s6 h (.slice a n c))
   have HMZ:=Lib.hid (HMf.out.s6 (b:=gR) (by have:=HGR.out;omega) (.int .i64 (Hd.k h)) (.int .i64 (Hd.op h)) (.int .i64 (Hd.v h)) (.int .i64 (Hd.ln h)) (.string (st (Hd.nm h))) (.slice a n c))
   have HEZ:=Lib.hid (args_mono (args_s6 (v0:=.int .i64 (Hd.k h)) (v1:=.int .i64 (Hd.op h)) (v2:=.int .i64 (Hd.v h)) (v3:=.int .i64 (Hd.ln h)) (v4:=.string (st (Hd.nm h))) (v5:=.slice a n c) HAR4.out (fun b hb=>hb.2.1)) (Q:=fun b=>w.heap.size<=b) (fun b hb _=>hb.1))
   obtain⟨wz,hwz⟩ : ∃ W,set6 w4 gR (.int .i64 (Hd.k h)) (.int .i64 (Hd.op h)) (.int .i64 (Hd.v h)) (.int .i64 (Hd.ln h)) (.string (st (Hd.nm h))) (.slice a n c)=W:=⟨_,rfl⟩
   have hwz2:=hwz
   unfold set6 at hwz2
   (try rw [hwz2])
   rw [hwz] at HDZ HMZ HEZ
   obtain⟨d0,d1,d2,d3,d4,d5⟩:=HDZ.out.cells
   refine bodyPost_ret (v:=.tuple #[exv h (.slice a n c),.bool true]) (by simp [results,Tryd.results42,go_sem,d0,d1,d2,d3,d4,d5]) rfl ?_
   exact⟨h,_,_,_,true,at4,r4,rfl,HMZ.out.pat,HLE.out,HMZ.out.gr,Lib.hid (.inl ⟨rfl,ar,HZ.out,HEZ.out,HLT.out⟩)⟩
set_option maxRecDepth 100000 in
set_option maxHeartbeats 8000000 in
theorem unary_step (m:Nat) (hC:CE 88 .ca m) (hU : ∀ j,j<m->CE 80 .un j):CE 80 .un m:=by
 intro K at_ rest w hP hm
 have HM1:=Lib.hid ((MS.init hP).al zex)
 have HR1:=Lib.hid (Lc.zero w)
 have HC:=Lib.hid hC
 have HMm:=Lib.hid hm
 have HU:Hid (∀ (w2:World),PAt w2 K (at_+1) rest.tail->rest.tail.length<m->Calls Tryd.prog 80 #[.pointer (some ⟨K.g,0,none⟩)] w2 (EP K .un rest.tail w2)):=Lib.hid (fun w2 hp hl=>hU _ hl K (at_+1) rest.tail w2 hp (Nat.le_refl _))
 obtain⟨⟨tk,tn,tv,tt⟩,r0,hr0⟩:=hP.en.cons
 have HRT:Hid (rest.tail.length<rest.length):=Lib.hid (by rw [hr0];simp)
 have HLN:Hid (lnOf rest=tn):=Lib.hid (by rw [hr0];rfl)
 have HX0:=Lib.hid hr0
 clear hC hU hP hm hr0
 go_enter Tryd.func80,Tryd.ntmps80
 go_upto_region 1 with fail
 obtain⟨w1,hw1⟩ : ∃ W,w.alloc zex=W:=⟨_,rfl⟩
 obtain⟨gR,hgR⟩ : ∃ x,w.heap.size=x:=⟨_,rfl⟩
 (try rw [show w.alloc (.cells #[.int .i64 0,.int .i64 0,.int .i64 0,.int .i64 0,.string { data := #[] },.slice none 0 0] 40)=w1 from hw1])
 rw [hw1] at HM1 HR1
 rw [hgR] at HR1
 (try rw [hgR])
 have HGR:=Lib.hid hgR
 have HS1:Hid (w1.heap.size=gR+1):=Lib.hid (by rw [<- hw1,<- hgR];simp)
 clear hw1 hgR
 have HLO:=Lib.hid (look_at K at_ tk tn tv tt r0 w1 (HX0.out▸HM1.out.pat))
 have hfd : ∀ W:World,(Instr.field 56 (.agg #[.int .i64 tk,.int .i64 tn,.int .i64 tv,.string (st tt)]) 1).run Tryd.prog W=.ok (.int .i64 tn) W:=fun _=>by kernel_rfl
 go_wp2_with fail
 refine HLO.out.mono ?_
 rintro e w2 ⟨rfl,hb2⟩
 have HM2:=Lib.hid (HM1.out.be hb2)
 have HR2:=Lib.hid (HR1.out.be hb2)
 clear hb2 HM1 HR1
 go_wp2_with fail
 refine(accept_any K at_ rest [45] _ HM2.out.pat).mono ?_
 rintro e w3 ⟨at3,r3,rfl,hp3,hg3,hc3⟩
 have HM3:=Lib.hid (HM2.out.call hp3 hg3)
 have HR3:=Lib.hid (HR2.out.gr hg3 (by have:=HM2.out.gl;have:=HGR.out;omega))
 clear hp3 hg3 HM2 HR2
 rcases hc3 with⟨hT,rfl,rfl⟩ | ⟨hT,rfl,rfl⟩
 ·have HT:=Lib.hid hT
  rw [hT]
  clear hT
  have HACM:=HM3
  have HACR:=HR3
  have hU:=HU.out
  go_wp2_with fail
  refine(hU _ HACM.out.pat (by have:=HRT.out;have:=HMm.out;omega)).mono ?_
  rintro e w7 ⟨h,a,n,c,ok,at7,r7,rfl,hp7,hle7,hg7,hres7⟩
  have hs7:=hg7.size
  have hgl:=HACM.out.gl
  have hwb:=HACM.out.gr.size
  have HM7:=Lib.hid ((HACM.out.call hp7 hg7).al (.cells (ecs h (.slice a n c)) 40))
  have HR7:=Lib.hid ((HACR.out.gr hg7 (by have:=HGR.out;omega)).al (.cells (ecs h (.slice a n c)) 40))
  have HY7:=Lib.hid (Lc.new w7 h (.slice a n c))
  have HWB:Hid (gR<w3.heap.size):=Lib.hid HACR.out.lt
  have HRS7:Hid ((ok=true /\ ∃ ar,Ps .un rest.tail (.ok (one1 h ar) r7)/\ArgsAt (w7.alloc (.cells (ecs h (.slice a n c)) 40)) (TBk w gR w7.heap.size) ar (.slice a n c)/\r7.length<rest.tail.length)\/(ok=false/\Ps .un rest.tail (.bad r7))):=Lib.hid (by
   rcases hres7.out with⟨h1,ar2,h2',h3,h4⟩ | hr
   ·exact .inl ⟨h1,ar2,h2',args_mono (args_al _ h3) (fun b hb _=>⟨by have:=hb.1;omega,by have:=hb.1;have:=HWB.out;omega,hb.2⟩),h4⟩
   ·exact .inr hr)
  clear hres7 hp7 hg7
  go_upto_region 8 with fail
  obtain⟨w8,hw8⟩ : ∃ W,w7.alloc (.cells (ecs h (.slice a n c)) 40)=W:=⟨_,rfl⟩
  obtain⟨gx,hgx⟩ : ∃ x,w7.heap.size=x:=⟨_,rfl⟩
  (try rw [show w7.alloc (.cells #[.int .i64 h.k,.int .i64 h.op,.int .i64 h.v,.int .i64 h.ln,.string (st h.nm),.slice a n c] 40)=w8 from hw8])
  rw [hw8] at HM7 HR7 HY7 HRS7
  rw [hgx] at HY7 HRS7 hs7
  (try rw [hgx])
  clear hw8 hgx
  obtain⟨v0,v1,v2,v3,v4,v5⟩:=HY7.out.cells
  obtain⟨k0,k1,k2,k3,k4,k5⟩:=HR7.out.froz
  obtain⟨u0,u1,u2,u3,u4,u5⟩:=HR7.out.cells
  have hlY8:=HY7.out.lt
  have hlR8:=HR7.out.lt
  have HGRo:=HGR.out
  have hfin : ∀ W,W=(set6 w8 gR (.int .i64 5) (.int .i64 1) (.int .i64 0) (.int .i64 tn) (.string { data := #[] }) (.slice (some ⟨w8.heap.size,0,none⟩) 1 1)).alloc (.cells #[.int .i64 h.k,.int .i64 h.op,.int .i64 h.v,.int .i64 h.ln,.string (st h.nm),.slice a n c] 40) ->
    Lc W gR ⟨5,1,0,tn,[]⟩ (.slice (some ⟨w8.heap.size,0,none⟩) 1 1)/\EP K .un rest w (.returned (.tuple #[exv ⟨5,1,0,tn,[]⟩ (.slice (some ⟨w8.heap.size,0,none⟩) 1 1),.bool ok])) W:=fun W hW=>by
   rw [<- set6_alloc _ HR7.out.lt] at hW
   have hA:=HR7.out.al (.cells #[.int .i64 h.k,.int .i64 h.op,.int .i64 h.v,.int .i64 h.ln,.string (st h.nm),.slice a n c] 40)
   subst hW
   have hms:=(HM7.out.al (.cells #[.int .i64 h.k,.int .i64 h.op,.int .i64 h.v,.int .i64 h.ln,.string (st h.nm),.slice a n c] 40)).s6 (b:=gR) (by omega) (.int .i64 5) (.int .i64 1) (.int .i64 0) (.int .i64 tn) (.string { data := #[] }) (.slice (some ⟨w8.heap.size,0,none⟩) 1 1)
   refine⟨hA.s6 ⟨5,1,0,tn,[]⟩ (.slice (some ⟨w8.heap.size,0,none⟩) 1 1),⟨5,1,0,tn,[]⟩,_,_,_,ok,at7,r7,rfl,hms.pat,by have:=HRT.out;omega,hms.gr,Lib.hid ?_⟩
   rcases HRS7.out with⟨h1,ar,h2,h3,h4⟩ | ⟨h1,h2⟩
   ·refine .inl ⟨h1,one1 h ar,?_,?_,by have:=HRT.out;omega⟩
    ·have:=Ps.un_neg HT.out h2
     rw [HLN.out] at this
     exact this
    ·exact args_mono (args_s6 (one_made (Q:=TBk w gR gx) h3 (fun b hb _=>hb) ⟨by have:=HM7.out.gr.size;omega,by have:=HR7.out.lt;omega,by have:=HY7.out.lt;omega⟩) (fun b hb=>hb.2.1)) (fun b hb _=>hb.1)
   ·exact .inr ⟨h1,Ps.un_neg_bad HT.out h2⟩
  have HFIN:=Lib.hid hfin
  clear hfin
  go_wp2_with fail
  obtain⟨wz,hwz⟩ : ∃ W,(set6 w8 gR (.int .i64 5) (.int .i64 1) (.int .i64 0) (.int .i64 tn) (.string { data := #[] }) (.slice (some ⟨w8.heap.size,0,none⟩) 1 1)).alloc (.cells #[.int .i64 h.k,.int .i64 h.op,.int .i64 h.v,.int .i64 h.ln,.string (st h.nm),.slice a n c] 40)=W:=⟨_,rfl⟩
  have hwz2:=hwz
  unfold set6 at hwz2
  (try rw [hwz2])
  obtain⟨hd,hep⟩:=HFIN.out wz hwz.symm
  obtain⟨d0,d1,d2,d3,d4,d5⟩:=hd.cells
  refine bodyPost_ret (v:=.tuple #[exv ⟨5,1,0,tn,[]⟩ (.slice (some ⟨w8.heap.size,0,none⟩) 1 1),.bool ok]) (by simp [results,Tryd.results80,go_sem,d0,d1,d2,d3,d4,d5]) rfl ?_
  exact hep
 ·have HN0:=Lib.hid hT
  rw [hT]
  clear hT
  go_wp2_with fail
  refine(accept_any K at3 r3 [33] _ HM3.out.pat).mono ?_
  rintro e w4 ⟨at4,r4,rfl,hp4,hg4,hc4⟩
  have HM4:=Lib.hid (HM3.out.call hp4 hg4)
  have HR4:=Lib.hid (HR3.out.gr hg4 (by have:=HM3.out.gl;have:=HGR.out;omega))
  clear hp4 hg4 HM3 HR3
  rcases hc4 with⟨hT,rfl,rfl⟩ | ⟨hT,rfl,rfl⟩
  ·have HT:=Lib.hid hT
   rw [hT]
   clear hT
   have HACM:=HM4
   have HACR:=HR4
   have hU:=HU.out
   go_wp2_with fail
   refine(hU _ HACM.out.pat (by have:=HRT.out;have:=HMm.out;omega)).mono ?_
   rintro e w7 ⟨h,a,n,c,ok,at7,r7,rfl,hp7,hle7,hg7,hres7⟩
   have hs7:=hg7.size
   have hgl:=HACM.out.gl
   have hwb:=HACM.out.gr.size
   have HM7:=Lib.hid ((HACM.out.call hp7 hg7).al (.cells (ecs h (.slice a n c)) 40))
   have HR7:=Lib.hid ((HACR.out.gr hg7 (by have:=HGR.out;omega)).al (.cells (ecs h (.slice a n c)) 40))
   have HY7:=Lib.hid (Lc.new w7 h (.slice a n c))
   have HWB:Hid (gR<w4.heap.size):=Lib.hid HACR.out.lt
   have HRS7:Hid ((ok=true /\ ∃ ar,Ps .un r3.tail (.ok (one1 h ar) r7)/\ArgsAt (w7.alloc (.cells (ecs h (.slice a n c)) 40)) (TBk w gR w7.heap.size) ar (.slice a n c)/\r7.length<r3.tail.length)\/(ok=false/\Ps .un r3.tail (.bad r7))):=Lib.hid (by
    rcases hres7.out with⟨h1,ar2,h2',h3,h4⟩ | hr
    ·exact .inl ⟨h1,ar2,h2',args_mono (args_al _ h3) (fun b hb _=>⟨by have:=hb.1;omega,by have:=hb.1;have:=HWB.out;omega,hb.2⟩),h4⟩
    ·exact .inr hr)
   clear hres7 hp7 hg7
   go_upto_region 8 with fail
   obtain⟨w8,hw8⟩ : ∃ W,w7.alloc (.cells (ecs h (.slice a n c)) 40)=W:=⟨_,rfl⟩
   obtain⟨gx,hgx⟩ : ∃ x,w7.heap.size=x:=⟨_,rfl⟩
   (try rw [show w7.alloc (.cells #[.int .i64 h.k,.int .i64 h.op,.int .i64 h.v,.int .i64 h.ln,.string (st h.nm),.slice a n c] 40)=w8 from hw8])
   rw [hw8] at HM7 HR7 HY7 HRS7
   rw [hgx] at HY7 HRS7 hs7
   (try rw [hgx])
   clear hw8 hgx
   obtain⟨v0,v1,v2,v3,v4,v5⟩:=HY7.out.cells
   obtain⟨k0,k1,k2,k3,k4,k5⟩:=HR7.out.froz
   obtain⟨u0,u1,u2,u3,u4,u5⟩:=HR7.out.cells
   have hlY8:=HY7.out.lt
   have hlR8:=HR7.out.lt
   have HGRo:=HGR.out
   have hfin : ∀ W,W=(set6 w8 gR (.int .i64 5) (.int .i64 2) (.int .i64 0) (.int .i64 tn) (.string { data := #[] }) (.slice (some ⟨w8.heap.size,0,none⟩) 1 1)).alloc (.cells #[.int .i64 h.k,.int .i64 h.op,.int .i64 h.v,.int .i64 h.ln,.string (st h.nm),.slice a n c] 40) ->
     Lc W gR ⟨5,2,0,tn,[]⟩ (.slice (some ⟨w8.heap.size,0,none⟩) 1 1)/\EP K .un r3 w (.returned (.tuple #[exv ⟨5,2,0,tn,[]⟩ (.slice (some ⟨w8.heap.size,0,none⟩) 1 1),.bool ok])) W:=fun W hW=>by
    rw [<- set6_alloc _ HR7.out.lt] at hW
    have hA:=HR7.out.al (.cells #[.int .i64 h.k,.int .i64 h.op,.int .i64 h.v,.int .i64 h.ln,.string (st h.nm),.slice a n c] 40)
    subst hW
    have hms:=(HM7.out.al (.cells #[.int .i64 h.k,.int .i64 h.op,.int .i64 h.v,.int .i64 h.ln,.string (st h.nm),.slice a n c] 40)).s6 (b:=gR) (by omega) (.int .i64 5) (.int .i64 2) (.int .i64 0) (.int .i64 tn) (.string { data := #[] }) (.slice (some ⟨w8.heap.size,0,none⟩) 1 1)
    refine⟨hA.s6 ⟨5,2,0,tn,[]⟩ (.slice (some ⟨w8.heap.size,0,none⟩) 1 1),⟨5,2,0,tn,[]⟩,_,_,_,ok,at7,r7,rfl,hms.pat,by have:=HRT.out;omega,hms.gr,Lib.hid ?_⟩
    rcases HRS7.out with⟨h1,ar,h2,h3,h4⟩ | ⟨h1,h2⟩
    ·refine .inl ⟨h1,one1 h ar,?_,?_,by have:=HRT.out;omega⟩
     ·have:=Ps.un_not HN0.out HT.out h2
      rw [HLN.out] at this
      exact this
     ·exact args_mono (args_s6 (one_made (Q:=TBk w gR gx) h3 (fun b hb _=>hb) ⟨by have:=HM7.out.gr.size;omega,by have:=HR7.out.lt;omega,by have:=HY7.out.lt;omega⟩) (fun b hb=>hb.2.1)) (fun b hb _=>hb.1)
    ·exact .inr ⟨h1,Ps.un_not_bad HN0.out HT.out h2⟩
   have HFIN:=Lib.hid hfin
   clear hfin
   go_wp2_with fail
   obtain⟨wz,hwz⟩ : ∃ W,(set6 w8 gR (.int .i64 5) (.int .i64 2) (.int .i64 0) (.int .i64 tn) (.string { data := #[] }) (.slice (some ⟨w8.heap.size,0,none⟩) 1 1)).alloc (.cells #[.int .i64 h.k,.int .i64 h.op,.int .i64 h.v,.int .i64 h.ln,.string (st h.nm),.slice a n c] 40)=W:=⟨_,rfl⟩
   have hwz2:=hwz
   unfold set6 at hwz2
   (try rw [hwz2])
   obtain⟨hd,hep⟩:=HFIN.out wz hwz.symm
   obtain⟨d0,d1,d2,d3,d4,d5⟩:=hd.cells
   refine bodyPost_ret (v:=.tuple #[exv ⟨5,2,0,tn,[]⟩ (.slice (some ⟨w8.heap.size,0,none⟩) 1 1),.bool ok]) (by simp [results,Tryd.results80,go_sem,d0,d1,d2,d3,d4,d5]) rfl ?_
   exact hep
  ·have HN1:=Lib.hid hT
   rw [hT]
   clear hT
   go_wp2_with fail
   refine(HC.out K _ _ _ HM4.out.pat HMm.out).mono ?_
   rintro e w7 ⟨h,a,n,c,ok,at7,r7,rfl,hp7,hle7,hg7,hres7⟩
   have hwb:=HM4.out.gr.size
   have HWB:Hid (gR<w4.heap.size):=Lib.hid HR4.out.lt
   have HMf:=Lib.hid (HM4.out.call hp7 hg7)
   have HRf:=Lib.hid (HR4.out.gr hg7 (by have:=HM4.out.gl;have:=HGR.out;omega))
   have HRS:=Lib.hid hres7.out
   have HL7:=Lib.hid hle7
   clear hres7 hp7 hg7 hle7
   obtain⟨k0,k1,k2,k3,k4,k5⟩:=HRf.out.froz
   obtain⟨u0,u1,u2,u3,u4,u5⟩:=HRf.out.cells
   have hlR8:=HRf.out.lt
   have HGRo:=HGR.out
   go_wp2_with fail
   have HDZ:=Lib.hid (HRf.out.s6 h (.slice a n c))
   have HMZ:=Lib.hid (HMf.out.s6 (b:=gR) (by have:=HGR.out;omega) (.int .i64 (Hd.k h)) (.int .i64 (Hd.op h)) (.int .i64 (Hd.v h)) (.int .i64 (Hd.ln h)) (.string (st (Hd.nm h))) (.slice a n c))
   have HEZ:=Lib.hid (show (ok=true /\ ∃ ar,Ps .un r4 (.ok (one1 h ar) r7)/\ArgsAt (set6 w7 gR (.int .i64 (Hd.k h)) (.int .i64 (Hd.op h)) (.int .i64 (Hd.v h)) (.int .i64 (Hd.ln h)) (.string (st (Hd.nm h))) (.slice a n c)) (fun b=>w.heap.size<=b) ar (.slice a n c)/\r7.length<r4.length)\/(ok=false/\Ps .un r4 (.bad r7)) from by
       rcases HRS.out with⟨h1,ar,h2,h3,h4⟩ | ⟨h1,h2⟩
       ·exact .inl ⟨h1,ar,Ps.un_ca HN0.out HN1.out h2,args_mono (args_s6 h3 (fun b hb=>by have:=HWB.out;omega)) (fun b hb _=>by omega),h4⟩
       ·exact .inr ⟨h1,Ps.un_ca HN0.out HN1.out h2⟩)
   obtain⟨wz,hwz⟩ : ∃ W,set6 w7 gR (.int .i64 (Hd.k h)) (.int .i64 (Hd.op h)) (.int .i64 (Hd.v h)) (.int .i64 (Hd.ln h)) (.string (st (Hd.nm h))) (.slice a n c)=W:=⟨_,rfl⟩
   have hwz2:=hwz
   unfold set6 at hwz2
   (try rw [hwz2])
   rw [hwz] at HDZ HMZ HEZ
   obtain⟨d0,d1,d2,d3,d4,d5⟩:=HDZ.out.cells
   refine bodyPost_ret (v:=.tuple #[exv h (.slice a n c),.bool ok]) (by simp [results,Tryd.results80,go_sem,d0,d1,d2,d3,d4,d5]) rfl ?_
   exact⟨h,_,_,_,ok,at7,r7,rfl,HMZ.out.pat,HL7.out,HMZ.out.gr,Lib.hid HEZ.out⟩
end Go.Proofs.YtpcdinelpfbpfaaDoor
