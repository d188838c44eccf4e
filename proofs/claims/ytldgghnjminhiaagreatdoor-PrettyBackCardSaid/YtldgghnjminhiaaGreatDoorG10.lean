/-
  WORDS, PLAIN LAWS and WALKS (PsZ PsJ PqV PqC PqB), pressed. (Filled in from templates of this repo.)
-/
import Derived.OrdersHeld
import Derived.Deep.RegionLaw
import Derived.Test.YtldgghnjminhiaaGreatDoorG8
import Derived.Test.YtldgghnjminhiaaGreatDoorG9
import Derived.Test.YtldgghnjminhiaaGreatDoorG7
namespace Go.Proofs.YtldgghnjminhiaaGreatDoor
open Go Go.ChangeAt Go.ChangeShapes Go.RowKit Go.WideShapes
set_option linter.unusedVariables false
set_option linter.unusedSimpArgs false
set_option maxRecDepth 100000
set_option maxHeartbeats 16000000
section
def Lt (wx:World) (b:Nat) (x:Tk):Prop:=wx.heap[b]?=some (.cells #[.int .i64 x.k,.int .i64 x.n,.int .i64 x.v,.string (st x.t)] 103 (0,0))
section
variable {wx wy:World} {b:Nat} {x:Tk}
theorem Lt.lt (k:Lt wx b x):b<wx.heap.size:=Xv k
theorem Lt.al (k:Lt wx b x) (o:Obj):Lt (wx.alloc o) b x:=(Below.heap_alloc wx o b k.lt).trans k
theorem Lt.be (k:Lt wx b x) (hb:Below wx.heap.size wx wy):Lt wy b x:=(hb.block b k.lt).trans k
theorem Lt.gr {g:Nat} (k:Lt wx b x) (hg:wx.grownBy wy (some g)) (hn:b≠g):Lt wy b x:=(hg.block b k.lt (λ e=>by injection e with e;exact hn e)).trans k
theorem Lt.s1 (k:Lt wx b x) {p:Addr} {v:Value} (hn:b≠p.block):Lt (wx.setCell p v) b x:=(heap_setCell_other wx p b v hn).trans k
theorem Lt.cells (k:Lt wx b x):wx.cell? ⟨b,0,none⟩=some (.int .i64 x.k)/\wx.cell? ⟨b,1,none⟩=some (.int .i64 x.n)/\wx.cell? ⟨b,2,none⟩=some (.int .i64 x.v)/\wx.cell? ⟨b,3,none⟩=some (.string (st x.t)) :=
 ⟨cell_of_row wx b 0 _ _ _ k,cell_of_row wx b 1 _ _ _ k,cell_of_row wx b 2 _ _ _ k,cell_of_row wx b 3 _ _ _ k⟩
theorem Lt.new (w:World) (x:Tk):Lt (w.alloc (.cells #[.int .i64 x.k,.int .i64 x.n,.int .i64 x.v,.string (st x.t)] 103)) w.heap.size x:=heap_alloc_new w _
end
theorem Jg {K:PC} {lv:Lv} {rest:List Tk} {w wx:World} {gR at2:Nat} {r:List Tk} {h0:Hd} {s0:Value} (hm:MS K w wx at2 r) (hr:Lc wx gR h0 s0) (hg:w.heap.size<=gR) (hl:r.length<=rest.length) (h:Hd) (a:Option Addr) (n c:Nat) (ok:Bool)
  (Ha:(ok=true/\∃ ar,Ps lv rest (.ok (Xb h ar) r)/\Xk wx (λ b=>w.heap.size<=b/\b≠gR) ar (.slice a n c)/\r.length<rest.length)\/(ok=false/\Ps lv rest (.bad r))) (W:World)
  (hW:W=set6 wx gR (.int .i64 h.k) (.int .i64 h.op) (.int .i64 h.v) (.int .i64 h.ln) (.string (st h.nm)) (.slice a n c)) :
  Lc W gR h (.slice a n c)/\EP K lv rest w (.returned (.tuple #[exv h (.slice a n c),.bool ok])) W:=by
 subst hW
 have h2:=hm.s6 hg (.int .i64 h.k) (.int .i64 h.op) (.int .i64 h.v) (.int .i64 h.ln) (.string (st h.nm)) (.slice a n c)
 refine⟨hr.s6 h _,h,a,n,c,ok,at2,r,rfl,h2.pat,hl,h2.gr,Xj ?_⟩
 rcases Ha with⟨e1,ar,e2,e3,e4⟩|e
 ·exact .inl ⟨e1,ar,e2,Xg (Yz e3 (λ b hb=>hb.2)) (λ b hb _=>hb.1),e4⟩
 exact .inr e
theorem Rj (m:Nat) (hE:∀ j,j<m->CE 56 .ex j):CE 208 .pr m:=by
 intro K at_ rest w hP hm
 have HM1:=Xj ((MS.init hP).al zex)
 have HR1:=Xj (Lc.zero w)
 have HMm:=Xj hm
 have HE:Xq (∀ (w2:World) (at2:Nat) (r:List Tk),PAt w2 K at2 r->r.length<rest.length->Calls Tryz.prog 56 #[.pointer (some ⟨K.g,0,none⟩)] w2 (EP K .ex r w2)):=Xj (λ w2 at2 r hp hl=>hE r.length (by omega) K at2 r w2 hp (Nat.le_refl _))
 obtain⟨⟨tk,tn,tv,tt⟩,r0,hr0⟩:=hP.en.cons
 have HX0:=Xj hr0
 have HTV:=Xj hP.en
 clear hE hP hm hr0
 go_enter Tryz.func208,Tryz.ntmps208
 go_upto_region 1 with fail
 obtain⟨w1,hw1⟩:∃ W,w.alloc zex=W:=⟨_,rfl⟩
 obtain⟨gR,hgR⟩:∃ x,w.heap.size=x:=⟨_,rfl⟩
 (try rw[show w.alloc (.cells #[.int .i64 0,.int .i64 0,.int .i64 0,.int .i64 0,.string { data := #[] },.slice none 0 0] 37)=w1 from hw1])
 rw[hw1] at HM1 HR1
 rw[hgR] at HR1
 (try rw[hgR])
 have HGR:=Xj hgR
 have HS1:Xq (w1.heap.size=gR+1):=Xj (by rw[<- hw1,<- hgR];simp)
 clear hw1 hgR
 go_wp2_with fail
 refine(Zn K at_ tk tn tv tt r0 w1 (HX0.o▸HM1.o.pat)).mono ?_
 rintro e w2 ⟨rfl,hb2⟩
 have hs2:=hb2.size
 have HM3:=Xj ((HM1.o.be hb2).al (.cells #[.int .i64 tk,.int .i64 tn,.int .i64 tv,.string (st tt)] 103))
 have HR3:=Xj ((HR1.o.be hb2).al (.cells #[.int .i64 tk,.int .i64 tn,.int .i64 tv,.string (st tt)] 103))
 have HT3:=Xj (Lt.new w2 ⟨tk,tn,tv,tt⟩)
 clear hb2 HM1 HR1
 go_upto_block 0 with fail
 obtain⟨w3,hw3⟩:∃ W,w2.alloc (.cells #[.int .i64 tk,.int .i64 tn,.int .i64 tv,.string (st tt)] 103)=W:=⟨_,rfl⟩
 obtain⟨gt,hgt⟩:∃ x,w2.heap.size=x:=⟨_,rfl⟩
 (try rw[hw3])
 (try dsimp only at HT3)
 rw[hw3] at HM3 HR3 HT3
 rw[hgt] at HT3
 (try rw[hgt])
 have HGT:Xq (gR<gt):=Xj (by have:=HS1.o;omega)
 have hgg:=HM3.o.gl
 have hzr:=HGR.o
 have HGTo:=HGT.o
 clear hw3 hgt hs2
 obtain⟨t0,t1,t2,t3⟩:=HT3.o.cells
 obtain⟨y0,y1,y2,y3,y4,y5⟩:=HR3.o.cells
 obtain⟨g0,g1,g2,g3,g4,g5⟩:=HR3.o.froz
 have hlR:=HR3.o.lt
 have hlT:=HT3.o.lt
 (try dsimp only at t0 t1 t2 t3)
 have HKT:Xq (kOf rest=tk/\Yb rest=tn/\vOf rest=tv/\tOf rest=tt/\rest.tail=r0/\r0.length<rest.length):=Xj (by rw[HX0.o];exact⟨rfl,rfl,rfl,rfl,rfl,by simp⟩)
 by_cases h2:tk=2
 ·subst h2
  obtain⟨-,p1,-,f1,-,hlp⟩:=HM3.o.pat.cells
  have hw1:=HM3.o.w1
  have HM4:=Xj (HM3.o.step (by have:=HKT.o.1;omega))
  have HR4:=Xj (HR3.o.s1 (p:=⟨K.g,1,none⟩) (v:=.int .i64 ((at_:Int)+1)) (by show gR≠K.g;omega))
  have HT4:=Xj (HT3.o.s1 (p:=⟨K.g,1,none⟩) (v:=.int .i64 ((at_:Int)+1)) (by show gt≠K.g;omega))
  go_wp2_with fail
  have hZ:=Jg (lv:=.pr) (rest:=rest) HM4.o HR4.o (show w.heap.size<=gR by have:=HGR.o;omega) (by rw[HKT.o.2.2.2.2.1];exact Nat.le_of_lt HKT.o.2.2.2.2.2) ⟨1,0,tv,tn,[]⟩ none 0 0 true (.inl ⟨rfl,.nil,by have h:=Ps.pr_num (ts:=rest) HKT.o.1;rw[HKT.o.2.1,HKT.o.2.2.1] at h;exact h,Xk.nil _ _,by rw[HKT.o.2.2.2.2.1];exact HKT.o.2.2.2.2.2⟩)
  obtain⟨wz,hwz⟩:∃ W,set6 (w3.setCell ⟨K.g,1,none⟩ (.int .i64 ((at_:Int)+1))) gR (.int .i64 1) (.int .i64 0) (.int .i64 tv) (.int .i64 tn) (.string { data := #[] }) (.slice none 0 0)=W:=⟨_,rfl⟩
  have hY:=hwz
  unfold set6 at hY
  (try rw[hY])
  obtain⟨hd,hep⟩:=hZ wz hwz.symm
  obtain⟨d0,d1,d2,d3,d4,d5⟩:=hd.cells
  refine bodyPost_ret (v:=.tuple #[exv ⟨1,0,tv,tn,[]⟩ (.slice none 0 0),.bool true]) (by simp[results,Tryz.results208,go_sem,d0,d1,d2,d3,d4,d5]) rfl ?_
  exact hep
 by_cases h1:tk=1
 ·subst h1
  obtain⟨-,p1,-,f1,-,hlp⟩:=HM3.o.pat.cells
  have hw1:=HM3.o.w1
  have HM4:=Xj (HM3.o.step (by have:=HKT.o.1;omega))
  have HR4:=Xj (HR3.o.s1 (p:=⟨K.g,1,none⟩) (v:=.int .i64 ((at_:Int)+1)) (by show gR≠K.g;omega))
  have HT4:=Xj (HT3.o.s1 (p:=⟨K.g,1,none⟩) (v:=.int .i64 ((at_:Int)+1)) (by show gt≠K.g;omega))
  go_upto_region 7 with fail
  obtain⟨w4,hw4⟩:∃ W,w3.setCell ⟨K.g,1,none⟩ (.int .i64 ((at_:Int)+1))=W:=⟨_,rfl⟩
  rw[hw4] at HM4 HR4 HT4 ⊢
  clear hw4 p1 f1 hw1 hlp t0 t1 t2 t3 y0 y1 y2 y3 y4 y5 g0 g1 g2 g3 g4 g5 hlR hlT
  go_wp2_with fail
  refine(Xn K (at_+1) rest.tail [91] _ HM4.o.pat).mono ?_
  rintro e w5 ⟨at5,r5,rfl,hp5,hg5,hc5⟩
  have HM5:=Xj (HM4.o.call hp5 hg5)
  have HR5:=Xj (HR4.o.gr hg5 (by omega))
  have HT5:=Xj (HT4.o.gr hg5 (by omega))
  obtain⟨t0,t1,t2,t3⟩:=HT5.o.cells
  (try dsimp only at t0 t1 t2 t3)
  obtain⟨y0,y1,y2,y3,y4,y5⟩:=HR5.o.cells
  obtain⟨g0,g1,g2,g3,g4,g5⟩:=HR5.o.froz
  have hlR:=HR5.o.lt
  have hlT:=HT5.o.lt
  clear hp5 hg5
  rcases hc5 with⟨hT,rfl,rfl⟩|⟨hT,rfl,rfl⟩
  ·have HT:=Xj hT
   rw[hT]
   have HRT:Xq (rest.tail.tail.length<rest.length/\rest.tail.length<rest.length):=Xj (by rw[HX0.o];simp<;>omega)
   clear hT t0 t1 t2 t3 y0 y1 y2 y3 y4 y5 g0 g1 g2 g3 g4 g5 hlR hlT
   go_wp2_with fail
   refine(HE.o _ _ _ HM5.o.pat (by exact HRT.o.1)).mono ?_
   rintro e w7 ⟨h,a,n,c,ok,at7,r7,rfl,hp7,He,hg7,hI⟩
   have hs7:=hg7.size
   have hws:=HM5.o.gr.size
   have hlRs:=HR5.o.lt
   have hlTs:=HT5.o.lt
   have HM8:=Xj ((HM5.o.call hp7 hg7).al (.cells (ecs h (.slice a n c)) 37))
   have HR8:=Xj ((HR5.o.gr hg7 (by omega)).al (.cells (ecs h (.slice a n c)) 37))
   have HT8:=Xj ((HT5.o.gr hg7 (by omega)).al (.cells (ecs h (.slice a n c)) 37))
   have HX8:=Xj (Lc.new w7 h (.slice a n c))
   have hjp:Xq ((ok=true/\∃ ar,Ps .ex rest.tail.tail (.ok (Xb h ar) r7)/\Xk (w7.alloc (.cells (ecs h (.slice a n c)) 37)) (TBk w gR w7.heap.size) ar (.slice a n c)/\r7.length<rest.tail.tail.length)\/(ok=false/\Ps .ex rest.tail.tail (.bad r7))):=Xj (by
    rcases hI.o with⟨e1,ar2,e2,e3,e4⟩|hr
    ·exact .inl ⟨e1,ar2,e2,Xg (Yr _ e3) (λ b hb _=>⟨by have:=hb.1;omega,by have:=hb.1;omega,hb.2⟩),e4⟩
    exact .inr hr)
   have HL7:=Xj He
   clear hI hp7 hg7 He
   go_upto_region 10 with fail
   obtain⟨w8,hw8⟩:∃ W,w7.alloc (.cells (ecs h (.slice a n c)) 37)=W:=⟨_,rfl⟩
   obtain⟨gx,hgx⟩:∃ x,w7.heap.size=x:=⟨_,rfl⟩
   (try rw[show w7.alloc (.cells #[.int .i64 h.k,.int .i64 h.op,.int .i64 h.v,.int .i64 h.ln,.string (st h.nm),.slice a n c] 37)=w8 from hw8])
   rw[hw8] at HM8 HR8 HT8 HX8 hjp
   rw[hgx] at HX8 hjp hs7
   (try rw[hgx])
   clear hw8 hgx
   obtain⟨q0,q1,q2,q3,q4,q5⟩:=HX8.o.cells
   obtain⟨s0,s1,s2,s3⟩:=HT8.o.cells
   (try dsimp only at s0 s1 s2 s3)
   have hwv:=HX8.o.lt
   have hlT8:=HT8.o.lt
   have hngx:gx≠K.g:=by omega
   have hngt:gt≠K.g:=by omega
   have hut:gR≠K.g:=by omega
   cases ok
   ·have HB:Xq (Ps .pr rest (.bad r7)):=Xj (by
     rcases hjp.o with⟨h1,_⟩|⟨_,h1⟩
     ·cases h1
     exact Ps.pr_el_bad HKT.o.1 HT.o h1)
    clear hjp
    refine wp_region_held_drew (S:=(λ w'=>w'.cell? ⟨gt,3,none⟩=some (.string (st tt))/\w'.cell? ⟨gt,1,none⟩=some (.int .i64 tn)/\w'.cell? ⟨gx,0,none⟩=some (.int .i64 h.k)/\w'.cell? ⟨gx,1,none⟩=some (.int .i64 h.op)/\w'.cell? ⟨gx,2,none⟩=some (.int .i64 h.v)/\w'.cell? ⟨gx,3,none⟩=some (.int .i64 h.ln)/\w'.cell? ⟨gx,4,none⟩=some (.string (st h.nm))/\w'.cell? ⟨gx,5,none⟩=some (.slice a n c))) (by kernel_rfl) ⟨s3,s1,q0,q1,q2,q3,q4,q5⟩ (λ hJ=>?_)
    refine tkH 0 53 ?_
    refine tkH 1 54 ?_
    refine tkH 2 55 ?_
    refine tkH 3 56 ?_
    refine tkH 4 57 ?_
    refine tkH 7 60 ?_
    refine tkH 8 61 ?_
    refine tkU 9 62 ?_
    refine tkU 10 63 ?_
    refine tkH 11 64 ?_
    obtain⟨wd,hwd⟩:∃ W,w8.drew=W:=⟨_,rfl⟩
    have HMd:Xq (MS K w wd at7 r7):=Xj (by rw[<- hwd];exact HM8.o.be (Below.refl _ _).drew)
    have HRd:Xq (Lc wd gR zhd (.slice none 0 0)):=Xj (by rw[<- hwd];exact HR8.o)
    rw[hwd] at hJ ⊢
    have hsd:w8.heap.size=wd.heap.size:=by rw[<- hwd];rfl
    clear hwd
    refine rdH 5 λ K0 hK=>?_
    go_simp
    refine goH hK ⟨Xc _ hJ.1,Xc _ hJ.2.1,Xc _ hJ.2.2.1,Xc _ hJ.2.2.2.1,Xc _ hJ.2.2.2.2.1,Xc _ hJ.2.2.2.2.2.1,Xc _ hJ.2.2.2.2.2.2.1,Xc _ hJ.2.2.2.2.2.2.2⟩ λ hJ=>?_
    clear hK K0
    obtain⟨wn,hwn⟩:∃ W,wd.alloc (.cells #[.int .i64 h.k,.int .i64 h.op,.int .i64 h.v,.int .i64 h.ln,.string (st h.nm),.slice a n c] 37)=W:=⟨_,rfl⟩
    obtain⟨gs,hgs⟩:∃ x,wd.heap.size=x:=⟨_,rfl⟩
    have HM9:Xq (MS K w wn at7 r7):=Xj (by rw[<- hwn];exact HMd.o.al _)
    have HR9:Xq (Lc wn gR zhd (.slice none 0 0)):=Xj (by rw[<- hwn];exact HRd.o.al _)
    rw[hwn] at hJ ⊢
    (try rw[hgs])
    have hgs8:w8.heap.size=gs:=by omega
    clear hwn hgs
    refine tkH 6 59 ?_
    obtain⟨u0,u1,u2,u3,u4,u5⟩:=HR9.o.cells
    obtain⟨k0,k1,k2,k3,k4,k5⟩:=HR9.o.froz
    have hbj:=HR9.o.lt
    refine rdH 12 λ K0 hK=>?_
    go_simp
    refine goH hK ⟨Xy (by omega) hJ.1,Xy (by omega) hJ.2.1,Xy (by omega) hJ.2.2.1,Xy (by omega) hJ.2.2.2.1,Xy (by omega) hJ.2.2.2.2.1,Xy (by omega) hJ.2.2.2.2.2.1,Xy (by omega) hJ.2.2.2.2.2.2.1,Xy (by omega) hJ.2.2.2.2.2.2.2⟩ λ hJ=>?_
    clear hK K0
    refine tkH 13 3 ?_
    refine wpAnyH_done (by kernel_rfl) ?_ _
    refine Xz ?_
    clear u0 u1 u2 u3 u4 u5 k0 k1 k2 k3 k4 k5 hJ
    have hZ:=Jg (lv:=.pr) (rest:=rest) HM9.o HR9.o (show w.heap.size<=gR by omega) (by have h1:=HL7.o;have h2:=HRT.o.1;omega) ⟨4,0,0,tn,tt⟩ (some ⟨gs,0,none⟩) 1 1 false (.inr ⟨rfl,HB.o⟩)
    obtain⟨wz,hwz⟩:∃ W,set6 wn gR (.int .i64 4) (.int .i64 0) (.int .i64 0) (.int .i64 tn) (.string (st tt)) (.slice (some ⟨gs,0,none⟩) 1 1)=W:=⟨_,rfl⟩
    have hY:=hwz
    unfold set6 at hY
    (try rw[hY])
    obtain⟨hd,hep⟩:=hZ wz hwz.symm
    obtain⟨d0,d1,d2,d3,d4,d5⟩:=hd.cells
    clear hZ
    go_wp2_with fail
    refine bodyPost_ret (v:=.tuple #[exv ⟨4,0,0,tn,tt⟩ (.slice (some ⟨gs,0,none⟩) 1 1),.bool false]) (by simp[results,Tryz.results208,go_sem,d0,d1,d2,d3,d4,d5]) rfl ?_
    exact hep
   obtain⟨ar,hps,har,hlt⟩:∃ ar,Ps .ex rest.tail.tail (.ok (Xb h ar) r7)/\Xk w8 (TBk w gR gx) ar (.slice a n c)/\r7.length<rest.tail.tail.length:=by
    rcases hjp.o with⟨_,h1⟩|⟨h1,_⟩
    ·exact h1
    cases h1
   have HPS:=Xj hps
   have HAR:=Xj har
   have HLT:=Xj hlt
   clear hps har hlt hjp
   refine wp_region_held_drew (S:=(λ w'=>w'.cell? ⟨gt,3,none⟩=some (.string (st tt))/\w'.cell? ⟨gt,1,none⟩=some (.int .i64 tn)/\w'.cell? ⟨gx,0,none⟩=some (.int .i64 h.k)/\w'.cell? ⟨gx,1,none⟩=some (.int .i64 h.op)/\w'.cell? ⟨gx,2,none⟩=some (.int .i64 h.v)/\w'.cell? ⟨gx,3,none⟩=some (.int .i64 h.ln)/\w'.cell? ⟨gx,4,none⟩=some (.string (st h.nm))/\w'.cell? ⟨gx,5,none⟩=some (.slice a n c))) (by kernel_rfl) ⟨s3,s1,q0,q1,q2,q3,q4,q5⟩ (λ hJ=>?_)
   refine tkH 0 53 ?_
   refine tkH 1 54 ?_
   refine tkH 2 55 ?_
   refine tkH 3 56 ?_
   refine tkH 4 57 ?_
   refine tkH 7 60 ?_
   refine tkH 8 61 ?_
   refine tkH 9 62 ?_
   obtain⟨wd,hwd⟩:∃ W,w8.drew=W:=⟨_,rfl⟩
   have HMd:Xq (MS K w wd at7 r7):=Xj (by rw[<- hwd];exact HM8.o.be (Below.refl _ _).drew)
   have HRd:Xq (Lc wd gR zhd (.slice none 0 0)):=Xj (by rw[<- hwd];exact HR8.o)
   have HARd:Xq (Xk wd (TBk w gR gx) ar (.slice a n c)):=Xj (by rw[<- hwd];exact HAR.o.keep (λ b hb hlt=>⟨rfl,hb⟩) (Nat.le_refl _))
   rw[hwd] at hJ ⊢
   have hsd:w8.heap.size=wd.heap.size:=by rw[<- hwd];rfl
   clear hwd
   refine wpAnyH_ready (rs:=[5,10]) (by kernel_rfl) (by simp) ?_
   refine AllReadyH.cons rfl (λ K0 hK=>?_) (AllReadyH.cons rfl (λ K0 hK=>?_) AllReadyH.nil)
   ·go_simp
    refine goH hK ⟨Xc _ hJ.1,Xc _ hJ.2.1,Xc _ hJ.2.2.1,Xc _ hJ.2.2.2.1,Xc _ hJ.2.2.2.2.1,Xc _ hJ.2.2.2.2.2.1,Xc _ hJ.2.2.2.2.2.2.1,Xc _ hJ.2.2.2.2.2.2.2⟩ λ hJ=>?_
    clear hK K0
    obtain⟨wa,hwn⟩:∃ W,wd.alloc (.cells #[.int .i64 h.k,.int .i64 h.op,.int .i64 h.v,.int .i64 h.ln,.string (st h.nm),.slice a n c] 37)=W:=⟨_,rfl⟩
    obtain⟨gs,hgs⟩:∃ x,wd.heap.size=x:=⟨_,rfl⟩
    have hAA:=Vq (Q:=λ b=>w.heap.size<=b/\b≠gR) (h1:=h) HARd.o (λ b hb _=>⟨hb.1,hb.2.1⟩) ⟨by have:=HMd.o.gr.size;omega,by have:=HRd.o.lt;omega⟩
    rw[hwn,hgs] at hAA
    have HAA:=Xj hAA
    have HMa:Xq (MS K w wa _ _):=Xj (by rw[<- hwn];exact HMd.o.al _)
    have HRa:Xq (Lc wa gR zhd (.slice none 0 0)):=Xj (by rw[<- hwn];exact HRd.o.al _)
    rw[hwn] at hJ ⊢
    (try rw[hgs])
    have hszn:wd.heap.size<=wa.heap.size:=by rw[<- hwn];simp
    clear hwn hgs hAA
    refine tkH 6 59 ?_
    refine rdH 10 λ K0 hK=>?_
    go_simp
    refine(Xn K at7 r7 [93] _ HMa.o.pat).mono ?_
    rintro e wn ⟨at9,r9,rfl,hp9,hg9,hc9⟩
    have hjn:∀ p:Addr,p.block<wa.heap.size->p.block≠K.g->wn.cell? p=wa.cell? p:=λ p hp hn=>hg9.cell_far p hp (by simp;omega)
    refine goH hK ⟨(hjn ⟨gt,3,none⟩ (by show gt<_;omega) (by show gt≠K.g;omega)).trans hJ.1,(hjn ⟨gt,1,none⟩ (by show gt<_;omega) (by show gt≠K.g;omega)).trans hJ.2.1,(hjn ⟨gx,0,none⟩ (by show gx<_;omega) (by show gx≠K.g;omega)).trans hJ.2.2.1,(hjn ⟨gx,1,none⟩ (by show gx<_;omega) (by show gx≠K.g;omega)).trans hJ.2.2.2.1,(hjn ⟨gx,2,none⟩ (by show gx<_;omega) (by show gx≠K.g;omega)).trans hJ.2.2.2.2.1,(hjn ⟨gx,3,none⟩ (by show gx<_;omega) (by show gx≠K.g;omega)).trans hJ.2.2.2.2.2.1,(hjn ⟨gx,4,none⟩ (by show gx<_;omega) (by show gx≠K.g;omega)).trans hJ.2.2.2.2.2.2.1,(hjn ⟨gx,5,none⟩ (by show gx<_;omega) (by show gx≠K.g;omega)).trans hJ.2.2.2.2.2.2.2⟩ λ hJ=>?_
    clear hK K0
    have HM9:=Xj (HMa.o.call hp9 hg9)
    have HR9:=Xj (HRa.o.gr hg9 hut)
    have HAF:=Xj (Zu HAA.o hg9 (λ b hb=>by have:=hb.1;omega))
    clear hp9 hjn
    refine tkH 11 64 ?_
    obtain⟨u0,u1,u2,u3,u4,u5⟩:=HR9.o.cells
    obtain⟨k0,k1,k2,k3,k4,k5⟩:=HR9.o.froz
    have hbj:=HR9.o.lt
    refine rdH 12 λ K0 hK=>?_
    go_simp
    refine goH hK ⟨Xy (by omega) hJ.1,Xy (by omega) hJ.2.1,Xy (by omega) hJ.2.2.1,Xy (by omega) hJ.2.2.2.1,Xy (by omega) hJ.2.2.2.2.1,Xy (by omega) hJ.2.2.2.2.2.1,Xy (by omega) hJ.2.2.2.2.2.2.1,Xy (by omega) hJ.2.2.2.2.2.2.2⟩ λ hJ=>?_
    clear hK K0
    refine tkH 13 3 ?_
    refine wpAnyH_done (by kernel_rfl) ?_ _
    refine Xz ?_
    clear u0 u1 u2 u3 u4 u5 k0 k1 k2 k3 k4 k5 hJ
    rcases hc9 with⟨h93,rfl,rfl⟩|⟨h93,rfl,rfl⟩
    ·(try rw[h93])
     have hZ:=Jg (lv:=.pr) (rest:=rest) HM9.o HR9.o (show w.heap.size<=gR by omega) (by have h1:=HLT.o;have h2:=HRT.o.1;simp only[List.length_tail] at h1 ⊢;omega) ⟨4,0,0,tn,tt⟩ (some ⟨gs,0,none⟩) 1 1 true (.inl ⟨rfl,Xb h ar,(by have hh:=Ps.pr_el HKT.o.1 HT.o HPS.o h93;rw[HKT.o.2.1,HKT.o.2.2.2.1] at hh;exact hh),HAF.o,by have h1:=HLT.o;have h2:=HRT.o.1;simp only[List.length_tail] at h1 ⊢;omega⟩)
     obtain⟨wz,hwz⟩:∃ W,set6 wn gR (.int .i64 4) (.int .i64 0) (.int .i64 0) (.int .i64 tn) (.string (st tt)) (.slice (some ⟨gs,0,none⟩) 1 1)=W:=⟨_,rfl⟩
     have hY:=hwz
     unfold set6 at hY
     (try rw[hY])
     obtain⟨hd,hep⟩:=hZ wz hwz.symm
     obtain⟨d0,d1,d2,d3,d4,d5⟩:=hd.cells
     clear hZ
     go_wp2_with fail
     refine bodyPost_ret (v:=.tuple #[exv ⟨4,0,0,tn,tt⟩ (.slice (some ⟨gs,0,none⟩) 1 1),.bool true]) (by simp[results,Tryz.results208,go_sem,d0,d1,d2,d3,d4,d5]) rfl ?_
     exact hep
    (try rw[h93])
    have hZ:=Jg (lv:=.pr) (rest:=rest) HM9.o HR9.o (show w.heap.size<=gR by omega) (by have h1:=HL7.o;have h2:=HRT.o.1;omega) ⟨4,0,0,tn,tt⟩ (some ⟨gs,0,none⟩) 1 1 false (.inr ⟨rfl,Ps.pr_el_bad2 HKT.o.1 HT.o HPS.o h93⟩)
    obtain⟨wz,hwz⟩:∃ W,set6 wn gR (.int .i64 4) (.int .i64 0) (.int .i64 0) (.int .i64 tn) (.string (st tt)) (.slice (some ⟨gs,0,none⟩) 1 1)=W:=⟨_,rfl⟩
    have hY:=hwz
    unfold set6 at hY
    (try rw[hY])
    obtain⟨hd,hep⟩:=hZ wz hwz.symm
    obtain⟨d0,d1,d2,d3,d4,d5⟩:=hd.cells
    clear hZ
    go_wp2_with fail
    refine bodyPost_ret (v:=.tuple #[exv ⟨4,0,0,tn,tt⟩ (.slice (some ⟨gs,0,none⟩) 1 1),.bool false]) (by simp[results,Tryz.results208,go_sem,d0,d1,d2,d3,d4,d5]) rfl ?_
    exact hep
   go_simp
   refine(Xn K at7 r7 [93] _ HMd.o.pat).mono ?_
   rintro e wc ⟨at9,r9,rfl,hp9,hg9,hc9⟩
   have hjn:∀ p:Addr,p.block<wd.heap.size->p.block≠K.g->wc.cell? p=wd.cell? p:=λ p hp hn=>hg9.cell_far p hp (by simp;omega)
   refine goH hK ⟨(hjn ⟨gt,3,none⟩ (by show gt<_;omega) (by show gt≠K.g;omega)).trans hJ.1,(hjn ⟨gt,1,none⟩ (by show gt<_;omega) (by show gt≠K.g;omega)).trans hJ.2.1,(hjn ⟨gx,0,none⟩ (by show gx<_;omega) (by show gx≠K.g;omega)).trans hJ.2.2.1,(hjn ⟨gx,1,none⟩ (by show gx<_;omega) (by show gx≠K.g;omega)).trans hJ.2.2.2.1,(hjn ⟨gx,2,none⟩ (by show gx<_;omega) (by show gx≠K.g;omega)).trans hJ.2.2.2.2.1,(hjn ⟨gx,3,none⟩ (by show gx<_;omega) (by show gx≠K.g;omega)).trans hJ.2.2.2.2.2.1,(hjn ⟨gx,4,none⟩ (by show gx<_;omega) (by show gx≠K.g;omega)).trans hJ.2.2.2.2.2.2.1,(hjn ⟨gx,5,none⟩ (by show gx<_;omega) (by show gx≠K.g;omega)).trans hJ.2.2.2.2.2.2.2⟩ λ hJ=>?_
   clear hK K0
   have HMc:=Xj (HMd.o.call hp9 hg9)
   have HRc:=Xj (HRd.o.gr hg9 hut)
   have HARc:=Xj (Zu HARd.o hg9 (λ b hb=>by have:=hb.1;omega))
   have hszc:=hg9.size
   clear hp9 hjn
   refine tkH 11 64 ?_
   refine rdH 5 λ K0 hK=>?_
   go_simp
   refine goH hK ⟨Xc _ hJ.1,Xc _ hJ.2.1,Xc _ hJ.2.2.1,Xc _ hJ.2.2.2.1,Xc _ hJ.2.2.2.2.1,Xc _ hJ.2.2.2.2.2.1,Xc _ hJ.2.2.2.2.2.2.1,Xc _ hJ.2.2.2.2.2.2.2⟩ λ hJ=>?_
   clear hK K0
   obtain⟨wn,hwn⟩:∃ W,wc.alloc (.cells #[.int .i64 h.k,.int .i64 h.op,.int .i64 h.v,.int .i64 h.ln,.string (st h.nm),.slice a n c] 37)=W:=⟨_,rfl⟩
   obtain⟨gs,hgs⟩:∃ x,wc.heap.size=x:=⟨_,rfl⟩
   have hAA:=Vq (Q:=λ b=>w.heap.size<=b/\b≠gR) (h1:=h) HARc.o (λ b hb _=>⟨hb.1,hb.2.1⟩) ⟨by have:=HMc.o.gr.size;omega,by have:=HRc.o.lt;omega⟩
   rw[hwn,hgs] at hAA
   have HAA:=Xj hAA
   have HMa:Xq (MS K w wn _ _):=Xj (by rw[<- hwn];exact HMc.o.al _)
   have HRa:Xq (Lc wn gR zhd (.slice none 0 0)):=Xj (by rw[<- hwn];exact HRc.o.al _)
   rw[hwn] at hJ ⊢
   (try rw[hgs])
   have hszn:wc.heap.size<=wn.heap.size:=by rw[<- hwn];simp
   clear hwn hgs hAA
   have HM9:=HMa
   have HR9:=HRa
   have HAF:=HAA
   refine tkH 6 59 ?_
   obtain⟨u0,u1,u2,u3,u4,u5⟩:=HR9.o.cells
   obtain⟨k0,k1,k2,k3,k4,k5⟩:=HR9.o.froz
   have hbj:=HR9.o.lt
   refine rdH 12 λ K0 hK=>?_
   go_simp
   refine goH hK ⟨Xy (by omega) hJ.1,Xy (by omega) hJ.2.1,Xy (by omega) hJ.2.2.1,Xy (by omega) hJ.2.2.2.1,Xy (by omega) hJ.2.2.2.2.1,Xy (by omega) hJ.2.2.2.2.2.1,Xy (by omega) hJ.2.2.2.2.2.2.1,Xy (by omega) hJ.2.2.2.2.2.2.2⟩ λ hJ=>?_
   clear hK K0
   refine tkH 13 3 ?_
   refine wpAnyH_done (by kernel_rfl) ?_ _
   refine Xz ?_
   clear u0 u1 u2 u3 u4 u5 k0 k1 k2 k3 k4 k5 hJ
   rcases hc9 with⟨h93,rfl,rfl⟩|⟨h93,rfl,rfl⟩
   ·(try rw[h93])
    have hZ:=Jg (lv:=.pr) (rest:=rest) HM9.o HR9.o (show w.heap.size<=gR by omega) (by have h1:=HLT.o;have h2:=HRT.o.1;simp only[List.length_tail] at h1 ⊢;omega) ⟨4,0,0,tn,tt⟩ (some ⟨gs,0,none⟩) 1 1 true (.inl ⟨rfl,Xb h ar,(by have hh:=Ps.pr_el HKT.o.1 HT.o HPS.o h93;rw[HKT.o.2.1,HKT.o.2.2.2.1] at hh;exact hh),HAF.o,by have h1:=HLT.o;have h2:=HRT.o.1;simp only[List.length_tail] at h1 ⊢;omega⟩)
    obtain⟨wz,hwz⟩:∃ W,set6 wn gR (.int .i64 4) (.int .i64 0) (.int .i64 0) (.int .i64 tn) (.string (st tt)) (.slice (some ⟨gs,0,none⟩) 1 1)=W:=⟨_,rfl⟩
    have hY:=hwz
    unfold set6 at hY
    (try rw[hY])
    obtain⟨hd,hep⟩:=hZ wz hwz.symm
    obtain⟨d0,d1,d2,d3,d4,d5⟩:=hd.cells
    clear hZ
    go_wp2_with fail
    refine bodyPost_ret (v:=.tuple #[exv ⟨4,0,0,tn,tt⟩ (.slice (some ⟨gs,0,none⟩) 1 1),.bool true]) (by simp[results,Tryz.results208,go_sem,d0,d1,d2,d3,d4,d5]) rfl ?_
    exact hep
   (try rw[h93])
   have hZ:=Jg (lv:=.pr) (rest:=rest) HM9.o HR9.o (show w.heap.size<=gR by omega) (by have h1:=HL7.o;have h2:=HRT.o.1;omega) ⟨4,0,0,tn,tt⟩ (some ⟨gs,0,none⟩) 1 1 false (.inr ⟨rfl,Ps.pr_el_bad2 HKT.o.1 HT.o HPS.o h93⟩)
   obtain⟨wz,hwz⟩:∃ W,set6 wn gR (.int .i64 4) (.int .i64 0) (.int .i64 0) (.int .i64 tn) (.string (st tt)) (.slice (some ⟨gs,0,none⟩) 1 1)=W:=⟨_,rfl⟩
   have hY:=hwz
   unfold set6 at hY
   (try rw[hY])
   obtain⟨hd,hep⟩:=hZ wz hwz.symm
   obtain⟨d0,d1,d2,d3,d4,d5⟩:=hd.cells
   clear hZ
   go_wp2_with fail
   refine bodyPost_ret (v:=.tuple #[exv ⟨4,0,0,tn,tt⟩ (.slice (some ⟨gs,0,none⟩) 1 1),.bool false]) (by simp[results,Tryz.results208,go_sem,d0,d1,d2,d3,d4,d5]) rfl ?_
   exact hep
  have HT:=Xj hT
  rw[hT]
  clear hT
  go_wp2_with fail
  have hZ:=Jg (lv:=.pr) (rest:=rest) HM5.o HR5.o (show w.heap.size<=gR by have:=HGR.o;omega) (by rw[HKT.o.2.2.2.2.1];exact Nat.le_of_lt HKT.o.2.2.2.2.2) ⟨13,0,0,tn,tt⟩ none 0 0 true (.inl ⟨rfl,.nil,by have h:=Ps.pr_name (ts:=rest) HKT.o.1 HT.o;rw[HKT.o.2.1,HKT.o.2.2.2.1] at h;exact h,Xk.nil _ _,by rw[HKT.o.2.2.2.2.1];exact HKT.o.2.2.2.2.2⟩)
  obtain⟨wz,hwz⟩:∃ W,set6 w5 gR (.int .i64 13) (.int .i64 0) (.int .i64 0) (.int .i64 tn) (.string (st tt)) (.slice none 0 0)=W:=⟨_,rfl⟩
  have hY:=hwz
  unfold set6 at hY
  (try rw[hY])
  obtain⟨hd,hep⟩:=hZ wz hwz.symm
  obtain⟨d0,d1,d2,d3,d4,d5⟩:=hd.cells
  refine bodyPost_ret (v:=.tuple #[exv ⟨13,0,0,tn,tt⟩ (.slice none 0 0),.bool true]) (by simp[results,Tryz.results208,go_sem,d0,d1,d2,d3,d4,d5]) rfl ?_
  exact hep
 have d2:(tk==2)=false:=by rw[beq_eq_false_iff_ne];exact h2
 have d1:(tk==1)=false:=by rw[beq_eq_false_iff_ne];exact h1
 have HN12:Xq (tk≠1/\tk≠2):=Xj ⟨h1,h2⟩
 clear h1 h2
 go_wp2_with fail
 refine(Xn K at_ rest [38] _ HM3.o.pat).mono ?_
 rintro e w4 ⟨at4,r4,rfl,hp4,hg4,hc4⟩
 have HM4:=Xj (HM3.o.call hp4 hg4)
 have HR4:=Xj (HR3.o.gr hg4 (by omega))
 have HT4:=Xj (HT3.o.gr hg4 (by omega))
 clear hp4 hg4
 rcases hc4 with⟨hT,rfl,rfl⟩|⟨hT,rfl,rfl⟩
 ·have HT:=Xj hT
  rw[hT]
  clear hT t0 t1 t2 t3 y0 y1 y2 y3 y4 y5 g0 g1 g2 g3 g4 g5 hlR hlT
  go_wp2_with fail
  refine(Vz K (at_+1) rest.tail _ HM4.o.pat).mono ?_
  rintro e w5 ⟨at5,r5,hp5,hg5,hc5⟩
  have HM5:=Xj (HM4.o.call hp5 hg5)
  have HR5:=Xj (HR4.o.gr hg5 (by omega))
  have HT5:=Xj (HT4.o.gr hg5 (by omega))
  clear hp5 hg5
  obtain⟨t0,t1,t2,t3⟩:=HT5.o.cells
  (try dsimp only at t0 t1 t2 t3)
  obtain⟨y0,y1,y2,y3,y4,y5⟩:=HR5.o.cells
  obtain⟨g0,g1,g2,g3,g4,g5⟩:=HR5.o.froz
  have hlR:=HR5.o.lt
  have hlT:=HT5.o.lt
  have HRT:Xq (rest.tail.tail.length<rest.length/\rest.tail.length<rest.length):=Xj (by rw[HX0.o];simp<;>omega)
  rcases hc5 with⟨hk,rfl,rfl,rfl⟩|⟨hk,rfl,rfl,rfl⟩
  ·obtain⟨nm,hnm⟩:∃ x,tOf rest.tail=x:=⟨_,rfl⟩
   have HNM:=Xj hnm
   have HK:=Xj hk
   rw[hnm]
   clear hnm hk
   go_wp2_with fail
   have hZ:=Jg (lv:=.pr) (rest:=rest) HM5.o HR5.o (show w.heap.size<=gR by have:=HGR.o;omega) (Nat.le_of_lt HRT.o.1) ⟨11,0,0,tn,nm⟩ none 0 0 true (.inl ⟨rfl,.nil,by have h:=Ps.pr_func HT.o HK.o;rw[HKT.o.2.1,HNM.o] at h;exact h,Xk.nil _ _,HRT.o.1⟩)
   obtain⟨wz,hwz⟩:∃ W,set6 w5 gR (.int .i64 11) (.int .i64 0) (.int .i64 0) (.int .i64 tn) (.string (st nm)) (.slice none 0 0)=W:=⟨_,rfl⟩
   have hY:=hwz
   unfold set6 at hY
   (try rw[hY])
   obtain⟨hd,hep⟩:=hZ wz hwz.symm
   obtain⟨d0,d1,d2,d3,d4,d5⟩:=hd.cells
   refine bodyPost_ret (v:=.tuple #[exv ⟨11,0,0,tn,nm⟩ (.slice none 0 0),.bool true]) (by simp[results,Tryz.results208,go_sem,d0,d1,d2,d3,d4,d5]) rfl ?_
   exact hep
  have HK:=Xj hk
  clear hk
  go_wp2_with fail
  have hZ:=Jg (lv:=.pr) (rest:=rest) HM5.o HR5.o (show w.heap.size<=gR by have:=HGR.o;omega) (Nat.le_of_lt HRT.o.2) ⟨11,0,0,tn,[]⟩ none 0 0 false (.inr ⟨rfl,Ps.pr_func_bad HT.o HK.o⟩)
  obtain⟨wz,hwz⟩:∃ W,set6 w5 gR (.int .i64 11) (.int .i64 0) (.int .i64 0) (.int .i64 tn) (.string { data := #[] }) (.slice none 0 0)=W:=⟨_,rfl⟩
  have hY:=hwz
  unfold set6 at hY
  (try rw[hY])
  obtain⟨hd,hep⟩:=hZ wz hwz.symm
  obtain⟨d0,d1,d2,d3,d4,d5⟩:=hd.cells
  refine bodyPost_ret (v:=.tuple #[exv ⟨11,0,0,tn,[]⟩ (.slice none 0 0),.bool false]) (by simp[results,Tryz.results208,go_sem,d0,d1,d2,d3,d4,d5]) rfl ?_
  exact hep
 have HN38:=Xj hT
 rw[hT]
 clear hT t0 t1 t2 t3 y0 y1 y2 y3 y4 y5 g0 g1 g2 g3 g4 g5 hlR hlT
 go_wp2_with fail
 refine(Xn K at4 r4 [114,101,97,100] _ HM4.o.pat).mono ?_
 rintro e w5 ⟨at5,r5,rfl,hp5,hg5,hc5⟩
 have HM5:=Xj (HM4.o.call hp5 hg5)
 have HR5:=Xj (HR4.o.gr hg5 (by omega))
 have HT5:=Xj (HT4.o.gr hg5 (by omega))
 clear hp5 hg5
 rcases hc5 with⟨hT,rfl,rfl⟩|⟨hT,rfl,rfl⟩
 ·have HT:=Xj hT
  rw[hT]
  clear hT
  obtain⟨t0,t1,t2,t3⟩:=HT5.o.cells
  (try dsimp only at t0 t1 t2 t3)
  obtain⟨y0,y1,y2,y3,y4,y5⟩:=HR5.o.cells
  obtain⟨g0,g1,g2,g3,g4,g5⟩:=HR5.o.froz
  have hlR:=HR5.o.lt
  have hlT:=HT5.o.lt
  have HRT:Xq (r4.tail.length<r4.length):=Xj (by rw[HX0.o];simp<;>omega)
  go_wp2_with fail
  have hZ:=Jg (lv:=.pr) (rest:=r4) HM5.o HR5.o (show w.heap.size<=gR by have:=HGR.o;omega) (Nat.le_of_lt HRT.o) ⟨12,0,0,tn,[]⟩ none 0 0 true (.inl ⟨rfl,.nil,by have h:=Ps.pr_read HT.o;rw[HKT.o.2.1] at h;exact h,Xk.nil _ _,HRT.o⟩)
  obtain⟨wz,hwz⟩:∃ W,set6 w5 gR (.int .i64 12) (.int .i64 0) (.int .i64 0) (.int .i64 tn) (.string { data := #[] }) (.slice none 0 0)=W:=⟨_,rfl⟩
  have hY:=hwz
  unfold set6 at hY
  (try rw[hY])
  obtain⟨hd,hep⟩:=hZ wz hwz.symm
  obtain⟨d0,d1,d2,d3,d4,d5⟩:=hd.cells
  refine bodyPost_ret (v:=.tuple #[exv ⟨12,0,0,tn,[]⟩ (.slice none 0 0),.bool true]) (by simp[results,Tryz.results208,go_sem,d0,d1,d2,d3,d4,d5]) rfl ?_
  exact hep
 have hfb:=Xj hT
 rw[hT]
 clear hT
 go_wp2_with fail
 refine(Xn K at5 r5 [40] _ HM5.o.pat).mono ?_
 rintro e w6 ⟨at6,r6,rfl,hp6,hg6,hc6⟩
 have HM6:=Xj (HM5.o.call hp6 hg6)
 have HR6:=Xj (HR5.o.gr hg6 (by omega))
 have HT6:=Xj (HT5.o.gr hg6 (by omega))
 clear hp6 hg6
 rcases hc6 with⟨hT,rfl,rfl⟩|⟨hT,rfl,rfl⟩
 ·have HT:=Xj hT
  rw[hT]
  have HRT:Xq (r5.tail.length<r5.length):=Xj (by rw[HX0.o];simp<;>omega)
  clear hT
  go_wp2_with fail
  refine(HE.o _ _ _ HM6.o.pat (by have:=HRT.o;omega)).mono ?_
  rintro e w7 ⟨h,a,n,c,ok,at7,r7,rfl,hp7,He,hg7,hI⟩
  have hs7:=hg7.size
  have hws:=HM6.o.gr.size
  have hlRs:=HR6.o.lt
  have hlTs:=HT6.o.lt
  have HM8:=Xj ((HM6.o.call hp7 hg7).al (.cells (ecs h (.slice a n c)) 37))
  have HR8:=Xj ((HR6.o.gr hg7 (by omega)).al (.cells (ecs h (.slice a n c)) 37))
  have HT8:=Xj ((HT6.o.gr hg7 (by omega)).al (.cells (ecs h (.slice a n c)) 37))
  have HX8:=Xj (Lc.new w7 h (.slice a n c))
  have hjp:Xq ((ok=true/\∃ ar,Ps .ex r5.tail (.ok (Xb h ar) r7)/\Xk (w7.alloc (.cells (ecs h (.slice a n c)) 37)) (TBk w gR w7.heap.size) ar (.slice a n c)/\r7.length<r5.tail.length)\/(ok=false/\Ps .ex r5.tail (.bad r7))):=Xj (by
   rcases hI.o with⟨e1,ar2,e2,e3,e4⟩|hr
   ·exact .inl ⟨e1,ar2,e2,Xg (Yr _ e3) (λ b hb _=>⟨by have:=hb.1;omega,by have:=hb.1;omega,hb.2⟩),e4⟩
   exact .inr hr)
  have HL7:=Xj He
  clear hI hp7 hg7 He
  go_upto_region 18 with fail
  obtain⟨w8,hw8⟩:∃ W,w7.alloc (.cells (ecs h (.slice a n c)) 37)=W:=⟨_,rfl⟩
  obtain⟨gx,hgx⟩:∃ x,w7.heap.size=x:=⟨_,rfl⟩
  (try rw[show w7.alloc (.cells #[.int .i64 h.k,.int .i64 h.op,.int .i64 h.v,.int .i64 h.ln,.string (st h.nm),.slice a n c] 37)=w8 from hw8])
  rw[hw8] at HM8 HR8 HT8 HX8 hjp
  rw[hgx] at HX8 hjp hs7
  (try rw[hgx])
  clear hw8 hgx
  obtain⟨q0,q1,q2,q3,q4,q5⟩:=HX8.o.cells
  obtain⟨s0,s1,s2,s3⟩:=HT8.o.cells
  (try dsimp only at s0 s1 s2 s3)
  have hwv:=HX8.o.lt
  have hlT8:=HT8.o.lt
  have hngx:gx≠K.g:=by omega
  have hngt:gt≠K.g:=by omega
  have hut:gR≠K.g:=by omega
  cases ok
  ·have HB:Xq (Ps .pr r5 (.bad r7)):=Xj (by
    rcases hjp.o with⟨h1,_⟩|⟨_,h1⟩
    ·cases h1
    exact Ps.pr_par_bad HT.o h1)
   clear hjp
   refine wp_region_held_drew (S:=(λ w'=>w'.cell? ⟨gx,0,none⟩=some (.int .i64 h.k)/\w'.cell? ⟨gx,1,none⟩=some (.int .i64 h.op)/\w'.cell? ⟨gx,2,none⟩=some (.int .i64 h.v)/\w'.cell? ⟨gx,3,none⟩=some (.int .i64 h.ln)/\w'.cell? ⟨gx,4,none⟩=some (.string (st h.nm))/\w'.cell? ⟨gx,5,none⟩=some (.slice a n c))) (by kernel_rfl) ⟨q0,q1,q2,q3,q4,q5⟩ (λ hJ=>?_)
   refine tkH 0 92 ?_
   refine tkH 1 93 ?_
   refine tkH 2 94 ?_
   refine tkU 3 95 ?_
   refine tkU 4 96 ?_
   refine tkH 5 97 ?_
   obtain⟨wd,hwd⟩:∃ W,w8.drew=W:=⟨_,rfl⟩
   have HM9:=Xj (HM8.o.be (Below.refl _ _).drew)
   have HR9:=Xj (HR8.o.be (Below.refl _ _).drew)
   rw[hwd] at hJ HM9 HR9 ⊢
   have hsd:w8.heap.size=wd.heap.size:=by rw[<- hwd];rfl
   clear hwd
   obtain⟨u0,u1,u2,u3,u4,u5⟩:=HR9.o.cells
   obtain⟨k0,k1,k2,k3,k4,k5⟩:=HR9.o.froz
   have hbj:=HR9.o.lt
   refine rdH 6 λ K0 hK=>?_
   go_simp
   refine goH hK ⟨Xy (by omega) hJ.1,Xy (by omega) hJ.2.1,Xy (by omega) hJ.2.2.1,Xy (by omega) hJ.2.2.2.1,Xy (by omega) hJ.2.2.2.2.1,Xy (by omega) hJ.2.2.2.2.2⟩ λ hJ=>?_
   clear hK K0
   refine tkH 7 3 ?_
   refine wpAnyH_done (by kernel_rfl) ?_ _
   refine Xz ?_
   clear u0 u1 u2 u3 u4 u5 k0 k1 k2 k3 k4 k5 hJ
   have hZ:=Jg (lv:=.pr) (rest:=r5) HM9.o HR9.o (show w.heap.size<=gR by omega) (by have h1:=HL7.o;have h2:=HRT.o;omega) h a n c false (.inr ⟨rfl,HB.o⟩)
   obtain⟨wz,hwz⟩:∃ W,set6 wd gR (.int .i64 h.k) (.int .i64 h.op) (.int .i64 h.v) (.int .i64 h.ln) (.string (st h.nm)) (.slice a n c)=W:=⟨_,rfl⟩
   have hY:=hwz
   unfold set6 at hY
   (try rw[hY])
   obtain⟨hd,hep⟩:=hZ wz hwz.symm
   obtain⟨d0,d1,d2,d3,d4,d5⟩:=hd.cells
   clear hZ
   go_wp2_with fail
   refine bodyPost_ret (v:=.tuple #[exv h (.slice a n c),.bool false]) (by simp[results,Tryz.results208,go_sem,d0,d1,d2,d3,d4,d5]) rfl ?_
   exact hep
  obtain⟨ar,hps,har,hlt⟩:∃ ar,Ps .ex r5.tail (.ok (Xb h ar) r7)/\Xk w8 (TBk w gR gx) ar (.slice a n c)/\r7.length<r5.tail.length:=by
   rcases hjp.o with⟨_,h1⟩|⟨h1,_⟩
   ·exact h1
   cases h1
  have HPS:=Xj hps
  have HAR:=Xj har
  have HLT:=Xj hlt
  clear hps har hlt hjp
  refine wp_region_held_drew (S:=(λ w'=>w'.cell? ⟨gx,0,none⟩=some (.int .i64 h.k)/\w'.cell? ⟨gx,1,none⟩=some (.int .i64 h.op)/\w'.cell? ⟨gx,2,none⟩=some (.int .i64 h.v)/\w'.cell? ⟨gx,3,none⟩=some (.int .i64 h.ln)/\w'.cell? ⟨gx,4,none⟩=some (.string (st h.nm))/\w'.cell? ⟨gx,5,none⟩=some (.slice a n c))) (by kernel_rfl) ⟨q0,q1,q2,q3,q4,q5⟩ (λ hJ=>?_)
  refine tkH 0 92 ?_
  refine tkH 1 93 ?_
  refine tkH 2 94 ?_
  refine tkH 3 95 ?_
  refine rdH 4 λ K0 hK=>?_
  go_simp
  refine(Xn K at7 r7 [41] _ (HM8.o.be (Below.refl _ _).drew).pat).mono ?_
  rintro e w9 ⟨at9,r9,rfl,hp9,hg9,hc9⟩
  have hjn:∀ p:Addr,p.block<w8.heap.size->p.block≠K.g->w9.cell? p=w8.drew.cell? p:=λ p hp hn=>hg9.cell_far p (by exact hp) (by simp;omega)
  refine goH hK ⟨(hjn ⟨gx,0,none⟩ (by show gx<_;omega) (by show gx≠K.g;omega)).trans hJ.1,(hjn ⟨gx,1,none⟩ (by show gx<_;omega) (by show gx≠K.g;omega)).trans hJ.2.1,(hjn ⟨gx,2,none⟩ (by show gx<_;omega) (by show gx≠K.g;omega)).trans hJ.2.2.1,(hjn ⟨gx,3,none⟩ (by show gx<_;omega) (by show gx≠K.g;omega)).trans hJ.2.2.2.1,(hjn ⟨gx,4,none⟩ (by show gx<_;omega) (by show gx≠K.g;omega)).trans hJ.2.2.2.2.1,(hjn ⟨gx,5,none⟩ (by show gx<_;omega) (by show gx≠K.g;omega)).trans hJ.2.2.2.2.2⟩ λ hJ=>?_
  clear hK K0
  have HM9:=Xj ((HM8.o.be (Below.refl _ _).drew).call hp9 hg9)
  have HR9:=Xj ((HR8.o.be (Below.refl _ _).drew).gr hg9 hut)
  have HAR9:=Xj (Zu (w:=w8.drew) (HAR.o.keep (Q:=TBk w gR gx) (λ b hb hlt=>⟨rfl,hb⟩) (Nat.le_refl _)) hg9 (λ b hb=>by have:=hb.1;omega))
  clear hp9 hjn
  refine tkH 5 97 ?_
  obtain⟨u0,u1,u2,u3,u4,u5⟩:=HR9.o.cells
  obtain⟨k0,k1,k2,k3,k4,k5⟩:=HR9.o.froz
  have hbj:=HR9.o.lt
  refine rdH 6 λ K0 hK=>?_
  go_simp
  refine goH hK ⟨Xy (by omega) hJ.1,Xy (by omega) hJ.2.1,Xy (by omega) hJ.2.2.1,Xy (by omega) hJ.2.2.2.1,Xy (by omega) hJ.2.2.2.2.1,Xy (by omega) hJ.2.2.2.2.2⟩ λ hJ=>?_
  clear hK K0
  refine tkH 7 3 ?_
  refine wpAnyH_done (by kernel_rfl) ?_ _
  refine Xz ?_
  rcases hc9 with⟨h41,rfl,rfl⟩|⟨h41,rfl,rfl⟩
  ·(try rw[h41])
   clear u0 u1 u2 u3 u4 u5 k0 k1 k2 k3 k4 k5 hJ
   have hZ:=Jg (lv:=.pr) (rest:=r5) HM9.o HR9.o (show w.heap.size<=gR by omega) (by have h1:=HLT.o;have h2:=HRT.o;simp only[List.length_tail];omega) h a n c true (.inl ⟨rfl,ar,Ps.pr_par HT.o HPS.o h41,Xg HAR9.o (λ b hb _=>⟨hb.1,hb.2.1⟩),by have h1:=HLT.o;have h2:=HRT.o;simp only[List.length_tail];omega⟩)
   obtain⟨wz,hwz⟩:∃ W,set6 w9 gR (.int .i64 h.k) (.int .i64 h.op) (.int .i64 h.v) (.int .i64 h.ln) (.string (st h.nm)) (.slice a n c)=W:=⟨_,rfl⟩
   have hY:=hwz
   unfold set6 at hY
   (try rw[hY])
   obtain⟨hd,hep⟩:=hZ wz hwz.symm
   obtain⟨d0,d1,d2,d3,d4,d5⟩:=hd.cells
   clear hZ
   go_wp2_with fail
   refine bodyPost_ret (v:=.tuple #[exv h (.slice a n c),.bool true]) (by simp[results,Tryz.results208,go_sem,d0,d1,d2,d3,d4,d5]) rfl ?_
   exact hep
  (try rw[h41])
  clear u0 u1 u2 u3 u4 u5 k0 k1 k2 k3 k4 k5 hJ
  have hZ:=Jg (lv:=.pr) (rest:=r5) HM9.o HR9.o (show w.heap.size<=gR by omega) (by have h1:=HL7.o;have h2:=HRT.o;omega) h a n c false (.inr ⟨rfl,Ps.pr_par_bad2 HT.o HPS.o h41⟩)
  obtain⟨wz,hwz⟩:∃ W,set6 w9 gR (.int .i64 h.k) (.int .i64 h.op) (.int .i64 h.v) (.int .i64 h.ln) (.string (st h.nm)) (.slice a n c)=W:=⟨_,rfl⟩
  have hY:=hwz
  unfold set6 at hY
  (try rw[hY])
  obtain⟨hd,hep⟩:=hZ wz hwz.symm
  obtain⟨d0,d1,d2,d3,d4,d5⟩:=hd.cells
  clear hZ
  go_wp2_with fail
  refine bodyPost_ret (v:=.tuple #[exv h (.slice a n c),.bool false]) (by simp[results,Tryz.results208,go_sem,d0,d1,d2,d3,d4,d5]) rfl ?_
  exact hep
 have HN40:=Xj hT
 rw[hT]
 clear hT
 obtain⟨t0,t1,t2,t3⟩:=HT6.o.cells
 (try dsimp only at t0 t1 t2 t3)
 obtain⟨y0,y1,y2,y3,y4,y5⟩:=HR6.o.cells
 obtain⟨g0,g1,g2,g3,g4,g5⟩:=HR6.o.froz
 have hlR:=HR6.o.lt
 have hlT:=HT6.o.lt
 go_wp2_with fail
 have hZ:=Jg (lv:=.pr) (rest:=r6) HM6.o HR6.o (show w.heap.size<=gR by have:=HGR.o;omega) (Nat.le_refl _) ⟨0,0,0,0,[]⟩ none 0 0 false (.inr ⟨rfl,Ps.pr_bad (by have:=HKT.o.1;have:=HN12.o.1;omega) (by have:=HKT.o.1;have:=HN12.o.2;omega) HN38.o hfb.o HN40.o⟩)
 obtain⟨wz,hwz⟩:∃ W,set6 w6 gR (.int .i64 0) (.int .i64 0) (.int .i64 0) (.int .i64 0) (.string { data := #[] }) (.slice none 0 0)=W:=⟨_,rfl⟩
 have hY:=hwz
 unfold set6 at hY
 (try rw[hY])
 obtain⟨hd,hep⟩:=hZ wz hwz.symm
 obtain⟨d0,d1,d2,d3,d4,d5⟩:=hd.cells
 refine bodyPost_ret (v:=.tuple #[exv ⟨0,0,0,0,[]⟩ (.slice none 0 0),.bool false]) (by simp[results,Tryz.results208,go_sem,d0,d1,d2,d3,d4,d5]) rfl ?_
 exact hep
end
theorem Gc (m:Nat):CE 56 .ex m/\CE 202 .un m:=by
 induction m using Nat.strongRecOn with
 | _ m ih =>
  have hE:∀ j,j<m->CE 56 .ex j:=λ j hj=>(ih j hj).1
  have hU:=Pg m (By m hE (Rj m hE)) (λ j hj=>(ih j hj).2)
  exact⟨xqd m (xxr m (Rf m (xzr m (xjx m hU)))),hU⟩
theorem Ap (K:PC) (at_:Nat) (rest:List Tk) (w:World) (h:PAt w K at_ rest):Calls Tryz.prog 56 #[.pointer (some ⟨K.g,0,none⟩)] w (EP K .ex rest w) :=
 (Gc rest.length).1 K at_ rest w h (Nat.le_refl _)
section
abbrev scs (k ln:Int) (nm:Bt) (vx vt ve:Value):Array Value := #[.int .i64 k,.int .i64 ln,.string (st nm),vx,vt,ve]
def Ls (wx:World) (b:Nat) (k ln:Int) (nm:Bt) (vx vt ve:Value):Prop:=wx.heap[b]?=some (.cells (scs k ln nm vx vt ve) 110 (0,0))
section
variable {wx wy:World} {b:Nat} {k ln:Int} {nm:Bt} {vx vt ve:Value}
theorem Ls.lt (h:Ls wx b k ln nm vx vt ve):b<wx.heap.size:=Xv h
theorem Ls.al (h:Ls wx b k ln nm vx vt ve) (o:Obj):Ls (wx.alloc o) b k ln nm vx vt ve:=(Below.heap_alloc wx o b h.lt).trans h
theorem Ls.be (h:Ls wx b k ln nm vx vt ve) (hb:Below wx.heap.size wx wy):Ls wy b k ln nm vx vt ve:=(hb.block b h.lt).trans h
theorem Ls.grw {row:Option Nat} (h:Ls wx b k ln nm vx vt ve) (hg:wx.grownBy wy row) (hn:row≠some b):Ls wy b k ln nm vx vt ve:=(hg.block b h.lt (λ e=>hn e.symm)).trans h
theorem Ls.s1 (h:Ls wx b k ln nm vx vt ve) {p:Addr} {v:Value} (hn:b≠p.block):Ls (wx.setCell p v) b k ln nm vx vt ve:=(heap_setCell_other wx p b v hn).trans h
theorem Ls.s6o {g:Nat} {v0 v1 v2 v3 v4 v5:Value} (h:Ls wx b k ln nm vx vt ve) (hn:b≠g):Ls (set6 wx g v0 v1 v2 v3 v4 v5) b k ln nm vx vt ve:=(Yq b hn).trans h
theorem Ls.sk (h:Ls wx b k ln nm vx vt ve) (k2:Int):Ls (wx.setCell ⟨b,0,none⟩ (.int .i64 k2)) b k2 ln nm vx vt ve:=heap_setCell_same wx b 0 _ _ _ h
theorem Ls.sn (h:Ls wx b k ln nm vx vt ve) (n2:Bt):Ls (wx.setCell ⟨b,2,none⟩ (.string (st n2))) b k ln n2 vx vt ve:=heap_setCell_same wx b 2 _ _ _ h
theorem Ls.sx (h:Ls wx b k ln nm vx vt ve) (v2:Value):Ls (wx.setCell ⟨b,3,none⟩ v2) b k ln nm v2 vt ve:=heap_setCell_same wx b 3 _ _ _ h
theorem Ls.sth (h:Ls wx b k ln nm vx vt ve) (v2:Value):Ls (wx.setCell ⟨b,4,none⟩ v2) b k ln nm vx v2 ve:=heap_setCell_same wx b 4 _ _ _ h
theorem Ls.sel (h:Ls wx b k ln nm vx vt ve) (v2:Value):Ls (wx.setCell ⟨b,5,none⟩ v2) b k ln nm vx vt v2:=heap_setCell_same wx b 5 _ _ _ h
theorem Ls.cells (h:Ls wx b k ln nm vx vt ve):wx.cell? ⟨b,0,none⟩=some (.int .i64 k)/\wx.cell? ⟨b,1,none⟩=some (.int .i64 ln)/\wx.cell? ⟨b,2,none⟩=some (.string (st nm))/\wx.cell? ⟨b,3,none⟩=some vx/\wx.cell? ⟨b,4,none⟩=some vt/\wx.cell? ⟨b,5,none⟩=some ve :=
 ⟨cell_of_row _ b 0 _ _ _ h,cell_of_row _ b 1 _ _ _ h,cell_of_row _ b 2 _ _ _ h,cell_of_row _ b 3 _ _ _ h,cell_of_row _ b 4 _ _ _ h,cell_of_row _ b 5 _ _ _ h⟩
theorem Ls.froz (h:Ls wx b k ln nm vx vt ve):wx.frozen? ⟨b,0,none⟩=false/\wx.frozen? ⟨b,1,none⟩=false/\wx.frozen? ⟨b,2,none⟩=false/\wx.frozen? ⟨b,3,none⟩=false/\wx.frozen? ⟨b,4,none⟩=false/\wx.frozen? ⟨b,5,none⟩=false :=
 ⟨frozen_of_row _ b 0 _ _ h,frozen_of_row _ b 1 _ _ h,frozen_of_row _ b 2 _ _ h,frozen_of_row _ b 3 _ _ h,frozen_of_row _ b 4 _ _ h,frozen_of_row _ b 5 _ _ h⟩
theorem Ls.new (w:World) (k ln:Int) (nm:Bt) (vx vt ve:Value):Ls (w.alloc (.cells (scs k ln nm vx vt ve) 110)) w.heap.size k ln nm vx vt ve:=heap_alloc_new w _
end
abbrev Hg (w:World) (b o:Nat) (v0 v1 v2 v3 v4 v5:Value):World:=(((((w.setCell ⟨b,o,none⟩ v0).setCell ⟨b,o+1,none⟩ v1).setCell ⟨b,o+2,none⟩ v2).setCell ⟨b,o+3,none⟩ v3).setCell ⟨b,o+4,none⟩ v4).setCell ⟨b,o+5,none⟩ v5
theorem Uu {w:World} {b o:Nat} {v0 v1 v2 v3 v4 v5:Value} (k:Nat) (h:k≠b):(Hg w b o v0 v1 v2 v3 v4 v5).heap[k]?=w.heap[k]?:=by
 unfold Hg
 rw[heap_setCell_other _ _ k _ h,heap_setCell_other _ _ k _ h,heap_setCell_other _ _ k _ h,heap_setCell_other _ _ k _ h,heap_setCell_other _ _ k _ h,heap_setCell_other _ _ k _ h]
theorem Az (w:World) (b o:Nat) (v0 v1 v2 v3 v4 v5:Value):(Hg w b o v0 v1 v2 v3 v4 v5).heap.size=w.heap.size:=by simp[Hg,World.setCell]
theorem Jf {w:World} {b b' o o':Nat} {v0 v1 v2 v3 v4 v5 u:Value} (hne:b≠b') (h:w.cell? ⟨b',o',none⟩=some u):(Hg w b o v0 v1 v2 v3 v4 v5).cell? ⟨b',o',none⟩=some u :=
 (World.cell?_of_block (a:=⟨b',o',none⟩) (Uu b' (λ e=>hne e.symm))).trans h
theorem MS.sO {K:PC} {w wx:World} {at_:Nat} {r:List Tk} (h:MS K w wx at_ r) {b o:Nat} (hb:w.heap.size<=b) (v0 v1 v2 v3 v4 v5:Value):MS K w (Hg wx b o v0 v1 v2 v3 v4 v5) at_ r :=
 (((((h.sc (p:=⟨b,o,none⟩) hb v0).sc (p:=⟨b,o+1,none⟩) hb v1).sc (p:=⟨b,o+2,none⟩) hb v2).sc (p:=⟨b,o+3,none⟩) hb v3).sc (p:=⟨b,o+4,none⟩) hb v4).sc (p:=⟨b,o+5,none⟩) hb v5
theorem Kv {w:World} {base e size n cap g:Nat} {xs:List Value} (h:w.ownsRow base e size (.slice (some ⟨g,0,none⟩) n cap) n xs):g<w.heap.size:=(h.lt g rfl).2
theorem Nt {w:World} {base g n cap:Nat} {xs:List Value} {z0 z1 z2 z3 z4 z5:Value} (h:w.ownsRow base 37 6 (.slice (some ⟨g,0,none⟩) (n+1) cap) (n+1) (xs++[z0,z1,z2,z3,z4,z5])) (hx:xs.length=n*6) (v0 v1 v2 v3 v4 v5:Value) :
  (Hg w g (n*6) v0 v1 v2 v3 v4 v5).ownsRow base 37 6 (.slice (some ⟨g,0,none⟩) (n+1) cap) (n+1) (xs++[v0,v1,v2,v3,v4,v5]):=by
 have e:xs++[v0,v1,v2,v3,v4,v5]=((((((xs++[z0,z1,z2,z3,z4,z5]).set (n*6) v0).set (n*6+1) v1).set (n*6+2) v2).set (n*6+3) v3).set (n*6+4) v4).set (n*6+5) v5:=by
  rw[<- hx]
  simp
 rw[e]
 exact((((((h.stored (n*6) v0).1.stored (n*6+1) v1).1.stored (n*6+2) v2).1.stored (n*6+3) v3).1.stored (n*6+4) v4).1.stored (n*6+5) v5).1
def Nx (K:PC) (wS:World) (gs:Nat) (k ln:Int) (nm:Bt) (vx vt ve:Value) (nn:Nat) (xs:List Value) (rest:List Tk) (w:World) (e:Ending) (w':World):Prop :=
 ∃ (ok:Bool) (at2:Nat) (r:List Tk) (g9 c9:Nat) (h:Hd) (a:Option Addr) (n c:Nat),e=.returned (.bool ok)/\MS K wS w' at2 r/\r.length<=rest.length/\Ls w' gs k ln nm (.slice (some ⟨g9,0,none⟩) (nn+1) c9) vt ve /\
  w'.ownsRow wS.heap.size 37 6 (.slice (some ⟨g9,0,none⟩) (nn+1) c9) (nn+1) (xs++hdc h (.slice a n c))/\(vx.ownBlock=some g9\/w.heap.size<=g9)/\w.heap.size<=w'.heap.size /\
  Xq ((∀ b,b<w.heap.size->b≠K.g->b≠gs->some b≠vx.ownBlock->w'.heap[b]?=w.heap[b]?)/\((ok=true/\∃ ar,Ps .ex rest (.ok (Xb h ar) r)/\Xk w' (λ b=>w.heap.size<=b/\b≠g9) ar (.slice a n c)/\r.length<rest.length)\/(ok=false/\Ps .ex rest (.bad r))))
theorem Wx (K:PC) (wS:World) (at_ gs:Nat) (rest:List Tk) (k ln:Int) (nm:Bt) (vx vt ve:Value) (nn:Nat) (xs:List Value) (w:World) (hM:MS K wS w at_ rest) (hL:Ls w gs k ln nm vx vt ve) (ho:w.ownsRow wS.heap.size 37 6 vx nn xs) (hgs:wS.heap.size<=gs) (hne:vx.ownBlock≠some gs) (hnn:nn<=1) :
  Calls Tryz.prog 192 #[.pointer (some ⟨K.g,0,none⟩),.pointer (some ⟨gs,0,none⟩)] w (Nx K wS gs k ln nm vx vt ve nn xs rest w):=by
 have HM:=Xj hM
 have HL:=Xj hL
 have HO:=Xj ho
 have HGS:=Xj hgs
 have HNE:=Xj hne
 have HNN:=Xj hnn
 clear hM hL ho hgs hne hnn
 go_enter Tryz.func192,Tryz.ntmps192
 go_wp2_with fail
 refine(Ap K at_ rest _ HM.o.pat).mono ?_
 rintro e w2 ⟨h,a,n,c,ok,at2,r,rfl,hp2,hjy,hg2,Ha⟩
 have HM3:=Xj ((HM.o.call hp2 hg2).al (.cells (ecs h (.slice a n c)) 37))
 have HL3:=Xj ((HL.o.grw hg2 (by have:=HM.o.gl;have:=HGS.o;intro e;injection e with e;omega)).al (.cells (ecs h (.slice a n c)) 37))
 have HO3:=Xj ((Yx HO.o hg2 HM.o.gl).alloc (.cells (ecs h (.slice a n c)) 37))
 have HX3:=Xj (Lc.new w2 h (.slice a n c))
 have HKP:Xq (w.heap.size<=w2.heap.size/\(∀ b,b<w.heap.size->b≠K.g->(w2.alloc (.cells (ecs h (.slice a n c)) 37)).heap[b]?=w.heap[b]?)/\(w2.alloc (.cells (ecs h (.slice a n c)) 37)).heap.size=w2.heap.size+1):=Xj ⟨hg2.size,λ b hb hn=>(Below.heap_alloc w2 _ b (by have:=hg2.size;omega)).trans (hg2.block b hb (λ e=>by injection e with e;exact hn e)),by simp⟩
 have HRS:Xq (r.length<=rest.length/\((ok=true/\∃ ar,Ps .ex rest (.ok (Xb h ar) r)/\Xk (w2.alloc (.cells (ecs h (.slice a n c)) 37)) (λ b=>w.heap.size<=b/\b<w2.heap.size) ar (.slice a n c)/\r.length<rest.length)\/(ok=false/\Ps .ex rest (.bad r)))):=Xj (by
  refine⟨hjy,?_⟩
  rcases Ha.o with⟨h1,ar,h2,h3,h4⟩|hr
  ·exact .inl ⟨h1,ar,h2,Xg (Yr _ (Xg h3 (Q:=λ b=>w.heap.size<=b/\b<w2.heap.size) (λ b hb hlt=>⟨hb,hlt⟩))) (λ b hb _=>hb.1),h4⟩
  exact .inr hr)
 clear Ha hp2 hg2 hjy
 go_upto_region 2 with fail
 obtain⟨w3,hw3⟩:∃ W,w2.alloc (.cells (ecs h (.slice a n c)) 37)=W:=⟨_,rfl⟩
 obtain⟨gx,hgx⟩:∃ x,w2.heap.size=x:=⟨_,rfl⟩
 (try rw[show w2.alloc (.cells #[.int .i64 h.k,.int .i64 h.op,.int .i64 h.v,.int .i64 h.ln,.string (st h.nm),.slice a n c] 37)=w3 from hw3])
 rw[hw3,hgx] at HX3 HKP HRS
 rw[hw3] at HM3 HL3 HO3
 (try rw[hgx])
 clear hw3 hgx
 obtain⟨wd,hwd⟩:∃ W,w3.drew=W:=⟨_,rfl⟩
 have HB:=Xj (show Below w3.heap.size w3 wd by rw[<- hwd];exact(Below.refl _ _).drew)
 have HMd:=Xj (HM3.o.be HB.o)
 have HLd:=Xj (HL3.o.be HB.o)
 have HOd:=Xj (HO3.o.kept (Xm HB.o none) (by cases vx.ownBlock with|none=>exact .inl rfl|some k=>exact .inr (by simp)))
 have HXd:=Xj (HX3.o.be HB.o)
 have HNG:Xq (gs≠gx):=Xj (by have:=HL.o.lt;have:=HKP.o.1;omega)
 obtain⟨q0,q1,q2,q3,q4,q5⟩:=HLd.o.cells
 obtain⟨x0,x1,x2,x3,x4,x5⟩:=HXd.o.cells
 obtain⟨av,cv,hyv⟩:∃ a c,vx=.slice a nn c:=by
  rcases HOd.o.2 with⟨e,e2⟩|⟨g9,cap,cur,e,_⟩
  ·exact⟨none,0,by rw[e,e2]⟩
  exact⟨_,_,e⟩
 subst hyv
 refine Nu 12 (λ w'=>w'.cell? ⟨gs,3,none⟩=some (.slice av nn cv)/\w'.cell? ⟨gx,0,none⟩=some (.int .i64 h.k)/\w'.cell? ⟨gx,1,none⟩=some (.int .i64 h.op)/\w'.cell? ⟨gx,2,none⟩=some (.int .i64 h.v)/\w'.cell? ⟨gx,3,none⟩=some (.int .i64 h.ln)/\w'.cell? ⟨gx,4,none⟩=some (.string (st h.nm))/\w'.cell? ⟨gx,5,none⟩=some (.slice a n c)) (by kernel_rfl) (by rw[hwd];exact⟨q3,x0,x1,x2,x3,x4,x5⟩) (λ hJ=>?_)
 rw[hwd] at hJ ⊢
 clear hwd q0 q1 q2 q3 q4 q5 x0 x1 x2 x3 x4 x5
 refine tkK 0 12 ?_
 refine tkK 1 13 ?_
 refine tkK 2 14 ?_
 refine tkK 3 15 ?_
 refine tkK 4 16 ?_
 refine tkK 5 17 ?_
 refine rdK 6 λ K0 hK=>?_
 go_simp
 refine goK hK (λ _=>⟨Xc _ hJ.1,Xc _ hJ.2.1,Xc _ hJ.2.2.1,Xc _ hJ.2.2.2.1,Xc _ hJ.2.2.2.2.1,Xc _ hJ.2.2.2.2.2.1,Xc _ hJ.2.2.2.2.2.2⟩) ?_
 clear hK K0
 have HM5:=Xj (HMd.o.al (.cells #[.int .i64 0,.int .i64 0,.int .i64 0,.int .i64 0,.string { data := #[] },.slice none 0 0] 37))
 have HL5:=Xj (HLd.o.al (.cells #[.int .i64 0,.int .i64 0,.int .i64 0,.int .i64 0,.string { data := #[] },.slice none 0 0] 37))
 have HX5:=Xj (HXd.o.al (.cells #[.int .i64 0,.int .i64 0,.int .i64 0,.int .i64 0,.string { data := #[] },.slice none 0 0] 37))
 have HO5:=Xj (HOd.o.alloc (.cells #[.int .i64 0,.int .i64 0,.int .i64 0,.int .i64 0,.string { data := #[] },.slice none 0 0] 37))
 have hql:=HMd.o.gr.size
 have hnn:=HNN.o
 obtain⟨i0,hi0,hz0,hz1,hz2⟩:=info_parts Tryz.infoExpr
 have HIF:=Xj hi0
 have HZ0:=Xj hz0
 have HZ1:=Xj hz1
 have HZ2:=Xj hz2
 clear hi0 hz0 hz1 hz2 hJ
 refine rdK 7 λ K0 hK=>?_
 refine step_append_lies _ rfl _ _ _ rfl wS.heap.size 37 i0 _ 6 72 Tryz.underlying35 HIF.o HZ0.o HZ1.o HZ2.o rfl (by omega) (.slice av nn cv) nn xs rfl HO5.o ⟨wd.heap.size,0,none⟩ 1 1 [.int .i64 0,.int .i64 0,.int .i64 0,.int .i64 0,.string { data := #[] },.slice none 0 0] rfl rfl (World.news_of_block (cs := #[.int .i64 0,.int .i64 0,.int .i64 0,.int .i64 0,.string { data := #[] },.slice none 0 0]) (t:=37) (fr:=(0,0)) (heap_alloc_new wd _)) (by simp[Value.oneCell']) (by omega) (by unfold maxLen;omega) (by omega) (by simp;omega) _ rfl ?_
 intro g9 c9 w9 hown9 hgrow9 hor9 hlt9
 have HO9:=Xj hown9
 have HG9:=Xj hgrow9
 have HLT:Xq (g9≠gs/\g9≠gx/\wS.heap.size<=g9/\(Value.slice av nn cv).ownBlock≠some gx/\((Value.slice av nn cv).ownBlock=some g9\/w.heap.size<=g9)/\g9≠K.g):=Xj (by
  have h1:=HL.o.lt
  have h2:=HKP.o
  have h3:=HX3.o.lt
  have h4:=HB.o.size
  have h5:=HM.o.gl
  have h6:=HM.o.gr.size
  have h7:(wd.alloc (.cells #[.int .i64 0,.int .i64 0,.int .i64 0,.int .i64 0,.string { data := #[] },.slice none 0 0] 37)).heap.size=wd.heap.size+1:=by simp
  rcases hor9 with e|e
  ·have h8:=HO.o.lt g9 e
   refine⟨λ e2=>?_,by omega,h8.1,λ e2=>?_,.inl e,by omega⟩
   ·have:=HNE.o;rw[e,e2] at this;exact this rfl
   rw[e] at e2;injection e2 with e2;omega
  refine⟨by omega,by omega,by omega,λ e2=>?_,.inr (by omega),by omega⟩
  have h8:=HO.o.lt gx e2
  omega)
 have HNEW:Xq ((Value.slice av nn cv).ownBlock=some g9\/gx<g9):=Xj (by
  have h3:=HX3.o.lt
  have h4:=HB.o.size
  have h7:(wd.alloc (.cells #[.int .i64 0,.int .i64 0,.int .i64 0,.int .i64 0,.string { data := #[] },.slice none 0 0] 37)).heap.size=wd.heap.size+1:=by simp
  rcases hor9 with e|e
  ·exact .inl e
  exact .inr (by omega))
 have HM9:=Xj (HM5.o.own hgrow9 (λ k2 e=>(HO.o.lt k2 e).1))
 have HL9:=Xj (HL5.o.grw hgrow9 HNE.o)
 have HX9:=Xj (HX5.o.grw hgrow9 HLT.o.2.2.2.1)
 obtain⟨q0,q1,q2,q3,q4,q5⟩:=HL9.o.cells
 obtain⟨x0,x1,x2,x3,x4,x5⟩:=HX9.o.cells
 have hJ:(λ w'=>w'.cell? ⟨gs,3,none⟩=some (.slice av nn cv)/\w'.cell? ⟨gx,0,none⟩=some (.int .i64 h.k)/\w'.cell? ⟨gx,1,none⟩=some (.int .i64 h.op)/\w'.cell? ⟨gx,2,none⟩=some (.int .i64 h.v)/\w'.cell? ⟨gx,3,none⟩=some (.int .i64 h.ln)/\w'.cell? ⟨gx,4,none⟩=some (.string (st h.nm))/\w'.cell? ⟨gx,5,none⟩=some (.slice a n c)) w9:=⟨q3,x0,x1,x2,x3,x4,x5⟩
 change K0 (Act.put _ (some 19) (.slice (some ⟨g9,0,none⟩) (nn+1) c9)) w9
 refine goK hK (λ _=>hJ) ?_
 clear hK K0 hown9 hgrow9 hor9 q0 q1 q2 q3 q4 q5 x0 x1 x2 x3 x4 x5
 have hin:(nn:Int)<((nn+1:Nat):Int):=by omega
 have hi0:(0:Int)<=(nn:Int):=by omega
 refine Vk (i:=8) (dd:=some 20) (v:=?_) rfl (by kernel_rfl) (by decide) (by kernel_rfl) (by kernel_rfl) (by kernel_rfl) (λ _ _ _ h=>h) (Or.inl ⟨by kernel_rfl,?_⟩) (λ _=>hJ) ?_
 rotate_left
 ·(intro w hSw;go_simp;try (first|with_reducible rfl|(split<;>first|(exfalso;omega)|with_reducible rfl)))
 refine Xz ?_
 refine Vk (i:=10) (dd:=some 21) (v:=?_) rfl (by kernel_rfl) (by decide) (by kernel_rfl) (by kernel_rfl) (by kernel_rfl) (λ _ _ _ h=>h) (Or.inl ⟨by kernel_rfl,?_⟩) (λ _=>hJ) ?_
 rotate_left
 ·(intro w hSw;go_simp;try (first|with_reducible rfl|(split<;>first|(exfalso;omega)|with_reducible rfl)))
 refine Xz ?_
 refine Vk (i:=11) (dd:=some 22) (v:=?_) rfl (by kernel_rfl) (by decide) (by kernel_rfl) (by kernel_rfl) (by kernel_rfl) (λ _ _ _ h=>h) (Or.inl ⟨by kernel_rfl,?_⟩) (λ _=>hJ) ?_
 rotate_left
 ·(intro w hSw;go_simp;try (first|with_reducible rfl|(split<;>first|(exfalso;omega)|with_reducible rfl)))
 refine Xz ?_
 have HC9:=Xj (Nt (n:=nn) (xs:=xs) HO9.o HO3.o.1 (.int .i64 h.k) (.int .i64 h.op) (.int .i64 h.v) (.int .i64 h.ln) (.string (st h.nm)) (.slice a n c))
 have hco:∀ j,j<6->w9.cell? ⟨g9,nn*6+j,none⟩=[Value.int .i64 0,.int .i64 0,.int .i64 0,.int .i64 0,.string { data := #[] },.slice none 0 0][j]?:=λ j hj=>by
  have h1:=HO9.o.cellAt (nn*6+j) (by omega)
  rw[h1]
  have hx:xs.length=nn*6:=HO3.o.1
  rw[List.getElem?_append_right (by omega),hx,Nat.add_sub_cancel_left]
 have hfo:∀ j,w9.frozen? ⟨g9,j,none⟩=false:=λ j=>HO9.o.frozenAt j
 have e0:w9.cell? ⟨g9,nn*6,none⟩=some (.int .i64 0):=hco 0 (by omega)
 have e1:w9.cell? ⟨g9,nn*6+1,none⟩=some (.int .i64 0):=hco 1 (by omega)
 have e2:w9.cell? ⟨g9,nn*6+2,none⟩=some (.int .i64 0):=hco 2 (by omega)
 have e3:w9.cell? ⟨g9,nn*6+3,none⟩=some (.int .i64 0):=hco 3 (by omega)
 have e4:w9.cell? ⟨g9,nn*6+4,none⟩=some (.string { data := #[] }):=hco 4 (by omega)
 have e5:w9.cell? ⟨g9,nn*6+5,none⟩=some (.slice none 0 0):=hco 5 (by omega)
 have f0:=hfo (nn*6)
 have f1:=hfo (nn*6+1)
 have f2:=hfo (nn*6+2)
 have f3:=hfo (nn*6+3)
 have f4:=hfo (nn*6+4)
 have f5:=hfo (nn*6+5)
 have hlg:g9<w9.heap.size:=Kv HO9.o
 obtain⟨q0,q1,q2,q3,q4,q5⟩:=HL9.o.cells
 obtain⟨g0,g1,g2,g3,g4,g5⟩:=HL9.o.froz
 have hls:=HL9.o.lt
 clear hco hfo
 have hyw:Xq (∀ W,MS K wS W at2 r->Ls W gs k ln nm (.slice (some ⟨g9,0,none⟩) (nn+1) c9) vt ve->W.ownsRow wS.heap.size 37 6 (.slice (some ⟨g9,0,none⟩) (nn+1) c9) (nn+1) (xs++hdc h (.slice a n c))->(∀ b,b≠g9->b≠gs->W.heap[b]?=w9.heap[b]?)->W.heap.size=w9.heap.size->Nx K wS gs k ln nm (.slice av nn cv) vt ve nn xs rest w (.returned (.bool ok)) W):=Xj (λ W h1 h2 h3 h4 h5=>by
  have k1:=HL.o.lt
  have k2:=HKP.o
  have k3:=HB.o.size
  have k4:(wd.alloc (.cells #[.int .i64 0,.int .i64 0,.int .i64 0,.int .i64 0,.string { data := #[] },.slice none 0 0] 37)).heap.size=wd.heap.size+1:=by simp
  have k5:=HG9.o.size
  have k6:∀ b,b<w3.heap.size->some b≠(Value.slice av nn cv).ownBlock->w9.heap[b]?=w3.heap[b]?:=λ b hb hn=>(HG9.o.block b (by omega) hn).trans ((Below.heap_alloc wd (.cells #[.int .i64 0,.int .i64 0,.int .i64 0,.int .i64 0,.string { data := #[] },.slice none 0 0] 37) b (by omega)).trans (HB.o.block b hb))
  have k7:=HLT.o
  refine⟨ok,at2,r,g9,c9,h,a,n,c,rfl,h1,HRS.o.1,h2,h3,k7.2.2.2.2.1,by omega,Xj ⟨λ b hb n1 n2 n3=>?_,?_⟩⟩
  ·have n4:b≠g9:=λ e=>by
    rcases k7.2.2.2.2.1 with e2|e2
    ·exact n3 (by rw[e2,e])
    omega
   exact((h4 b n4 n2).trans (k6 b (by omega) n3)).trans (k2.2.1 b hb n1)
  rcases HRS.o.2 with⟨q1,ar,q2,q3,q4⟩|hr
  ·refine .inl ⟨q1,ar,q2,q3.keep (λ b hb hlt=>?_) (by omega),q4⟩
   have n3:some b≠(Value.slice av nn cv).ownBlock:=λ e=>by have:=(HO.o.lt b e.symm).2;omega
   have n4:b≠g9:=λ e=>by
    rcases HNEW.o with e2|e2
    ·exact n3 (by rw[e2,e])
    omega
   exact⟨(h4 b n4 (by omega)).trans (k6 b hlt n3),hb.1,n4⟩
  exact .inr hr)
 refine Py (i:=9) (j:=12) (by kernel_rfl) rfl rfl (λ K0 hK=>?_) (λ K0 hK=>?_)
 ·go_simp
  refine goK hK (λ _=>⟨Jf HLT.o.1 hJ.1,Jf HLT.o.2.1 hJ.2.1,Jf HLT.o.2.1 hJ.2.2.1,Jf HLT.o.2.1 hJ.2.2.2.1,Jf HLT.o.2.1 hJ.2.2.2.2.1,Jf HLT.o.2.1 hJ.2.2.2.2.2.1,Jf HLT.o.2.1 hJ.2.2.2.2.2.2⟩) ?_
  clear hK K0
  have HLA:=Xj (show Ls (Hg w9 g9 (nn*6) (.int .i64 h.k) (.int .i64 h.op) (.int .i64 h.v) (.int .i64 h.ln) (.string (st h.nm)) (.slice a n c)) gs k ln nm (.slice av nn cv) vt ve from (Uu gs (λ e=>HLT.o.1 e.symm)).trans HL9.o)
  have hjg:Xq (∀ W,W=(Hg w9 g9 (nn*6) (.int .i64 h.k) (.int .i64 h.op) (.int .i64 h.v) (.int .i64 h.ln) (.string (st h.nm)) (.slice a n c)).setCell ⟨gs,3,none⟩ (.slice (some ⟨g9,0,none⟩) (nn+1) c9)->Nx K wS gs k ln nm (.slice av nn cv) vt ve nn xs rest w (.returned (.bool ok)) W):=Xj (λ W hW=>by
   subst hW
   refine hyw.o _ ((HM9.o.sO HLT.o.2.2.1 _ _ _ _ _ _).sc (p:=⟨gs,3,none⟩) HGS.o _) (HLA.o.sx _) (HC9.o.kept (Xu _ gs 3 _) (.inr (by show some g9≠some gs;have:=HLT.o.1;simp;exact this))) (λ b n1 n2=>(heap_setCell_other _ _ b _ n2).trans (Uu b n1)) (by simp[World.setCell]))
  obtain⟨p0,p1,p2,p3,p4,p5⟩:=HLA.o.cells
  obtain⟨j0,j1,j2,j3,j4,j5⟩:=HLA.o.froz
  have hlA:=HLA.o.lt
  refine rdK 12 λ K0 hK=>?_
  go_simp
  refine hK.out _ _ (λ h=>absurd h (by decide)) ?_
  clear hK K0
  refine Xz ?_
  refine Ek (by kernel_rfl) ?_ _
  refine Xz ?_
  have hZ:=hjg.o _ rfl
  clear hjg
  go_wp2_with fail
  refine bodyPost_ret (v:=.bool ok) (by simp[results,Tryz.results192,go_sem]) rfl ?_
  exact hZ
 go_simp
 refine hK.out _ _ (λ h=>absurd h (by decide)) ?_
 clear hK K0
 refine Xz ?_
 obtain⟨wq,hwq⟩:∃ W,w9.setCell ⟨gs,3,none⟩ (.slice (some ⟨g9,0,none⟩) (nn+1) c9)=W:=⟨_,rfl⟩
 have hng:∀ b,b≠gs->wq.heap[b]?=w9.heap[b]?:=λ b hb=>by rw[<- hwq];exact heap_setCell_other _ _ b _ hb
 have HMQ:Xq (MS K wS wq at2 r):=Xj (by rw[<- hwq];exact HM9.o.sc (p:=⟨gs,3,none⟩) HGS.o _)
 have HLQ:Xq (Ls wq gs k ln nm (.slice (some ⟨g9,0,none⟩) (nn+1) c9) vt ve):=Xj (by rw[<- hwq];exact HL9.o.sx _)
 have HOQ:Xq (wq.ownsRow wS.heap.size 37 6 (.slice (some ⟨g9,0,none⟩) (nn+1) c9) (nn+1) (xs++[.int .i64 0,.int .i64 0,.int .i64 0,.int .i64 0,.string { data := #[] },.slice none 0 0])):=Xj (by rw[<- hwq];exact HO9.o.kept (Xu _ gs 3 _) (.inr (by show some g9≠some gs;have:=HLT.o.1;simp;exact this)))
 have HSQ:Xq (wq.heap.size=w9.heap.size):=Xj (by rw[<- hwq];simp[World.setCell])
 have HNQ:=Xj hng
 have hne:g9≠gs:=HLT.o.1
 have e0':wq.cell? ⟨g9,nn*6,none⟩=some (.int .i64 0):=(World.cell?_of_block (a:=⟨g9,nn*6,none⟩) (hng g9 hne)).trans e0
 have e1':wq.cell? ⟨g9,nn*6+1,none⟩=some (.int .i64 0):=(World.cell?_of_block (a:=⟨g9,nn*6+1,none⟩) (hng g9 hne)).trans e1
 have e2':wq.cell? ⟨g9,nn*6+2,none⟩=some (.int .i64 0):=(World.cell?_of_block (a:=⟨g9,nn*6+2,none⟩) (hng g9 hne)).trans e2
 have e3':wq.cell? ⟨g9,nn*6+3,none⟩=some (.int .i64 0):=(World.cell?_of_block (a:=⟨g9,nn*6+3,none⟩) (hng g9 hne)).trans e3
 have e4':wq.cell? ⟨g9,nn*6+4,none⟩=some (.string { data := #[] }):=(World.cell?_of_block (a:=⟨g9,nn*6+4,none⟩) (hng g9 hne)).trans e4
 have e5':wq.cell? ⟨g9,nn*6+5,none⟩=some (.slice none 0 0):=(World.cell?_of_block (a:=⟨g9,nn*6+5,none⟩) (hng g9 hne)).trans e5
 have f0':=HOQ.o.frozenAt (nn*6)
 have f1':=HOQ.o.frozenAt (nn*6+1)
 have f2':=HOQ.o.frozenAt (nn*6+2)
 have f3':=HOQ.o.frozenAt (nn*6+3)
 have f4':=HOQ.o.frozenAt (nn*6+4)
 have f5':=HOQ.o.frozenAt (nn*6+5)
 have hlq:g9<wq.heap.size:=Kv HOQ.o
 (try rw[hwq])
 have hjg:Xq (∀ W,W=Hg wq g9 (nn*6) (.int .i64 h.k) (.int .i64 h.op) (.int .i64 h.v) (.int .i64 h.ln) (.string (st h.nm)) (.slice a n c)->Nx K wS gs k ln nm (.slice av nn cv) vt ve nn xs rest w (.returned (.bool ok)) W):=Xj (λ W hW=>by
  subst hW
  exact hyw.o _ (HMQ.o.sO HLT.o.2.2.1 _ _ _ _ _ _) ((Uu gs (λ e=>HLT.o.1 e.symm)).trans HLQ.o) (Nt HOQ.o HO3.o.1 _ _ _ _ _ _) (λ b n1 n2=>(Uu b n1).trans (HNQ.o b n2)) (by rw[Az];exact HSQ.o))
 clear e0 e1 e2 e3 e4 e5 f0 f1 f2 f3 f4 f5 hlg q0 q1 q2 q3 q4 q5 g0 g1 g2 g3 g4 g5 hls hwq hng
 refine rdK 9 λ K0 hK=>?_
 go_simp
 refine hK.out _ _ (λ h=>absurd h (by decide)) ?_
 clear hK K0
 refine Xz ?_
 refine Ek (by kernel_rfl) ?_ _
 refine Xz ?_
 have hZ:=hjg.o _ rfl
 clear hjg
 go_wp2_with fail
 refine bodyPost_ret (v:=.bool ok) (by simp[results,Tryz.results192,go_sem]) rfl ?_
 exact hZ
end
theorem Cr {w:World} {P:Nat->Prop} {S:Sf} {sl:Value} {g:Nat} {v0 v1 v2 v3 v4 v5:Value} (h:Xf w P S sl) (hP:∀ b,P b->b≠g):Xf (set6 w g v0 v1 v2 v3 v4 v5) P S sl:=h.keep (λ b hb hlt=>⟨Yq b (hP b hb),hb⟩) (by rw[Zz];exact Nat.le_refl _)
theorem Qj {w:World} {P Q:Nat->Prop} {S:Sf} {sl:Value} (h:Xf w P S sl) (hPQ:∀ b,P b->b<w.heap.size->Q b):Xf w Q S sl:=h.keep (λ b hb hlt=>⟨rfl,hPQ b hb hlt⟩) (Nat.le_refl _)
theorem Cs {w w':World} {P:Nat->Prop} {S:Sf} {sl:Value} {g:Nat} (h:Xf w P S sl) (hg:w.grownBy w' (some g)) (hP:∀ b,P b->b≠g):Xf w' P S sl:=h.keep (λ b hb hlt=>⟨hg.block b hlt (λ e=>by injection e with e;exact hP b hb e),hb⟩) hg.size
theorem Du {w:World} {P:Nat->Prop} {S:Sf} {sl:Value} {p:Addr} {v:Value} (h:Xf w P S sl) (hP:∀ b,P b->b≠p.block):Xf (w.setCell p v) P S sl:=h.keep (λ b hb hlt=>⟨heap_setCell_other w p b v (hP b hb),hb⟩) (by simp[World.setCell])
def StQ (K:PC) (ts:List Tk) (m:Nat) (w:World) (e:Ending) (w':World):Prop :=
 ∃ (k ln:Int) (nm:Bt) (ax:Option Addr) (nx cx:Nat) (ta:Option Addr) (tn tc:Nat) (ea:Option Addr) (en ec:Nat) (ok:Bool) (at2:Nat) (r:List Tk),
  e=.returned (.tuple #[stv k ln nm (.slice ax nx cx) (.slice ta tn tc) (.slice ea en ec),.bool ok])/\PAt w' K at2 r/\r.length<=m/\w.grownBy w' (some K.g) /\
  Xq ((ok=true/\∃ xs th el,Qs .st ts (.ok (Zq k ln nm xs th el) r)/\Xk w' (λ b=>w.heap.size<=b) xs (.slice ax nx cx)/\Xf w' (λ b=>w.heap.size<=b) th (.slice ta tn tc)/\Xf w' (λ b=>w.heap.size<=b) el (.slice ea en ec)/\r.length<ts.length)\/(ok=false/\Qs .st ts (.bad r)))
def BlQ (K:PC) (rest:List Tk) (w:World) (e:Ending) (w':World):Prop :=
 ∃ (a:Option Addr) (n c:Nat) (ok:Bool) (at2:Nat) (r:List Tk),e=.returned (.tuple #[.slice a n c,.bool ok])/\PAt w' K at2 r/\r.length<=rest.length/\w.grownBy w' (some K.g) /\
  Xq ((ok=true/\∃ S,Qs .bl rest (.ok S r)/\Xf w' (λ b=>w.heap.size<=b) S (.slice a n c))\/(ok=false/\Qs .bl rest (.bad r)))
def CBl (m:Nat):Prop:=∀ (K:PC) (at_:Nat) (rest:List Tk) (w:World),PAt w K at_ rest->rest.length<=m->Calls Tryz.prog 147 #[.pointer (some ⟨K.g,0,none⟩)] w (BlQ K rest w)
abbrev Yk:Value:=.slice none 0 0
abbrev Tp:Obj:=.cells #[.int .i64 0,.int .i64 0,.string { data := #[] },.slice none 0 0,.slice none 0 0,.slice none 0 0] 110
theorem Ls.zero (w:World):Ls (w.alloc Tp) w.heap.size 0 0 [] Yk Yk Yk:=heap_alloc_new w _
theorem Ls.s6 {wx:World} {b:Nat} {k ln:Int} {nm:Bt} {vx vt ve:Value} (h:Ls wx b k ln nm vx vt ve) (k2 ln2:Int) (n2:Bt) (x2 t2 e2:Value):Ls (set6 wx b (.int .i64 k2) (.int .i64 ln2) (.string (st n2)) x2 t2 e2) b k2 ln2 n2 x2 t2 e2:=Qy h
theorem Qp {K:PC} {ts r:List Tk} {m at2 gR:Nat} {w wx:World} {k0 l0:Int} {n0:Bt} {x0 t0 e0:Value} (M:MS K w wx at2 r) (R:Ls wx gR k0 l0 n0 x0 t0 e0) (b1:w.heap.size<=gR) (hl:r.length<=m) (k ln:Int) (nm:Bt) (ax:Option Addr) (nx cx:Nat) (ta:Option Addr) (tn tc:Nat) (ea:Option Addr) (en ec:Nat) (ok:Bool)
  (Ha:(ok=true/\∃ xs th el,Qs .st ts (.ok (Zq k ln nm xs th el) r)/\Xk wx (λ b=>w.heap.size<=b/\b≠gR) xs (.slice ax nx cx)/\Xf wx (λ b=>w.heap.size<=b/\b≠gR) th (.slice ta tn tc)/\Xf wx (λ b=>w.heap.size<=b/\b≠gR) el (.slice ea en ec)/\r.length<ts.length)\/(ok=false/\Qs .st ts (.bad r))) (W:World)
  (hW:W=set6 wx gR (.int .i64 k) (.int .i64 ln) (.string (st nm)) (.slice ax nx cx) (.slice ta tn tc) (.slice ea en ec)) :
  Ls W gR k ln nm (.slice ax nx cx) (.slice ta tn tc) (.slice ea en ec)/\StQ K ts m w (.returned (.tuple #[stv k ln nm (.slice ax nx cx) (.slice ta tn tc) (.slice ea en ec),.bool ok])) W:=by
 subst hW
 have h2:=M.s6 b1 (.int .i64 k) (.int .i64 ln) (.string (st nm)) (.slice ax nx cx) (.slice ta tn tc) (.slice ea en ec)
 refine⟨R.s6 _ _ _ _ _ _,k,ln,nm,ax,nx,cx,ta,tn,tc,ea,en,ec,ok,at2,r,rfl,h2.pat,hl,h2.gr,Xj ?_⟩
 rcases Ha with⟨e1,xs,th,el,e2,e3,e4,e5,e6⟩|e
 ·exact .inl ⟨e1,xs,th,el,e2,Xg (Yz e3 (λ b hb=>hb.2)) (λ b hb _=>hb.1),Qj (Cr e4 (λ b hb=>hb.2)) (λ b hb _=>hb.1),Qj (Cr e5 (λ b hb=>hb.2)) (λ b hb _=>hb.1),e6⟩
 exact .inr e
theorem Dv (m:Nat) (hB:CBl m) (K:PC) (at_:Nat) (rest ts:List Tk) (k ln:Int) (w:World) (hP:PAt w K at_ rest) (hm:rest.length<=m) (hh:hk ts=.cho k rest) (hln:Yb ts=ln) (hrt:rest.length<ts.length) :
  Calls Tryz.prog 191 #[.pointer (some ⟨K.g,0,none⟩),stv k ln [] (.slice none 0 0) (.slice none 0 0) (.slice none 0 0)] w (StQ K ts rest.length w):=by
 have HM1:=Xj (((MS.init hP).al (.cells (scs k ln [] Yk Yk Yk) 110)).al Tp)
 have HS1:=Xj ((Ls.new w k ln [] Yk Yk Yk).al Tp)
 have HR1:=Xj (Ls.zero (w.alloc (.cells (scs k ln [] Yk Yk Yk) 110)))
 have HSZ:Xq ((w.alloc (.cells (scs k ln [] Yk Yk Yk) 110)).heap.size=w.heap.size+1):=Xj (by simp)
 have HB:=Xj hB
 have HMm:=Xj hm
 have HH:=Xj (And.intro hh hln)
 have HTS:=Xj hrt
 clear hB hP hm hh hln hrt
 go_enter Tryz.func191,Tryz.ntmps191
 go_upto_region 1 with fail
 obtain⟨w1,hw1⟩:∃ W,(w.alloc (.cells (scs k ln [] Yk Yk Yk) 110)).alloc Tp=W:=⟨_,rfl⟩
 obtain⟨gs,hgs⟩:∃ x,w.heap.size=x:=⟨_,rfl⟩
 (try rw[show (w.alloc (.cells #[.int .i64 k,.int .i64 ln,.string (st []),.slice none 0 0,.slice none 0 0,.slice none 0 0] 110)).alloc (.cells #[.int .i64 0,.int .i64 0,.string { data := #[] },.slice none 0 0,.slice none 0 0,.slice none 0 0] 110)=w1 from hw1])
 rw[HSZ.o] at HR1
 rw[hw1,hgs] at HS1 HR1
 rw[hw1] at HM1
 (try rw[hgs])
 have HGS:=Xj hgs
 obtain⟨gR,hgR⟩:∃ x,gs+1=x:=⟨_,rfl⟩
 rw[hgR] at HR1
 (try rw[hgR])
 have HGR:Xq (w.heap.size=gs/\gR=gs+1):=Xj ⟨hgs,hgR.symm⟩
 have HZ1:Xq (w1.heap.size=gs+2):=Xj (by rw[<- hw1,<- hgs];simp)
 clear hw1 hgs hgR HSZ HGS
 go_wp2_with fail
 refine(Wx K w at_ gs rest k ln [] Yk Yk Yk 0 [] w1 HM1.o HS1.o (World.ownsRow_nil _ _ _ _) (by have:=HGR.o.1;omega) (λ e=>nomatch e) (by omega)).mono ?_
 rintro e w2 ⟨ok,at2,r,g9,c9,h,a,n,c,rfl,hm2,hjy,hs2,ho2,hg9,hvu,Ha⟩
 have HM2:=Xj hm2
 have HS2:=Xj hs2
 have HO2:=Xj ho2
 have HR2:Xq (Ls w2 gR 0 0 [] Yk Yk Yk):=Xj ((Ha.o.1 gR HR1.o.lt (by have:=HM1.o.gl;have:=HGR.o;omega) (by have:=HGR.o;omega) (λ e=>nomatch e)).trans HR1.o)
 have HG9:Xq (gs+2<=g9/\w1.heap.size<=w2.heap.size):=Xj ⟨by rcases hg9 with e|e;(cases e);(have:=HZ1.o;omega),hvu⟩
 have HLE:=Xj hjy
 have HRS:Xq ((ok=true/\∃ ar,Ps .ex rest (.ok (Xb h ar) r)/\Xk w2 (λ b=>w1.heap.size<=b/\b≠g9) ar (.slice a n c)/\r.length<rest.length)\/(ok=false/\Ps .ex rest (.bad r))):=Xj Ha.o.2
 clear hm2 hjy hs2 ho2 hg9 hvu Ha HM1 HS1 HR1
 cases ok
 ·have HBD:Xq (Qs .st ts (.bad r)):=Xj (by
   rcases HRS.o with⟨h1,_⟩|⟨_,h1⟩
   ·cases h1
   exact Qs.cho_bad HH.o.1 h1)
  obtain⟨y0,y1,y2,y3,y4,y5⟩:=HR2.o.cells
  obtain⟨g0,g1,g2,g3,g4,g5⟩:=HR2.o.froz
  have hlR:=HR2.o.lt
  obtain⟨s0,s1,s2,s3,s4,s5⟩:=HS2.o.cells
  have hlS:=HS2.o.lt
  go_wp2_with fail
  have hZ:=Qp (ts:=ts) (m:=rest.length) HM2.o HR2.o (show w.heap.size<=gR by have:=HGR.o;omega) (HLE.o) k ln [] (some ⟨g9,0,none⟩) (0+1) c9 none 0 0 none 0 0 false (.inr ⟨rfl,HBD.o⟩)
  obtain⟨wz,hwz⟩:∃ W,set6 w2 gR (.int .i64 k) (.int .i64 ln) (.string (st [])) (.slice (some ⟨g9,0,none⟩) (0+1) c9) (.slice none 0 0) (.slice none 0 0)=W:=⟨_,rfl⟩
  have hY:=hwz
  unfold set6 at hY
  (try rw[hY])
  obtain⟨hd,hep⟩:=hZ wz hwz.symm
  obtain⟨d0,d1,d2,d3,d4,d5⟩:=hd.cells
  clear hZ
  refine bodyPost_ret (v:=.tuple #[stv k ln [] (.slice (some ⟨g9,0,none⟩) (0+1) c9) (.slice none 0 0) (.slice none 0 0),.bool false]) (by simp[results,Tryz.results191,go_sem,d0,d1,d2,d3,d4,d5]) rfl ?_
  exact hep
 obtain⟨ar,hps,har,hlt⟩:∃ ar,Ps .ex rest (.ok (Xb h ar) r)/\Xk w2 (λ b=>w1.heap.size<=b/\b≠g9) ar (.slice a n c)/\r.length<rest.length:=by
  rcases HRS.o with⟨_,h1⟩|⟨h1,_⟩
  ·exact h1
  cases h1
 have HPS:=Xj hps
 have HLT:=Xj hlt
 have HAX:Xq (Xk w2 (λ b=>w.heap.size<=b/\b≠gR/\b≠gs) (Xb h ar) (.slice (some ⟨g9,0,none⟩) (0+1) c9)):=Xj (Xk.of_own (e:=37) (size:=6) (base:=w.heap.size) (F:=Xb h ar) HO2.o (Xk.one (Xg har (λ b hb _=>⟨by have:=HZ1.o;have:=HGR.o;omega,by have:=HZ1.o;have:=HGR.o;omega,by have:=HZ1.o;omega⟩))) (λ b hb=>by have hb2:some g9=some b:=hb;injection hb2 with hb2;have:=HG9.o;have:=HGR.o;omega))
 clear hps har hlt HRS
 go_wp2_with fail
 refine(HB.o K at2 r w2 HM2.o.pat (by have:=HLT.o;have:=HMm.o;omega)).mono ?_
 rintro e w3 ⟨ta,tn,tc,ok3,at3,r3,rfl,hp3,hle3,hg3,hyk⟩
 have hgl:=HM2.o.gl
 have hgr:w.heap.size<=gs/\gs<=w.heap.size/\gs<gR/\gR<=gs+1:=by have:=HGR.o;omega
 have HM3:=Xj (HM2.o.call hp3 hg3)
 have HS3:=Xj (HS2.o.grw hg3 (by intro e;injection e with e;omega))
 have HR3:=Xj (HR2.o.grw hg3 (by intro e;injection e with e;omega))
 have HAX3:=Xj (Zu HAX.o hg3 (λ b hb=>by have:=hb.1;omega))
 have hvw:Xq (r3.length<=rest.length/\r3.length<rest.length):=Xj ⟨by have:=HLT.o;omega,by have:=HLT.o;omega⟩
 have HRS3:Xq ((ok3=true/\∃ S,Qs .bl r (.ok S r3)/\Xf w3 (λ b=>w.heap.size<=b/\b≠gR/\b≠gs) S (.slice ta tn tc))\/(ok3=false/\Qs .bl r (.bad r3))):=Xj (by
  rcases hyk.o with⟨e1,S,e2,e3⟩|hr
  ·exact .inl ⟨e1,S,e2,Qj e3 (λ b hb _=>by have:=HG9.o.2;have:=HZ1.o;exact⟨by omega,by omega,by omega⟩)⟩
  exact .inr hr)
 clear hp3 hg3 hle3 hyk HM2 HS2 HR2 HO2 HAX
 obtain⟨s0,s1,s2,s3,s4,s5⟩:=HS3.o.cells
 obtain⟨j0,j1,j2,j3,j4,j5⟩:=HS3.o.froz
 have hlS:=HS3.o.lt
 have HM4:=Xj (HM3.o.sc (p:=⟨gs,4,none⟩) (by show w.heap.size<=gs;omega) (.slice ta tn tc))
 have HS4:=Xj (HS3.o.sth (.slice ta tn tc))
 have HR4:=Xj (HR3.o.s1 (p:=⟨gs,4,none⟩) (v:=.slice ta tn tc) (by show gR≠gs;omega))
 have hbu:=Xj (Kn (p:=⟨gs,4,none⟩) (v:=.slice ta tn tc) HAX3.o (λ b hb=>hb.2.2))
 have hbp:Xq ((ok3=true/\∃ S,Qs .bl r (.ok S r3)/\Xf (w3.setCell ⟨gs,4,none⟩ (.slice ta tn tc)) (λ b=>w.heap.size<=b/\b≠gR/\b≠gs) S (.slice ta tn tc))\/(ok3=false/\Qs .bl r (.bad r3))):=Xj (by
  rcases HRS3.o with⟨e1,S,e2,e3⟩|hr
  ·exact .inl ⟨e1,S,e2,Du e3 (λ b hb=>hb.2.2)⟩
  exact .inr hr)
 go_upto_region 5 with fail
 obtain⟨w4,hw4⟩:∃ W,w3.setCell ⟨gs,4,none⟩ (.slice ta tn tc)=W:=⟨_,rfl⟩
 (try rw[hw4])
 rw[hw4] at HM4 HS4 HR4 hbu hbp
 clear hw4 s0 s1 s2 s3 s4 s5 j0 j1 j2 j3 j4 j5 hlS HM3 HS3 HR3 HAX3 HRS3
 cases ok3
 ·have HBD:Xq (Qs .st ts (.bad r3)):=Xj (by
   rcases hbp.o with⟨h1,_⟩|⟨_,h1⟩
   ·cases h1
   exact Qs.cho_bl HH.o.1 HPS.o h1)
  obtain⟨y0,y1,y2,y3,y4,y5⟩:=HR4.o.cells
  obtain⟨g0,g1,g2,g3,g4,g5⟩:=HR4.o.froz
  have hlR:=HR4.o.lt
  obtain⟨s0,s1,s2,s3,s4,s5⟩:=HS4.o.cells
  have hlS:=HS4.o.lt
  go_wp2_with fail
  have hZ:=Qp (ts:=ts) (m:=rest.length) HM4.o HR4.o (show w.heap.size<=gR by have:=HGR.o;omega) (hvw.o.1) k ln [] (some ⟨g9,0,none⟩) (0+1) c9 ta tn tc none 0 0 false (.inr ⟨rfl,HBD.o⟩)
  obtain⟨wz,hwz⟩:∃ W,set6 w4 gR (.int .i64 k) (.int .i64 ln) (.string (st [])) (.slice (some ⟨g9,0,none⟩) (0+1) c9) (.slice ta tn tc) (.slice none 0 0)=W:=⟨_,rfl⟩
  have hY:=hwz
  unfold set6 at hY
  (try rw[hY])
  obtain⟨hd,hep⟩:=hZ wz hwz.symm
  obtain⟨d0,d1,d2,d3,d4,d5⟩:=hd.cells
  clear hZ
  refine bodyPost_ret (v:=.tuple #[stv k ln [] (.slice (some ⟨g9,0,none⟩) (0+1) c9) (.slice ta tn tc) (.slice none 0 0),.bool false]) (by simp[results,Tryz.results191,go_sem,d0,d1,d2,d3,d4,d5]) rfl ?_
  exact hep
 obtain⟨th,hth,hta⟩:∃ S,Qs .bl r (.ok S r3)/\Xf w4 (λ b=>w.heap.size<=b/\b≠gR/\b≠gs) S (.slice ta tn tc):=by
  rcases hbp.o with⟨_,h1⟩|⟨h1,_⟩
  ·exact h1
  cases h1
 have HTH:=Xj hth
 have HTA:=Xj hta
 clear hth hta hbp
 cases hk4:(k==4)
 ·have HOK:Xq (Qs .st ts (.ok (Zq k ln [] (Xb h ar) th .nil) r3)):=Xj (by
   have:=Qs.cho_one HH.o.1 HPS.o HTH.o (λ e=>by rw[e.1] at hk4;cases hk4)
   rw[HH.o.2] at this
   exact this)
  obtain⟨y0,y1,y2,y3,y4,y5⟩:=HR4.o.cells
  obtain⟨g0,g1,g2,g3,g4,g5⟩:=HR4.o.froz
  have hlR:=HR4.o.lt
  obtain⟨s0,s1,s2,s3,s4,s5⟩:=HS4.o.cells
  have hlS:=HS4.o.lt
  go_wp2_with fail
  have hZ:=Qp (ts:=ts) (m:=rest.length) HM4.o HR4.o (show w.heap.size<=gR by have:=HGR.o;omega) (hvw.o.1) k ln [] (some ⟨g9,0,none⟩) (0+1) c9 ta tn tc none 0 0 true (.inl ⟨rfl,_,th,.nil,HOK.o,Xg hbu.o (λ b hb _=>⟨hb.1,hb.2.1⟩),Qj HTA.o (λ b hb _=>⟨hb.1,hb.2.1⟩),Xf.nil _ _,by have:=hvw.o;have:=HTS.o;omega⟩)
  obtain⟨wz,hwz⟩:∃ W,set6 w4 gR (.int .i64 k) (.int .i64 ln) (.string (st [])) (.slice (some ⟨g9,0,none⟩) (0+1) c9) (.slice ta tn tc) (.slice none 0 0)=W:=⟨_,rfl⟩
  have hY:=hwz
  unfold set6 at hY
  (try rw[hY])
  obtain⟨hd,hep⟩:=hZ wz hwz.symm
  obtain⟨d0,d1,d2,d3,d4,d5⟩:=hd.cells
  clear hZ
  refine bodyPost_ret (v:=.tuple #[stv k ln [] (.slice (some ⟨g9,0,none⟩) (0+1) c9) (.slice ta tn tc) (.slice none 0 0),.bool true]) (by simp[results,Tryz.results191,go_sem,d0,d1,d2,d3,d4,d5]) rfl ?_
  exact hep
 have hk44:k=4:=by simpa using hk4
 subst hk44
 obtain⟨s0,s1,s2,s3,s4,s5⟩:=HS4.o.cells
 have hlS:=HS4.o.lt
 go_wp2_with fail
 refine(Xn K at3 r3 [101,108,115,101] _ HM4.o.pat).mono ?_
 rintro e w5 ⟨at5,r5,rfl,hp5,hg5,hc5⟩
 have HM5:=Xj (HM4.o.call hp5 hg5)
 have HS5:=Xj (HS4.o.grw hg5 (by intro e;injection e with e;omega))
 have HR5:=Xj (HR4.o.grw hg5 (by intro e;injection e with e;omega))
 have hfm:=Xj (Zu hbu.o hg5 (λ b hb=>by have:=hb.1;omega))
 have hff:=Xj (Cs HTA.o hg5 (λ b hb=>by have:=hb.1;omega))
 clear hp5 hg5 HM4 HS4 HR4 hbu HTA s0 s1 s2 s3 s4 s5 hlS hk4
 rcases hc5 with⟨hT,rfl,rfl⟩|⟨hT,rfl,rfl⟩
 rotate_left
 ·have HOK:Xq (Qs .st ts (.ok (Zq 4 ln [] (Xb h ar) th .nil) r5)):=Xj (by
   have:=Qs.cho_one HH.o.1 HPS.o HTH.o (λ e=>by have:=e.2;rw[hT] at this;cases this)
   rw[HH.o.2] at this
   exact this)
  (try rw[hT])
  clear hT
  obtain⟨y0,y1,y2,y3,y4,y5⟩:=HR5.o.cells
  obtain⟨g0,g1,g2,g3,g4,g5⟩:=HR5.o.froz
  have hlR:=HR5.o.lt
  obtain⟨s0,s1,s2,s3,s4,s5⟩:=HS5.o.cells
  have hlS:=HS5.o.lt
  go_wp2_with fail
  have hZ:=Qp (ts:=ts) (m:=rest.length) HM5.o HR5.o (show w.heap.size<=gR by have:=HGR.o;omega) (hvw.o.1) 4 ln [] (some ⟨g9,0,none⟩) (0+1) c9 ta tn tc none 0 0 true (.inl ⟨rfl,_,th,.nil,HOK.o,Xg hfm.o (λ b hb _=>⟨hb.1,hb.2.1⟩),Qj hff.o (λ b hb _=>⟨hb.1,hb.2.1⟩),Xf.nil _ _,by have:=hvw.o;have:=HTS.o;omega⟩)
  obtain⟨wz,hwz⟩:∃ W,set6 w5 gR (.int .i64 4) (.int .i64 ln) (.string (st [])) (.slice (some ⟨g9,0,none⟩) (0+1) c9) (.slice ta tn tc) (.slice none 0 0)=W:=⟨_,rfl⟩
  have hY:=hwz
  unfold set6 at hY
  (try rw[hY])
  obtain⟨hd,hep⟩:=hZ wz hwz.symm
  obtain⟨d0,d1,d2,d3,d4,d5⟩:=hd.cells
  clear hZ
  refine bodyPost_ret (v:=.tuple #[stv 4 ln [] (.slice (some ⟨g9,0,none⟩) (0+1) c9) (.slice ta tn tc) (.slice none 0 0),.bool true]) (by simp[results,Tryz.results191,go_sem,d0,d1,d2,d3,d4,d5]) rfl ?_
  exact hep
 have HT:=Xj hT
 (try rw[hT])
 clear hT
 have HRT:Xq (r3.tail.length<r3.length):=Xj (Uq (by intro e;have:=HT.o;rw[e] at this;cases this))
 go_wp2_with fail
 refine(HB.o K (at3+1) r3.tail w5 HM5.o.pat (by have:=hvw.o.2;have:=HRT.o;have:=HMm.o;omega)).mono ?_
 rintro e w6 ⟨ea,en,ec,ok6,at6,r6,rfl,hp6,hfh,hg6,hzk⟩
 have HM6:=Xj ((HM5.o.call hp6 hg6).sc (p:=⟨gs,5,none⟩) (by show w.heap.size<=gs;omega) (.slice ea en ec))
 have hyy:=Xj (HS5.o.grw hg6 (by intro e;injection e with e;omega))
 have HS6:=Xj (hyy.o.sel (.slice ea en ec))
 have HR6:=Xj ((HR5.o.grw hg6 (by intro e;injection e with e;omega)).s1 (p:=⟨gs,5,none⟩) (v:=.slice ea en ec) (by show gR≠gs;omega))
 have HAX6:=Xj (Kn (p:=⟨gs,5,none⟩) (v:=.slice ea en ec) (Zu hfm.o hg6 (λ b hb=>by have:=hb.1;omega)) (λ b hb=>hb.2.2))
 have HTA6:=Xj (Du (p:=⟨gs,5,none⟩) (v:=.slice ea en ec) (Cs hff.o hg6 (λ b hb=>by have:=hb.1;omega)) (λ b hb=>hb.2.2))
 have hvx:Xq (r6.length<=rest.length):=Xj (by have:=hvw.o.2;have:=HRT.o;omega)
 have HRS6:Xq ((ok6=true/\∃ el,Qs .st ts (.ok (Zq 4 ln [] (Xb h ar) th el) r6)/\Xf (w6.setCell ⟨gs,5,none⟩ (.slice ea en ec)) (λ b=>w.heap.size<=b/\b≠gR) el (.slice ea en ec))\/(ok6=false/\Qs .st ts (.bad r6))):=Xj (by
  have hz:=HM5.o.gr.size
  have hr:=HR5.o.lt
  have hsl:=HS5.o.lt
  rcases hzk.o with⟨e1,S,e2,e3⟩|⟨e1,e2⟩
  ·refine .inl ⟨e1,S,?_,?_⟩
   ·have:=Qs.cho_two HH.o.1 HPS.o HTH.o ⟨rfl,HT.o⟩ e2
    rw[HH.o.2] at this
    exact this
   exact Qj (Du (p:=⟨gs,5,none⟩) (v:=.slice ea en ec) e3 (λ b hb=>by show b≠gs;omega)) (λ b hb _=>⟨by omega,by omega⟩)
  exact .inr ⟨e1,Qs.cho_two_bad HH.o.1 HPS.o HTH.o ⟨rfl,HT.o⟩ e2⟩)
 clear hp6 hg6 hfh hzk HM5 HS5 HR5 hfm hff
 obtain⟨s0,s1,s2,s3,s4,s5⟩:=hyy.o.cells
 obtain⟨j0,j1,j2,j3,j4,j5⟩:=hyy.o.froz
 have hlS:=hyy.o.lt
 go_upto_region 9 with fail
 obtain⟨w7,hw7⟩:∃ W,w6.setCell ⟨gs,5,none⟩ (.slice ea en ec)=W:=⟨_,rfl⟩
 (try rw[hw7])
 rw[hw7] at HM6 HS6 HR6 HAX6 HTA6 HRS6
 clear hw7 s0 s1 s2 s3 s4 s5 j0 j1 j2 j3 j4 j5 hlS hyy
 obtain⟨y0,y1,y2,y3,y4,y5⟩:=HR6.o.cells
 obtain⟨g0,g1,g2,g3,g4,g5⟩:=HR6.o.froz
 have hlR:=HR6.o.lt
 obtain⟨s0,s1,s2,s3,s4,s5⟩:=HS6.o.cells
 have hlS:=HS6.o.lt
 go_wp2_with fail
 have hZ:=Qp (ts:=ts) (m:=rest.length) HM6.o HR6.o (show w.heap.size<=gR by have:=HGR.o;omega) (hvx.o) 4 ln [] (some ⟨g9,0,none⟩) (0+1) c9 ta tn tc ea en ec ok6 (by
  rcases HRS6.o with⟨e1,el,e2,e3⟩|⟨e1,e2⟩
  ·exact .inl ⟨e1,_,th,el,e2,Xg HAX6.o (λ b hb _=>⟨hb.1,hb.2.1⟩),Qj HTA6.o (λ b hb _=>⟨hb.1,hb.2.1⟩),e3,by have:=hvx.o;have:=HTS.o;omega⟩
  exact .inr ⟨e1,e2⟩)
 obtain⟨wz,hwz⟩:∃ W,set6 w7 gR (.int .i64 4) (.int .i64 ln) (.string (st [])) (.slice (some ⟨g9,0,none⟩) (0+1) c9) (.slice ta tn tc) (.slice ea en ec)=W:=⟨_,rfl⟩
 have hY:=hwz
 unfold set6 at hY
 (try rw[hY])
 obtain⟨hd,hep⟩:=hZ wz hwz.symm
 obtain⟨d0,d1,d2,d3,d4,d5⟩:=hd.cells
 clear hZ
 refine bodyPost_ret (v:=.tuple #[stv 4 ln [] (.slice (some ⟨g9,0,none⟩) (0+1) c9) (.slice ta tn tc) (.slice ea en ec),.bool ok6]) (by simp[results,Tryz.results191,go_sem,d0,d1,d2,d3,d4,d5]) rfl ?_
 exact hep
def CSt (m:Nat):Prop:=∀ (K:PC) (at_:Nat) (rest:List Tk) (w:World),PAt w K at_ rest->rest.length<=m->Calls Tryz.prog 171 #[.pointer (some ⟨K.g,0,none⟩)] w (StQ K rest rest.length w)
structure BI (K:PC) (w:World) (rest:List Tk) (a3:Option Addr) (n3 c3:Nat) (xs:List Value) (S:Sf) (at3:Nat) (r3:List Tk) (wr:World):Prop where
 ms:MS K w wr at3 r3
 own:wr.ownsRow w.heap.size 110 6 (.slice a3 n3 c3) n3 xs
 sf:Zp wr (λ b=>w.heap.size<=b/\some b≠(Value.slice a3 n3 c3).ownBlock) S xs
 len:S.len=n3
 n:n3<=at3
 le:r3.length<rest.length
 co:∀ z,Qs (.bk S) r3 z->Qs .bl rest z
theorem xzb {w w':World} {P:Nat->Prop} {S:Sf} {xs:List Value} {g:Nat} (h:Zp w P S xs) (hg:w.grownBy w' (some g)) (hP:∀ b,P b->b≠g):Zp w' P S xs:=h.keep (λ b hb hlt=>⟨hg.block b hlt (λ e=>by injection e with e;exact hP b hb e),hb⟩) hg.size
theorem Ag (m:Nat) (hS:∀ j,j<m->CSt j):CBl m:=by
 intro K at_ rest w hP hm
 have HM1:=Xj (MS.init hP)
 have HMm:=Xj hm
 have HST:Xq (∀ (w2:World) (at2:Nat) (r:List Tk),PAt w2 K at2 r->r.length<rest.length->Calls Tryz.prog 171 #[.pointer (some ⟨K.g,0,none⟩)] w2 (StQ K r r.length w2)):=Xj (λ w2 at2 r hp hl=>hS r.length (by omega) K at2 r w2 hp (Nat.le_refl _))
 clear hS hP hm
 go_enter Tryz.func147,Tryz.ntmps147
 go_wp2_with fail
 refine(Xn K at_ rest [123] _ HM1.o.pat).mono ?_
 rintro e w2 ⟨at2,r2,rfl,hp2,hg2,hc2⟩
 have HM2:=Xj (HM1.o.call hp2 hg2)
 clear hp2 hg2
 rcases hc2 with⟨hT,rfl,rfl⟩|⟨hT,rfl,rfl⟩
 rotate_left
 ·have HT:=Xj hT
  (try rw[hT])
  clear hT
  go_wp2_with fail
  refine bodyPost_ret (v:=.tuple #[.slice none 0 0,.bool false]) (by simp[results,Tryz.results147,go_sem]) rfl ?_
  exact⟨none,0,0,false,_,_,rfl,HM2.o.pat,Nat.le_refl _,HM2.o.gr,Xj (.inr ⟨rfl,Qs.bl_no HT.o⟩)⟩
 have HT:=Xj hT
 (try rw[hT])
 clear hT
 have HRT:Xq (rest.tail.length<rest.length):=Xj (Uq (by intro e;have:=HT.o;rw[e] at this;cases this))
 have HI0:Xq (BI K w rest none 0 0 [] .nil (at_+1) rest.tail w2):=Xj ⟨HM2.o,World.ownsRow_nil _ _ _ _,rfl,rfl,by omega,HRT.o,λ z hz=>Qs.bl_ok HT.o hz⟩
 go_upto_block 0 with fail
 go_wp2_with fail
 go_loopw [4] (λ v4 wr=>∃ (a3:Option Addr) (n3 c3:Nat) (xs:List Value) (S:Sf) (at3:Nat) (r3:List Tk),v4=.slice a3 n3 c3/\Xq (BI K w rest a3 n3 c3 xs S at3 r3 wr)) (λ _ wr=>K.ts.length-natAt wr K.g)
 case atStart=>exact⟨none,0,0,[],.nil,at_+1,rest.tail,rfl,HI0⟩
 rename World=>wa
 obtain⟨a3,n3,c3,xs,S,at3,r3,rfl,HI⟩:=hrel
 go_wp2_with fail
 refine(Xn K at3 r3 [125] _ HI.o.ms.pat).mono ?_
 rintro e w4 ⟨at4,r4,rfl,hp4,hg4,hc4⟩
 have hgl:=HI.o.ms.gl
 have HM4:=Xj (HI.o.ms.call hp4 hg4)
 have HO4:=Xj (Yx HI.o.own hg4 hgl)
 have HF4:=Xj (xzb HI.o.sf hg4 (λ b hb=>by have:=hb.1;omega))
 clear hp4 hg4
 rcases hc4 with⟨hT3,rfl,rfl⟩|⟨hT3,rfl,rfl⟩
 ·have HT3:=Xj hT3
  (try rw[hT3])
  clear hT3
  have hbm:Xq (r3.tail.length<=r3.length):=Xj (by simp)
  go_wp2_with fail
  refine bodyPost_ret (v:=.tuple #[.slice a3 n3 c3,.bool true]) (by simp[results,Tryz.results147,go_sem]) rfl ?_
  refine⟨a3,n3,c3,true,_,_,rfl,HM4.o.pat,by have:=hbm.o;have:=HI.o.le;omega,HM4.o.gr,Xj (.inl ⟨rfl,S,HI.o.co _ (Qs.bk_end HT3.o),?_⟩)⟩
  exact Xf.of_own (e:=110) (size:=6) (base:=w.heap.size) (by rw[HI.o.len];exact HO4.o) (HF4.o.keep (λ b hb _=>⟨rfl,hb.1⟩) (Nat.le_refl _)) (λ b hb=>(HO4.o.lt b hb).1)
 have HT3:=Xj hT3
 (try rw[hT3])
 clear hT3
 go_wp2_with fail
 refine(HST.o w4 at4 r4 HM4.o.pat HI.o.le).mono ?_
 rintro e w5 ⟨k,ln,nm,ax,nx,cx,ta,tn,tc,ea,en,ec,ok,at5,r5,rfl,hp5,hzy,hg5,hjm⟩
 have HM5:=Xj ((HM4.o.call hp5 hg5).al (.cells (scs k ln nm (.slice ax nx cx) (.slice ta tn tc) (.slice ea en ec)) 110))
 have HS5:=Xj (Ls.new w5 k ln nm (.slice ax nx cx) (.slice ta tn tc) (.slice ea en ec))
 have HO5:=Xj ((Yx HO4.o hg5 hgl).alloc (.cells (scs k ln nm (.slice ax nx cx) (.slice ta tn tc) (.slice ea en ec)) 110))
 have HF5:=Xj ((xzb HF4.o hg5 (λ b hb=>by have:=hb.1;omega)).keep (Q:=λ b=>w.heap.size<=b/\some b≠(Value.slice a3 n3 c3).ownBlock) (λ b hb hlt=>⟨Below.heap_alloc w5 (.cells (scs k ln nm (.slice ax nx cx) (.slice ta tn tc) (.slice ea en ec)) 110) b hlt,hb⟩) (by simp))
 have hbh:Xq ((ok=true/\∃ xs th el,Qs .st r4 (.ok (Zq k ln nm xs th el) r5)/\Zp (w5.alloc (.cells (scs k ln nm (.slice ax nx cx) (.slice ta tn tc) (.slice ea en ec)) 110)) (λ b=>w.heap.size<=b/\some b≠(Value.slice a3 n3 c3).ownBlock) (Zq k ln nm xs th el) (stc k ln nm (.slice ax nx cx) (.slice ta tn tc) (.slice ea en ec))/\r5.length<r4.length)\/(ok=false/\Qs .st r4 (.bad r5))):=Xj (by
  rcases hjm.o with⟨e1,xs,th,el,e2,e3,e4,e5,e6⟩|hr
  ·refine .inl ⟨e1,xs,th,el,e2,(Zp.one e3 e4 e5).keep (λ b hb hlt=>⟨Below.heap_alloc w5 _ b hlt,by have:=HM4.o.gr.size;omega,λ e=>by have:=(HO4.o.lt b e.symm).2;omega⟩) (by simp),e6⟩
  exact .inr hr)
 have hwu:=Xj hzy
 clear hjm hp5 hg5 hzy HO4 HF4
 go_upto_region 6 with fail
 obtain⟨w6,hw6⟩:∃ W,w5.alloc (.cells (scs k ln nm (.slice ax nx cx) (.slice ta tn tc) (.slice ea en ec)) 110)=W:=⟨_,rfl⟩
 obtain⟨gy,hgy⟩:∃ x,w5.heap.size=x:=⟨_,rfl⟩
 (try rw[show w5.alloc (.cells #[.int .i64 k,.int .i64 ln,.string (st nm),.slice ax nx cx,.slice ta tn tc,.slice ea en ec] 110)=w6 from hw6])
 rw[hw6] at HM5 HS5 HO5 HF5 hbh
 rw[hgy] at HS5
 (try rw[hgy])
 clear hw6 hgy
 cases ok
 ·have HBD:Xq (Qs .bl rest (.bad r5)):=Xj (by
   rcases hbh.o with⟨h1,_⟩|⟨_,h1⟩
   ·cases h1
   exact HI.o.co _ (Qs.bk_bad HT3.o h1))
  go_wp2_with fail
  refine bodyPost_ret (v:=.tuple #[.slice none 0 0,.bool false]) (by simp[results,Tryz.results147,go_sem]) rfl ?_
  exact⟨none,0,0,false,_,_,rfl,HM5.o.pat,by have:=hwu.o;have:=HI.o.le;omega,HM5.o.gr,Xj (.inr ⟨rfl,HBD.o⟩)⟩
 obtain⟨x1,t1,e1,hps,hsf,hlt⟩:∃ xs th el,Qs .st r4 (.ok (Zq k ln nm xs th el) r5)/\Zp w6 (λ b=>w.heap.size<=b/\some b≠(Value.slice a3 n3 c3).ownBlock) (Zq k ln nm xs th el) (stc k ln nm (.slice ax nx cx) (.slice ta tn tc) (.slice ea en ec))/\r5.length<r4.length:=by
  rcases hbh.o with⟨_,h1⟩|⟨h1,_⟩
  ·exact h1
  cases h1
 have HPS:=Xj hps
 have HSF:=Xj hsf
 have HLT:=Xj hlt
 clear hps hsf hlt hbh
 obtain⟨s0,s1,s2,s3,s4,s5⟩:=HS5.o.cells
 have hlS:=HS5.o.lt
 have hql:=HM5.o.gr.size
 have hn3:n3<=100000:=by have:=HI.o.n;have:=HI.o.ms.pat.lt;have:=HI.o.ms.pat.n;omega
 obtain⟨i0,hi0,hz0,hz1,hz2⟩:=info_parts Tryz.infoStmt
 have HIF:=Xj hi0
 have HZ0:=Xj hz0
 have HZ1:=Xj hz1
 have HZ2:=Xj hz2
 clear hi0 hz0 hz1 hz2
 have HOA:=Xj (HO5.o.alloc (.cells (scs k ln nm (.slice ax nx cx) (.slice ta tn tc) (.slice ea en ec)) 110))
 go_wp2_with (at_builtin;refine wpList_append_lies _ rfl _ _ _ rfl w.heap.size 110 i0 _ 6 104 Tryz.underlying61 HIF.o HZ0.o HZ1.o HZ2.o rfl (by omega) _ _ _ rfl HOA.o ⟨w6.heap.size,0,none⟩ 1 1 (stc k ln nm (.slice ax nx cx) (.slice ta tn tc) (.slice ea en ec)) rfl rfl (World.news_of_block (cs:=(stc k ln nm (.slice ax nx cx) (.slice ta tn tc) (.slice ea en ec)).toArray) (t:=110) (fr:=(0,0)) (heap_alloc_new w6 _)) (by simp[Value.oneCell']) (by omega) (by unfold maxLen;omega) (by omega) (by simp;omega) _ rfl ?_;intro g9 c9 w9 hown9 hgrow9 hor9 hlt9;have HO9:=Xj hown9;have HG9:=Xj hgrow9;have HR9:=Xj hor9;clear hown9 hgrow9 hor9 hlt9)
 have HN9:Xq (BI K w rest (some ⟨g9,0,none⟩) (n3+1) c9 (xs++stc k ln nm (.slice ax nx cx) (.slice ta tn tc) (.slice ea en ec)) (S.app (Zq k ln nm x1 t1 e1)) at5 r5 w9):=Xj (by
  have hsA:∀ o:Obj,(w6.alloc o).heap.size=w6.heap.size+1:=λ o=>by simp
  have hs9:=HG9.o.size
  rw[hsA] at hs9
  have key:∀ b,(w.heap.size<=b/\some b≠(Value.slice a3 n3 c3).ownBlock)->b<w6.heap.size->w9.heap[b]?=w6.heap[b]?/\(w.heap.size<=b/\some b≠(Value.slice (some ⟨g9,0,none⟩) (n3+1) c9).ownBlock):=λ b hb hlt =>
   ⟨(HG9.o.block b (by rw[hsA];omega) hb.2).trans (Below.heap_alloc w6 _ b hlt),hb.1,by
    show some b≠some g9
    rcases HR9.o with e|e
    ·rw[<- e];exact hb.2
    rw[hsA] at e;simp;omega⟩
  refine⟨(HM5.o.al _).own HG9.o (λ k2 e=>(HO5.o.lt k2 e).1),HO9.o,Zp.app (HF5.o.keep key (by omega)) (HSF.o.keep key (by omega)),by rw[Sf.len_app,HI.o.len];rfl,?_,?_,λ z hz=>HI.o.co z (Qs.bk_ok HT3.o HPS.o hz)⟩
  ·have h1:=HM5.o.pat.lt.2
   have h2:=HM4.o.pat.lt.2
   have h3:=HLT.o
   have h4:=HI.o.n
   omega
  have:=HLT.o;have:=HI.o.le;omega)
 go_roundw
 case rel=>exact⟨some ⟨g9,0,none⟩,n3+1,c9,_,_,at5,r5,rfl,HN9⟩
 have h1:=HN9.o.ms.pat.natAt
 have h2:=HI.o.ms.pat.natAt
 have h3:=HN9.o.ms.pat.lt
 have h4:=HM4.o.pat.lt.2
 have h5:=HLT.o
 rw[h1,h2]
 omega
end Go.Proofs.YtldgghnjminhiaaGreatDoor
