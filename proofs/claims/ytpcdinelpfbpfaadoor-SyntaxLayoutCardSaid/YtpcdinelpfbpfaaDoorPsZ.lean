/-
  WALK of the implementation's parser: primary. (Filled in from a template of this repo, printed by mk_psz.py.)
-/
import Derived.Test.YtpcdinelpfbpfaaDoorPsX
import Derived.OrdersHeld
import Derived.Deep.RegionLaw
namespace Go.Proofs.YtpcdinelpfbpfaaDoor
open Go.ChangeShapes Go.WideShapes Go.ChangeAt Go.RowKit
set_option linter.unusedVariables false
set_option linter.unusedSimpArgs false

def Lt (wx:World) (b:Nat) (x:Tk):Prop:=wx.heap[b]?=some (.cells #[.int .i64 x.k,.int .i64 x.n,.int .i64 x.v,.string (st x.t)] 56 (0,0))
section
variable {wx wy:World} {b:Nat} {x:Tk}
theorem Lt.lt (k:Lt wx b x):b<wx.heap.size:=heap_lt k
theorem Lt.al (k:Lt wx b x) (o:Obj):Lt (wx.alloc o) b x:=(Below.heap_alloc wx o b k.lt).trans k
theorem Lt.be (k:Lt wx b x) (hb:Below wx.heap.size wx wy):Lt wy b x:=(hb.block b k.lt).trans k
theorem Lt.gr {g:Nat} (k:Lt wx b x) (hg:wx.grownBy wy (some g)) (hn:b≠g):Lt wy b x:=(hg.block b k.lt (fun e=>by injection e with e;exact hn e)).trans k
theorem Lt.s1 (k:Lt wx b x) {p:Addr} {v:Value} (hn:b≠p.block):Lt (wx.setCell p v) b x:=(heap_setCell_other wx p b v hn).trans k
theorem Lt.cells (k:Lt wx b x):wx.cell? ⟨b,0,none⟩=some (.int .i64 x.k)/\wx.cell? ⟨b,1,none⟩=some (.int .i64 x.n)/\wx.cell? ⟨b,2,none⟩=some (.int .i64 x.v)/\wx.cell? ⟨b,3,none⟩=some (.string (st x.t)) :=
 ⟨cell_of_row wx b 0 _ _ _ k,cell_of_row wx b 1 _ _ _ k,cell_of_row wx b 2 _ _ _ k,cell_of_row wx b 3 _ _ _ k⟩
theorem Lt.new (w:World) (x:Tk):Lt (w.alloc (.cells #[.int .i64 x.k,.int .i64 x.n,.int .i64 x.v,.string (st x.t)] 56)) w.heap.size x:=heap_alloc_new w _
end
theorem ep_fin {K:PC} {lv:Lv} {rest:List Tk} {w wx:World} {gR at2:Nat} {r:List Tk} {h0:Hd} {s0:Value} (hm:MS K w wx at2 r) (hr:Lc wx gR h0 s0) (hg:w.heap.size<=gR) (hl:r.length<=rest.length) (h:Hd) (a:Option Addr) (n c:Nat) (ok:Bool)
  (hres:(ok=true /\ ∃ ar,Ps lv rest (.ok (one1 h ar) r)/\ArgsAt wx (fun b=>w.heap.size<=b/\b≠gR) ar (.slice a n c)/\r.length<rest.length)\/(ok=false/\Ps lv rest (.bad r))) (W:World)
  (hW:W=set6 wx gR (.int .i64 h.k) (.int .i64 h.op) (.int .i64 h.v) (.int .i64 h.ln) (.string (st h.nm)) (.slice a n c)) :
  Lc W gR h (.slice a n c)/\EP K lv rest w (.returned (.tuple #[exv h (.slice a n c),.bool ok])) W:=by
 subst hW
 have h2:=hm.s6 hg (.int .i64 h.k) (.int .i64 h.op) (.int .i64 h.v) (.int .i64 h.ln) (.string (st h.nm)) (.slice a n c)
 refine⟨hr.s6 h _,h,a,n,c,ok,at2,r,rfl,h2.pat,hl,h2.gr,Lib.hid ?_⟩
 rcases hres with⟨e1,ar,e2,e3,e4⟩ | e
 ·exact .inl ⟨e1,ar,e2,args_mono (args_s6 e3 (fun b hb=>hb.2)) (fun b hb _=>hb.1),e4⟩
 ·exact .inr e
set_option maxRecDepth 100000 in
set_option maxHeartbeats 16000000 in
theorem primary_of (m:Nat) (hE : ∀ j,j<m->CE 17 .ex j):CE 91 .pr m:=by
 intro K at_ rest w hP hm
 have HM1:=Lib.hid ((MS.init hP).al zex)
 have HR1:=Lib.hid (Lc.zero w)
 have HMm:=Lib.hid hm
 have HE:Hid (∀ (w2:World) (at2:Nat) (r:List Tk),PAt w2 K at2 r->r.length<rest.length->Calls Tryd.prog 17 #[.pointer (some ⟨K.g,0,none⟩)] w2 (EP K .ex r w2)):=Lib.hid (fun w2 at2 r hp hl=>hE r.length (by omega) K at2 r w2 hp (Nat.le_refl _))
 obtain⟨⟨tk,tn,tv,tt⟩,r0,hr0⟩:=hP.en.cons
 have HX0:=Lib.hid hr0
 have HTV:=Lib.hid hP.en
 clear hE hP hm hr0
 go_enter Tryd.func91,Tryd.ntmps91
 go_upto_region 1 with fail
 obtain⟨w1,hw1⟩ : ∃ W,w.alloc zex=W:=⟨_,rfl⟩
 obtain⟨gR,hgR⟩ : ∃ x,w.heap.size=x:=⟨_,rfl⟩
 (try rw [show w.alloc (.cells #[.int .i64 0,.int .i64 0,.int .i64 0,.int .i64 0,.string { data := #[] },.slice none 0 0] 40)=w1 from hw1])
 rw [hw1] at HM1 HR1
 rw [hgR] at HR1
 (try rw [hgR])
 have HGR:=Lib.hid hgR
 have HS1:Hid (w1.heap.size=gR+1):=Lib.hid (by rw [<- hw1,<- hgR];simp)
 clear hw1 hgR
 go_wp2_with fail
 refine(look_at K at_ tk tn tv tt r0 w1 (HX0.out▸HM1.out.pat)).mono ?_
 rintro e w2 ⟨rfl,hb2⟩
 have hs2:=hb2.size
 have HM3:=Lib.hid ((HM1.out.be hb2).al (.cells #[.int .i64 tk,.int .i64 tn,.int .i64 tv,.string (st tt)] 56))
 have HR3:=Lib.hid ((HR1.out.be hb2).al (.cells #[.int .i64 tk,.int .i64 tn,.int .i64 tv,.string (st tt)] 56))
 have HT3:=Lib.hid (Lt.new w2 ⟨tk,tn,tv,tt⟩)
 clear hb2 HM1 HR1
 go_upto_block 0 with fail
 obtain⟨w3,hw3⟩ : ∃ W,w2.alloc (.cells #[.int .i64 tk,.int .i64 tn,.int .i64 tv,.string (st tt)] 56)=W:=⟨_,rfl⟩
 obtain⟨gt,hgt⟩ : ∃ x,w2.heap.size=x:=⟨_,rfl⟩
 (try rw [hw3])
 (try dsimp only at HT3)
 rw [hw3] at HM3 HR3 HT3
 rw [hgt] at HT3
 (try rw [hgt])
 have HGT:Hid (gR<gt):=Lib.hid (by have:=HS1.out;omega)
 have hgg:=HM3.out.gl
 have HGRo:=HGR.out
 have HGTo:=HGT.out
 clear hw3 hgt hs2
 obtain⟨t0,t1,t2,t3⟩:=HT3.out.cells
 obtain⟨y0,y1,y2,y3,y4,y5⟩:=HR3.out.cells
 obtain⟨g0,g1,g2,g3,g4,g5⟩:=HR3.out.froz
 have hlR:=HR3.out.lt
 have hlT:=HT3.out.lt
 (try dsimp only at t0 t1 t2 t3)
 have HKT:Hid (kOf rest=tk/\lnOf rest=tn/\vOf rest=tv/\tOf rest=tt/\rest.tail=r0/\r0.length<rest.length):=Lib.hid (by rw [HX0.out];exact⟨rfl,rfl,rfl,rfl,rfl,by simp⟩)
 by_cases h2:tk=2
 ·subst h2
  obtain⟨-,p1,-,f1,-,hlp⟩:=HM3.out.pat.cells
  have hw1:=HM3.out.w1
  have HM4:=Lib.hid (HM3.out.step (by have:=HKT.out.1;omega))
  have HR4:=Lib.hid (HR3.out.s1 (p:=⟨K.g,1,none⟩) (v:=.int .i64 ((at_:Int)+1)) (by show gR≠K.g;omega))
  have HT4:=Lib.hid (HT3.out.s1 (p:=⟨K.g,1,none⟩) (v:=.int .i64 ((at_:Int)+1)) (by show gt≠K.g;omega))
  go_wp2_with fail
  have hfin:=ep_fin (lv:=.pr) (rest:=rest) HM4.out HR4.out (show w.heap.size<=gR by have:=HGR.out;omega) (by rw [HKT.out.2.2.2.2.1];exact Nat.le_of_lt HKT.out.2.2.2.2.2) ⟨1,0,tv,tn,[]⟩ none 0 0 true (.inl ⟨rfl,.nil,by have h:=Ps.pr_num (ts:=rest) HKT.out.1;rw [HKT.out.2.1,HKT.out.2.2.1] at h;exact h,ArgsAt.nil _ _,by rw [HKT.out.2.2.2.2.1];exact HKT.out.2.2.2.2.2⟩)
  obtain⟨wz,hwz⟩ : ∃ W,set6 (w3.setCell ⟨K.g,1,none⟩ (.int .i64 ((at_:Int)+1))) gR (.int .i64 1) (.int .i64 0) (.int .i64 tv) (.int .i64 tn) (.string { data := #[] }) (.slice none 0 0)=W:=⟨_,rfl⟩
  have hwz2:=hwz
  unfold set6 at hwz2
  (try rw [hwz2])
  obtain⟨hd,hep⟩:=hfin wz hwz.symm
  obtain⟨d0,d1,d2,d3,d4,d5⟩:=hd.cells
  refine bodyPost_ret (v:=.tuple #[exv ⟨1,0,tv,tn,[]⟩ (.slice none 0 0),.bool true]) (by simp [results,Tryd.results91,go_sem,d0,d1,d2,d3,d4,d5]) rfl ?_
  exact hep
 by_cases h1:tk=1
 ·subst h1
  obtain⟨-,p1,-,f1,-,hlp⟩:=HM3.out.pat.cells
  have hw1:=HM3.out.w1
  have HM4:=Lib.hid (HM3.out.step (by have:=HKT.out.1;omega))
  have HR4:=Lib.hid (HR3.out.s1 (p:=⟨K.g,1,none⟩) (v:=.int .i64 ((at_:Int)+1)) (by show gR≠K.g;omega))
  have HT4:=Lib.hid (HT3.out.s1 (p:=⟨K.g,1,none⟩) (v:=.int .i64 ((at_:Int)+1)) (by show gt≠K.g;omega))
  go_upto_region 7 with fail
  obtain⟨w4,hw4⟩ : ∃ W,w3.setCell ⟨K.g,1,none⟩ (.int .i64 ((at_:Int)+1))=W:=⟨_,rfl⟩
  rw [hw4] at HM4 HR4 HT4 ⊢
  clear hw4 p1 f1 hw1 hlp t0 t1 t2 t3 y0 y1 y2 y3 y4 y5 g0 g1 g2 g3 g4 g5 hlR hlT
  go_wp2_with fail
  refine(accept_any K (at_+1) rest.tail [91] _ HM4.out.pat).mono ?_
  rintro e w5 ⟨at5,r5,rfl,hp5,hg5,hc5⟩
  have HM5:=Lib.hid (HM4.out.call hp5 hg5)
  have HR5:=Lib.hid (HR4.out.gr hg5 (by omega))
  have HT5:=Lib.hid (HT4.out.gr hg5 (by omega))
  obtain⟨t0,t1,t2,t3⟩:=HT5.out.cells
  (try dsimp only at t0 t1 t2 t3)
  obtain⟨y0,y1,y2,y3,y4,y5⟩:=HR5.out.cells
  obtain⟨g0,g1,g2,g3,g4,g5⟩:=HR5.out.froz
  have hlR:=HR5.out.lt
  have hlT:=HT5.out.lt
  clear hp5 hg5
  rcases hc5 with⟨hT,rfl,rfl⟩ | ⟨hT,rfl,rfl⟩
  ·have HT:=Lib.hid hT
   rw [hT]
   have HRT:Hid (rest.tail.tail.length<rest.length/\rest.tail.length<rest.length):=Lib.hid (by rw [HX0.out];simp <;> omega)
   clear hT t0 t1 t2 t3 y0 y1 y2 y3 y4 y5 g0 g1 g2 g3 g4 g5 hlR hlT
   go_wp2_with fail
   refine(HE.out _ _ _ HM5.out.pat (by exact HRT.out.1)).mono ?_
   rintro e w7 ⟨h,a,n,c,ok,at7,r7,rfl,hp7,hle7,hg7,hres7⟩
   have hs7:=hg7.size
   have hws:=HM5.out.gr.size
   have hlRs:=HR5.out.lt
   have hlTs:=HT5.out.lt
   have HM8:=Lib.hid ((HM5.out.call hp7 hg7).al (.cells (ecs h (.slice a n c)) 40))
   have HR8:=Lib.hid ((HR5.out.gr hg7 (by omega)).al (.cells (ecs h (.slice a n c)) 40))
   have HT8:=Lib.hid ((HT5.out.gr hg7 (by omega)).al (.cells (ecs h (.slice a n c)) 40))
   have HX8:=Lib.hid (Lc.new w7 h (.slice a n c))
   have HRS8:Hid ((ok=true /\ ∃ ar,Ps .ex rest.tail.tail (.ok (one1 h ar) r7)/\ArgsAt (w7.alloc (.cells (ecs h (.slice a n c)) 40)) (TBk w gR w7.heap.size) ar (.slice a n c)/\r7.length<rest.tail.tail.length)\/(ok=false/\Ps .ex rest.tail.tail (.bad r7))):=Lib.hid (by
    rcases hres7.out with⟨e1,ar2,e2,e3,e4⟩ | hr
    ·exact .inl ⟨e1,ar2,e2,args_mono (args_al _ e3) (fun b hb _=>⟨by have:=hb.1;omega,by have:=hb.1;omega,hb.2⟩),e4⟩
    ·exact .inr hr)
   have HL7:=Lib.hid hle7
   clear hres7 hp7 hg7 hle7
   go_upto_region 10 with fail
   obtain⟨w8,hw8⟩ : ∃ W,w7.alloc (.cells (ecs h (.slice a n c)) 40)=W:=⟨_,rfl⟩
   obtain⟨gx,hgx⟩ : ∃ x,w7.heap.size=x:=⟨_,rfl⟩
   (try rw [show w7.alloc (.cells #[.int .i64 h.k,.int .i64 h.op,.int .i64 h.v,.int .i64 h.ln,.string (st h.nm),.slice a n c] 40)=w8 from hw8])
   rw [hw8] at HM8 HR8 HT8 HX8 HRS8
   rw [hgx] at HX8 HRS8 hs7
   (try rw [hgx])
   clear hw8 hgx
   obtain⟨q0,q1,q2,q3,q4,q5⟩:=HX8.out.cells
   obtain⟨s0,s1,s2,s3⟩:=HT8.out.cells
   (try dsimp only at s0 s1 s2 s3)
   have hlX8:=HX8.out.lt
   have hlT8:=HT8.out.lt
   have hngx:gx≠K.g:=by omega
   have hngt:gt≠K.g:=by omega
   have hngR:gR≠K.g:=by omega
   cases ok
   ·have HB:Hid (Ps .pr rest (.bad r7)):=Lib.hid (by
     rcases HRS8.out with⟨h1,_⟩ | ⟨_,h1⟩
     ·cases h1
     ·exact Ps.pr_el_bad HKT.out.1 HT.out h1)
    clear HRS8
    refine wp_region_held_drew (S:=(fun w'=>w'.cell? ⟨gt,3,none⟩=some (.string (st tt))/\w'.cell? ⟨gt,1,none⟩=some (.int .i64 tn)/\w'.cell? ⟨gx,0,none⟩=some (.int .i64 h.k)/\w'.cell? ⟨gx,1,none⟩=some (.int .i64 h.op)/\w'.cell? ⟨gx,2,none⟩=some (.int .i64 h.v)/\w'.cell? ⟨gx,3,none⟩=some (.int .i64 h.ln)/\w'.cell? ⟨gx,4,none⟩=some (.string (st h.nm))/\w'.cell? ⟨gx,5,none⟩=some (.slice a n c))) (by kernel_rfl) ⟨s3,s1,q0,q1,q2,q3,q4,q5⟩ (fun hHeld=>?_)
    refine tkH 0 53 ?_
    refine tkH 1 54 ?_
    refine tkH 2 55 ?_
    refine tkH 3 56 ?_
    refine tkH 4 57 ?_
    refine tkH 7 60 ?_
    refine tkH 8 61 ?_
    refine tkU 9 62 ?_
    refine tkU 10 63 ?_
    refine tkH 11 64 ?_
    obtain⟨wd,hwd⟩ : ∃ W,w8.drew=W:=⟨_,rfl⟩
    have HMd:Hid (MS K w wd at7 r7):=Lib.hid (by rw [<- hwd];exact HM8.out.be (Below.refl _ _).drew)
    have HRd:Hid (Lc wd gR zhd (.slice none 0 0)):=Lib.hid (by rw [<- hwd];exact HR8.out)
    rw [hwd] at hHeld ⊢
    have hsd:w8.heap.size=wd.heap.size:=by rw [<- hwd];rfl
    clear hwd
    refine rdH 5 fun K0 hK=>?_
    go_simp
    refine goH hK ⟨cell_ml _ hHeld.1,cell_ml _ hHeld.2.1,cell_ml _ hHeld.2.2.1,cell_ml _ hHeld.2.2.2.1,cell_ml _ hHeld.2.2.2.2.1,cell_ml _ hHeld.2.2.2.2.2.1,cell_ml _ hHeld.2.2.2.2.2.2.1,cell_ml _ hHeld.2.2.2.2.2.2.2⟩ fun hHeld=>?_
    clear hK K0
    obtain⟨wn,hwn⟩ : ∃ W,wd.alloc (.cells #[.int .i64 h.k,.int .i64 h.op,.int .i64 h.v,.int .i64 h.ln,.string (st h.nm),.slice a n c] 40)=W:=⟨_,rfl⟩
    obtain⟨gs,hgs⟩ : ∃ x,wd.heap.size=x:=⟨_,rfl⟩
    have HM9:Hid (MS K w wn at7 r7):=Lib.hid (by rw [<- hwn];exact HMd.out.al _)
    have HR9:Hid (Lc wn gR zhd (.slice none 0 0)):=Lib.hid (by rw [<- hwn];exact HRd.out.al _)
    rw [hwn] at hHeld ⊢
    (try rw [hgs])
    have hgs8:w8.heap.size=gs:=by omega
    clear hwn hgs
    refine tkH 6 59 ?_
    obtain⟨u0,u1,u2,u3,u4,u5⟩:=HR9.out.cells
    obtain⟨k0,k1,k2,k3,k4,k5⟩:=HR9.out.froz
    have hlR9:=HR9.out.lt
    refine rdH 12 fun K0 hK=>?_
    go_simp
    refine goH hK ⟨cell_set6 (by omega) hHeld.1,cell_set6 (by omega) hHeld.2.1,cell_set6 (by omega) hHeld.2.2.1,cell_set6 (by omega) hHeld.2.2.2.1,cell_set6 (by omega) hHeld.2.2.2.2.1,cell_set6 (by omega) hHeld.2.2.2.2.2.1,cell_set6 (by omega) hHeld.2.2.2.2.2.2.1,cell_set6 (by omega) hHeld.2.2.2.2.2.2.2⟩ fun hHeld=>?_
    clear hK K0
    refine tkH 13 3 ?_
    refine wpAnyH_done (by kernel_rfl) ?_ _
    (try simp only [Act.put,List.setIfInBounds_toArray,List.set_cons_zero,List.set_cons_succ])
    clear u0 u1 u2 u3 u4 u5 k0 k1 k2 k3 k4 k5 hHeld
    have hfin:=ep_fin (lv:=.pr) (rest:=rest) HM9.out HR9.out (show w.heap.size<=gR by omega) (by have h1:=HL7.out;have h2:=HRT.out.1;omega) ⟨4,0,0,tn,tt⟩ (some ⟨gs,0,none⟩) 1 1 false (.inr ⟨rfl,HB.out⟩)
    obtain⟨wz,hwz⟩ : ∃ W,set6 wn gR (.int .i64 4) (.int .i64 0) (.int .i64 0) (.int .i64 tn) (.string (st tt)) (.slice (some ⟨gs,0,none⟩) 1 1)=W:=⟨_,rfl⟩
    have hwz2:=hwz
    unfold set6 at hwz2
    (try rw [hwz2])
    obtain⟨hd,hep⟩:=hfin wz hwz.symm
    obtain⟨d0,d1,d2,d3,d4,d5⟩:=hd.cells
    clear hfin
    go_wp2_with fail
    refine bodyPost_ret (v:=.tuple #[exv ⟨4,0,0,tn,tt⟩ (.slice (some ⟨gs,0,none⟩) 1 1),.bool false]) (by simp [results,Tryd.results91,go_sem,d0,d1,d2,d3,d4,d5]) rfl ?_
    exact hep
   ·obtain⟨ar,hps,har,hlt⟩ : ∃ ar,Ps .ex rest.tail.tail (.ok (one1 h ar) r7)/\ArgsAt w8 (TBk w gR gx) ar (.slice a n c)/\r7.length<rest.tail.tail.length:=by
     rcases HRS8.out with⟨_,h1⟩ | ⟨h1,_⟩
     ·exact h1
     ·cases h1
    have HPS:=Lib.hid hps
    have HAR:=Lib.hid har
    have HLT:=Lib.hid hlt
    clear hps har hlt HRS8
    refine wp_region_held_drew (S:=(fun w'=>w'.cell? ⟨gt,3,none⟩=some (.string (st tt))/\w'.cell? ⟨gt,1,none⟩=some (.int .i64 tn)/\w'.cell? ⟨gx,0,none⟩=some (.int .i64 h.k)/\w'.cell? ⟨gx,1,none⟩=some (.int .i64 h.op)/\w'.cell? ⟨gx,2,none⟩=some (.int .i64 h.v)/\w'.cell? ⟨gx,3,none⟩=some (.int .i64 h.ln)/\w'.cell? ⟨gx,4,none⟩=some (.string (st h.nm))/\w'.cell? ⟨gx,5,none⟩=some (.slice a n c))) (by kernel_rfl) ⟨s3,s1,q0,q1,q2,q3,q4,q5⟩ (fun hHeld=>?_)
    refine tkH 0 53 ?_
    refine tkH 1 54 ?_
    refine tkH 2 55 ?_
    refine tkH 3 56 ?_
    refine tkH 4 57 ?_
    refine tkH 7 60 ?_
    refine tkH 8 61 ?_
    refine tkH 9 62 ?_
    obtain⟨wd,hwd⟩ : ∃ W,w8.drew=W:=⟨_,rfl⟩
    have HMd:Hid (MS K w wd at7 r7):=Lib.hid (by rw [<- hwd];exact HM8.out.be (Below.refl _ _).drew)
    have HRd:Hid (Lc wd gR zhd (.slice none 0 0)):=Lib.hid (by rw [<- hwd];exact HR8.out)
    have HARd:Hid (ArgsAt wd (TBk w gR gx) ar (.slice a n c)):=Lib.hid (by rw [<- hwd];exact HAR.out.keep (fun b hb hlt=>⟨rfl,hb⟩) (Nat.le_refl _))
    rw [hwd] at hHeld ⊢
    have hsd:w8.heap.size=wd.heap.size:=by rw [<- hwd];rfl
    clear hwd
    refine wpAnyH_ready (rs:=[5,10]) (by kernel_rfl) (by simp) ?_
    refine AllReadyH.cons rfl (fun K0 hK=>?_) (AllReadyH.cons rfl (fun K0 hK=>?_) AllReadyH.nil)
    ·go_simp
     refine goH hK ⟨cell_ml _ hHeld.1,cell_ml _ hHeld.2.1,cell_ml _ hHeld.2.2.1,cell_ml _ hHeld.2.2.2.1,cell_ml _ hHeld.2.2.2.2.1,cell_ml _ hHeld.2.2.2.2.2.1,cell_ml _ hHeld.2.2.2.2.2.2.1,cell_ml _ hHeld.2.2.2.2.2.2.2⟩ fun hHeld=>?_
     clear hK K0
     obtain⟨wa,hwn⟩ : ∃ W,wd.alloc (.cells #[.int .i64 h.k,.int .i64 h.op,.int .i64 h.v,.int .i64 h.ln,.string (st h.nm),.slice a n c] 40)=W:=⟨_,rfl⟩
     obtain⟨gs,hgs⟩ : ∃ x,wd.heap.size=x:=⟨_,rfl⟩
     have hAA:=one_made (Q:=fun b=>w.heap.size<=b/\b≠gR) (h1:=h) HARd.out (fun b hb _=>⟨hb.1,hb.2.1⟩) ⟨by have:=HMd.out.gr.size;omega,by have:=HRd.out.lt;omega⟩
     rw [hwn,hgs] at hAA
     have HAA:=Lib.hid hAA
     have HMa:Hid (MS K w wa _ _):=Lib.hid (by rw [<- hwn];exact HMd.out.al _)
     have HRa:Hid (Lc wa gR zhd (.slice none 0 0)):=Lib.hid (by rw [<- hwn];exact HRd.out.al _)
     rw [hwn] at hHeld ⊢
     (try rw [hgs])
     have hszn:wd.heap.size<=wa.heap.size:=by rw [<- hwn];simp
     clear hwn hgs hAA
     refine tkH 6 59 ?_
     refine rdH 10 fun K0 hK=>?_
     go_simp
     refine(accept_any K at7 r7 [93] _ HMa.out.pat).mono ?_
     rintro e wn ⟨at9,r9,rfl,hp9,hg9,hc9⟩
     have hgx9 : ∀ p:Addr,p.block<wa.heap.size->p.block≠K.g->wn.cell? p=wa.cell? p:=fun p hp hn=>hg9.cell_far p hp (by simp;omega)
     refine goH hK ⟨(hgx9 ⟨gt,3,none⟩ (by show gt<_;omega) (by show gt≠K.g;omega)).trans hHeld.1,(hgx9 ⟨gt,1,none⟩ (by show gt<_;omega) (by show gt≠K.g;omega)).trans hHeld.2.1,(hgx9 ⟨gx,0,none⟩ (by show gx<_;omega) (by show gx≠K.g;omega)).trans hHeld.2.2.1,(hgx9 ⟨gx,1,none⟩ (by show gx<_;omega) (by show gx≠K.g;omega)).trans hHeld.2.2.2.1,(hgx9 ⟨gx,2,none⟩ (by show gx<_;omega) (by show gx≠K.g;omega)).trans hHeld.2.2.2.2.1,(hgx9 ⟨gx,3,none⟩ (by show gx<_;omega) (by show gx≠K.g;omega)).trans hHeld.2.2.2.2.2.1,(hgx9 ⟨gx,4,none⟩ (by show gx<_;omega) (by show gx≠K.g;omega)).trans hHeld.2.2.2.2.2.2.1,(hgx9 ⟨gx,5,none⟩ (by show gx<_;omega) (by show gx≠K.g;omega)).trans hHeld.2.2.2.2.2.2.2⟩ fun hHeld=>?_
     clear hK K0
     have HM9:=Lib.hid (HMa.out.call hp9 hg9)
     have HR9:=Lib.hid (HRa.out.gr hg9 hngR)
     have HAF:=Lib.hid (args_gr HAA.out hg9 (fun b hb=>by have:=hb.1;omega))
     clear hp9 hgx9
     refine tkH 11 64 ?_
     obtain⟨u0,u1,u2,u3,u4,u5⟩:=HR9.out.cells
     obtain⟨k0,k1,k2,k3,k4,k5⟩:=HR9.out.froz
     have hlR9:=HR9.out.lt
     refine rdH 12 fun K0 hK=>?_
     go_simp
     refine goH hK ⟨cell_set6 (by omega) hHeld.1,cell_set6 (by omega) hHeld.2.1,cell_set6 (by omega) hHeld.2.2.1,cell_set6 (by omega) hHeld.2.2.2.1,cell_set6 (by omega) hHeld.2.2.2.2.1,cell_set6 (by omega) hHeld.2.2.2.2.2.1,cell_set6 (by omega) hHeld.2.2.2.2.2.2.1,cell_set6 (by omega) hHeld.2.2.2.2.2.2.2⟩ fun hHeld=>?_
     clear hK K0
     refine tkH 13 3 ?_
     refine wpAnyH_done (by kernel_rfl) ?_ _
     (try simp only [Act.put,List.setIfInBounds_toArray,List.set_cons_zero,List.set_cons_succ])
     clear u0 u1 u2 u3 u4 u5 k0 k1 k2 k3 k4 k5 hHeld
     rcases hc9 with⟨h93,rfl,rfl⟩ | ⟨h93,rfl,rfl⟩
     ·(try rw [h93])
      have hfin:=ep_fin (lv:=.pr) (rest:=rest) HM9.out HR9.out (show w.heap.size<=gR by omega) (by have h1:=HLT.out;have h2:=HRT.out.1;simp only [List.length_tail] at h1 ⊢;omega) ⟨4,0,0,tn,tt⟩ (some ⟨gs,0,none⟩) 1 1 true (.inl ⟨rfl,one1 h ar,(by have hh:=Ps.pr_el HKT.out.1 HT.out HPS.out h93;rw [HKT.out.2.1,HKT.out.2.2.2.1] at hh;exact hh),HAF.out,by have h1:=HLT.out;have h2:=HRT.out.1;simp only [List.length_tail] at h1 ⊢;omega⟩)
      obtain⟨wz,hwz⟩ : ∃ W,set6 wn gR (.int .i64 4) (.int .i64 0) (.int .i64 0) (.int .i64 tn) (.string (st tt)) (.slice (some ⟨gs,0,none⟩) 1 1)=W:=⟨_,rfl⟩
      have hwz2:=hwz
      unfold set6 at hwz2
      (try rw [hwz2])
      obtain⟨hd,hep⟩:=hfin wz hwz.symm
      obtain⟨d0,d1,d2,d3,d4,d5⟩:=hd.cells
      clear hfin
      go_wp2_with fail
      refine bodyPost_ret (v:=.tuple #[exv ⟨4,0,0,tn,tt⟩ (.slice (some ⟨gs,0,none⟩) 1 1),.bool true]) (by simp [results,Tryd.results91,go_sem,d0,d1,d2,d3,d4,d5]) rfl ?_
      exact hep
     ·(try rw [h93])
      have hfin:=ep_fin (lv:=.pr) (rest:=rest) HM9.out HR9.out (show w.heap.size<=gR by omega) (by have h1:=HL7.out;have h2:=HRT.out.1;omega) ⟨4,0,0,tn,tt⟩ (some ⟨gs,0,none⟩) 1 1 false (.inr ⟨rfl,Ps.pr_el_bad2 HKT.out.1 HT.out HPS.out h93⟩)
      obtain⟨wz,hwz⟩ : ∃ W,set6 wn gR (.int .i64 4) (.int .i64 0) (.int .i64 0) (.int .i64 tn) (.string (st tt)) (.slice (some ⟨gs,0,none⟩) 1 1)=W:=⟨_,rfl⟩
      have hwz2:=hwz
      unfold set6 at hwz2
      (try rw [hwz2])
      obtain⟨hd,hep⟩:=hfin wz hwz.symm
      obtain⟨d0,d1,d2,d3,d4,d5⟩:=hd.cells
      clear hfin
      go_wp2_with fail
      refine bodyPost_ret (v:=.tuple #[exv ⟨4,0,0,tn,tt⟩ (.slice (some ⟨gs,0,none⟩) 1 1),.bool false]) (by simp [results,Tryd.results91,go_sem,d0,d1,d2,d3,d4,d5]) rfl ?_
      exact hep
    ·go_simp
     refine(accept_any K at7 r7 [93] _ HMd.out.pat).mono ?_
     rintro e wc ⟨at9,r9,rfl,hp9,hg9,hc9⟩
     have hgx9 : ∀ p:Addr,p.block<wd.heap.size->p.block≠K.g->wc.cell? p=wd.cell? p:=fun p hp hn=>hg9.cell_far p hp (by simp;omega)
     refine goH hK ⟨(hgx9 ⟨gt,3,none⟩ (by show gt<_;omega) (by show gt≠K.g;omega)).trans hHeld.1,(hgx9 ⟨gt,1,none⟩ (by show gt<_;omega) (by show gt≠K.g;omega)).trans hHeld.2.1,(hgx9 ⟨gx,0,none⟩ (by show gx<_;omega) (by show gx≠K.g;omega)).trans hHeld.2.2.1,(hgx9 ⟨gx,1,none⟩ (by show gx<_;omega) (by show gx≠K.g;omega)).trans hHeld.2.2.2.1,(hgx9 ⟨gx,2,none⟩ (by show gx<_;omega) (by show gx≠K.g;omega)).trans hHeld.2.2.2.2.1,(hgx9 ⟨gx,3,none⟩ (by show gx<_;omega) (by show gx≠K.g;omega)).trans hHeld.2.2.2.2.2.1,(hgx9 ⟨gx,4,none⟩ (by show gx<_;omega) (by show gx≠K.g;omega)).trans hHeld.2.2.2.2.2.2.1,(hgx9 ⟨gx,5,none⟩ (by show gx<_;omega) (by show gx≠K.g;omega)).trans hHeld.2.2.2.2.2.2.2⟩ fun hHeld=>?_
     clear hK K0
     have HMc:=Lib.hid (HMd.out.call hp9 hg9)
     have HRc:=Lib.hid (HRd.out.gr hg9 hngR)
     have HARc:=Lib.hid (args_gr HARd.out hg9 (fun b hb=>by have:=hb.1;omega))
     have hszc:=hg9.size
     clear hp9 hgx9
     refine tkH 11 64 ?_
     refine rdH 5 fun K0 hK=>?_
     go_simp
     refine goH hK ⟨cell_ml _ hHeld.1,cell_ml _ hHeld.2.1,cell_ml _ hHeld.2.2.1,cell_ml _ hHeld.2.2.2.1,cell_ml _ hHeld.2.2.2.2.1,cell_ml _ hHeld.2.2.2.2.2.1,cell_ml _ hHeld.2.2.2.2.2.2.1,cell_ml _ hHeld.2.2.2.2.2.2.2⟩ fun hHeld=>?_
     clear hK K0
     obtain⟨wn,hwn⟩ : ∃ W,wc.alloc (.cells #[.int .i64 h.k,.int .i64 h.op,.int .i64 h.v,.int .i64 h.ln,.string (st h.nm),.slice a n c] 40)=W:=⟨_,rfl⟩
     obtain⟨gs,hgs⟩ : ∃ x,wc.heap.size=x:=⟨_,rfl⟩
     have hAA:=one_made (Q:=fun b=>w.heap.size<=b/\b≠gR) (h1:=h) HARc.out (fun b hb _=>⟨hb.1,hb.2.1⟩) ⟨by have:=HMc.out.gr.size;omega,by have:=HRc.out.lt;omega⟩
     rw [hwn,hgs] at hAA
     have HAA:=Lib.hid hAA
     have HMa:Hid (MS K w wn _ _):=Lib.hid (by rw [<- hwn];exact HMc.out.al _)
     have HRa:Hid (Lc wn gR zhd (.slice none 0 0)):=Lib.hid (by rw [<- hwn];exact HRc.out.al _)
     rw [hwn] at hHeld ⊢
     (try rw [hgs])
     have hszn:wc.heap.size<=wn.heap.size:=by rw [<- hwn];simp
     clear hwn hgs hAA
     have HM9:=HMa
     have HR9:=HRa
     have HAF:=HAA
     refine tkH 6 59 ?_
     obtain⟨u0,u1,u2,u3,u4,u5⟩:=HR9.out.cells
     obtain⟨k0,k1,k2,k3,k4,k5⟩:=HR9.out.froz
     have hlR9:=HR9.out.lt
     refine rdH 12 fun K0 hK=>?_
     go_simp
     refine goH hK ⟨cell_set6 (by omega) hHeld.1,cell_set6 (by omega) hHeld.2.1,cell_set6 (by omega) hHeld.2.2.1,cell_set6 (by omega) hHeld.2.2.2.1,cell_set6 (by omega) hHeld.2.2.2.2.1,cell_set6 (by omega) hHeld.2.2.2.2.2.1,cell_set6 (by omega) hHeld.2.2.2.2.2.2.1,cell_set6 (by omega) hHeld.2.2.2.2.2.2.2⟩ fun hHeld=>?_
     clear hK K0
     refine tkH 13 3 ?_
     refine wpAnyH_done (by kernel_rfl) ?_ _
     (try simp only [Act.put,List.setIfInBounds_toArray,List.set_cons_zero,List.set_cons_succ])
     clear u0 u1 u2 u3 u4 u5 k0 k1 k2 k3 k4 k5 hHeld
     rcases hc9 with⟨h93,rfl,rfl⟩ | ⟨h93,rfl,rfl⟩
     ·(try rw [h93])
      have hfin:=ep_fin (lv:=.pr) (rest:=rest) HM9.out HR9.out (show w.heap.size<=gR by omega) (by have h1:=HLT.out;have h2:=HRT.out.1;simp only [List.length_tail] at h1 ⊢;omega) ⟨4,0,0,tn,tt⟩ (some ⟨gs,0,none⟩) 1 1 true (.inl ⟨rfl,one1 h ar,(by have hh:=Ps.pr_el HKT.out.1 HT.out HPS.out h93;rw [HKT.out.2.1,HKT.out.2.2.2.1] at hh;exact hh),HAF.out,by have h1:=HLT.out;have h2:=HRT.out.1;simp only [List.length_tail] at h1 ⊢;omega⟩)
      obtain⟨wz,hwz⟩ : ∃ W,set6 wn gR (.int .i64 4) (.int .i64 0) (.int .i64 0) (.int .i64 tn) (.string (st tt)) (.slice (some ⟨gs,0,none⟩) 1 1)=W:=⟨_,rfl⟩
      have hwz2:=hwz
      unfold set6 at hwz2
      (try rw [hwz2])
      obtain⟨hd,hep⟩:=hfin wz hwz.symm
      obtain⟨d0,d1,d2,d3,d4,d5⟩:=hd.cells
      clear hfin
      go_wp2_with fail
      refine bodyPost_ret (v:=.tuple #[exv ⟨4,0,0,tn,tt⟩ (.slice (some ⟨gs,0,none⟩) 1 1),.bool true]) (by simp [results,Tryd.results91,go_sem,d0,d1,d2,d3,d4,d5]) rfl ?_
      exact hep
     ·(try rw [h93])
      have hfin:=ep_fin (lv:=.pr) (rest:=rest) HM9.out HR9.out (show w.heap.size<=gR by omega) (by have h1:=HL7.out;have h2:=HRT.out.1;omega) ⟨4,0,0,tn,tt⟩ (some ⟨gs,0,none⟩) 1 1 false (.inr ⟨rfl,Ps.pr_el_bad2 HKT.out.1 HT.out HPS.out h93⟩)
      obtain⟨wz,hwz⟩ : ∃ W,set6 wn gR (.int .i64 4) (.int .i64 0) (.int .i64 0) (.int .i64 tn) (.string (st tt)) (.slice (some ⟨gs,0,none⟩) 1 1)=W:=⟨_,rfl⟩
      have hwz2:=hwz
      unfold set6 at hwz2
      (try rw [hwz2])
      obtain⟨hd,hep⟩:=hfin wz hwz.symm
      obtain⟨d0,d1,d2,d3,d4,d5⟩:=hd.cells
      clear hfin
      go_wp2_with fail
      refine bodyPost_ret (v:=.tuple #[exv ⟨4,0,0,tn,tt⟩ (.slice (some ⟨gs,0,none⟩) 1 1),.bool false]) (by simp [results,Tryd.results91,go_sem,d0,d1,d2,d3,d4,d5]) rfl ?_
      exact hep
  ·have HT:=Lib.hid hT
   rw [hT]
   clear hT
   go_wp2_with fail
   have hfin:=ep_fin (lv:=.pr) (rest:=rest) HM5.out HR5.out (show w.heap.size<=gR by have:=HGR.out;omega) (by rw [HKT.out.2.2.2.2.1];exact Nat.le_of_lt HKT.out.2.2.2.2.2) ⟨13,0,0,tn,tt⟩ none 0 0 true (.inl ⟨rfl,.nil,by have h:=Ps.pr_name (ts:=rest) HKT.out.1 HT.out;rw [HKT.out.2.1,HKT.out.2.2.2.1] at h;exact h,ArgsAt.nil _ _,by rw [HKT.out.2.2.2.2.1];exact HKT.out.2.2.2.2.2⟩)
   obtain⟨wz,hwz⟩ : ∃ W,set6 w5 gR (.int .i64 13) (.int .i64 0) (.int .i64 0) (.int .i64 tn) (.string (st tt)) (.slice none 0 0)=W:=⟨_,rfl⟩
   have hwz2:=hwz
   unfold set6 at hwz2
   (try rw [hwz2])
   obtain⟨hd,hep⟩:=hfin wz hwz.symm
   obtain⟨d0,d1,d2,d3,d4,d5⟩:=hd.cells
   refine bodyPost_ret (v:=.tuple #[exv ⟨13,0,0,tn,tt⟩ (.slice none 0 0),.bool true]) (by simp [results,Tryd.results91,go_sem,d0,d1,d2,d3,d4,d5]) rfl ?_
   exact hep
 have d2:(tk==2)=false:=by rw [beq_eq_false_iff_ne];exact h2
 have d1:(tk==1)=false:=by rw [beq_eq_false_iff_ne];exact h1
 have HN12:Hid (tk≠1/\tk≠2):=Lib.hid ⟨h1,h2⟩
 clear h1 h2
 go_wp2_with fail
 refine(accept_any K at_ rest [38] _ HM3.out.pat).mono ?_
 rintro e w4 ⟨at4,r4,rfl,hp4,hg4,hc4⟩
 have HM4:=Lib.hid (HM3.out.call hp4 hg4)
 have HR4:=Lib.hid (HR3.out.gr hg4 (by omega))
 have HT4:=Lib.hid (HT3.out.gr hg4 (by omega))
 clear hp4 hg4
 rcases hc4 with⟨hT,rfl,rfl⟩ | ⟨hT,rfl,rfl⟩
 ·have HT:=Lib.hid hT
  rw [hT]
  clear hT t0 t1 t2 t3 y0 y1 y2 y3 y4 y5 g0 g1 g2 g3 g4 g5 hlR hlT
  go_wp2_with fail
  refine(name_any K (at_+1) rest.tail _ HM4.out.pat).mono ?_
  rintro e w5 ⟨at5,r5,hp5,hg5,hc5⟩
  have HM5:=Lib.hid (HM4.out.call hp5 hg5)
  have HR5:=Lib.hid (HR4.out.gr hg5 (by omega))
  have HT5:=Lib.hid (HT4.out.gr hg5 (by omega))
  clear hp5 hg5
  obtain⟨t0,t1,t2,t3⟩:=HT5.out.cells
  (try dsimp only at t0 t1 t2 t3)
  obtain⟨y0,y1,y2,y3,y4,y5⟩:=HR5.out.cells
  obtain⟨g0,g1,g2,g3,g4,g5⟩:=HR5.out.froz
  have hlR:=HR5.out.lt
  have hlT:=HT5.out.lt
  have HRT:Hid (rest.tail.tail.length<rest.length/\rest.tail.length<rest.length):=Lib.hid (by rw [HX0.out];simp <;> omega)
  rcases hc5 with⟨hk,rfl,rfl,rfl⟩ | ⟨hk,rfl,rfl,rfl⟩
  ·obtain⟨nm,hnm⟩ : ∃ x,tOf rest.tail=x:=⟨_,rfl⟩
   have HNM:=Lib.hid hnm
   have HK:=Lib.hid hk
   rw [hnm]
   clear hnm hk
   go_wp2_with fail
   have hfin:=ep_fin (lv:=.pr) (rest:=rest) HM5.out HR5.out (show w.heap.size<=gR by have:=HGR.out;omega) (Nat.le_of_lt HRT.out.1) ⟨11,0,0,tn,nm⟩ none 0 0 true (.inl ⟨rfl,.nil,by have h:=Ps.pr_func HT.out HK.out;rw [HKT.out.2.1,HNM.out] at h;exact h,ArgsAt.nil _ _,HRT.out.1⟩)
   obtain⟨wz,hwz⟩ : ∃ W,set6 w5 gR (.int .i64 11) (.int .i64 0) (.int .i64 0) (.int .i64 tn) (.string (st nm)) (.slice none 0 0)=W:=⟨_,rfl⟩
   have hwz2:=hwz
   unfold set6 at hwz2
   (try rw [hwz2])
   obtain⟨hd,hep⟩:=hfin wz hwz.symm
   obtain⟨d0,d1,d2,d3,d4,d5⟩:=hd.cells
   refine bodyPost_ret (v:=.tuple #[exv ⟨11,0,0,tn,nm⟩ (.slice none 0 0),.bool true]) (by simp [results,Tryd.results91,go_sem,d0,d1,d2,d3,d4,d5]) rfl ?_
   exact hep
  ·have HK:=Lib.hid hk
   clear hk
   go_wp2_with fail
   have hfin:=ep_fin (lv:=.pr) (rest:=rest) HM5.out HR5.out (show w.heap.size<=gR by have:=HGR.out;omega) (Nat.le_of_lt HRT.out.2) ⟨11,0,0,tn,[]⟩ none 0 0 false (.inr ⟨rfl,Ps.pr_func_bad HT.out HK.out⟩)
   obtain⟨wz,hwz⟩ : ∃ W,set6 w5 gR (.int .i64 11) (.int .i64 0) (.int .i64 0) (.int .i64 tn) (.string { data := #[] }) (.slice none 0 0)=W:=⟨_,rfl⟩
   have hwz2:=hwz
   unfold set6 at hwz2
   (try rw [hwz2])
   obtain⟨hd,hep⟩:=hfin wz hwz.symm
   obtain⟨d0,d1,d2,d3,d4,d5⟩:=hd.cells
   refine bodyPost_ret (v:=.tuple #[exv ⟨11,0,0,tn,[]⟩ (.slice none 0 0),.bool false]) (by simp [results,Tryd.results91,go_sem,d0,d1,d2,d3,d4,d5]) rfl ?_
   exact hep
 ·have HN38:=Lib.hid hT
  rw [hT]
  clear hT t0 t1 t2 t3 y0 y1 y2 y3 y4 y5 g0 g1 g2 g3 g4 g5 hlR hlT
  go_wp2_with fail
  refine(accept_any K at4 r4 [114,101,97,100] _ HM4.out.pat).mono ?_
  rintro e w5 ⟨at5,r5,rfl,hp5,hg5,hc5⟩
  have HM5:=Lib.hid (HM4.out.call hp5 hg5)
  have HR5:=Lib.hid (HR4.out.gr hg5 (by omega))
  have HT5:=Lib.hid (HT4.out.gr hg5 (by omega))
  clear hp5 hg5
  rcases hc5 with⟨hT,rfl,rfl⟩ | ⟨hT,rfl,rfl⟩
  ·have HT:=Lib.hid hT
   rw [hT]
   clear hT
   obtain⟨t0,t1,t2,t3⟩:=HT5.out.cells
   (try dsimp only at t0 t1 t2 t3)
   obtain⟨y0,y1,y2,y3,y4,y5⟩:=HR5.out.cells
   obtain⟨g0,g1,g2,g3,g4,g5⟩:=HR5.out.froz
   have hlR:=HR5.out.lt
   have hlT:=HT5.out.lt
   have HRT:Hid (r4.tail.length<r4.length):=Lib.hid (by rw [HX0.out];simp <;> omega)
   go_wp2_with fail
   have hfin:=ep_fin (lv:=.pr) (rest:=r4) HM5.out HR5.out (show w.heap.size<=gR by have:=HGR.out;omega) (Nat.le_of_lt HRT.out) ⟨12,0,0,tn,[]⟩ none 0 0 true (.inl ⟨rfl,.nil,by have h:=Ps.pr_read HT.out;rw [HKT.out.2.1] at h;exact h,ArgsAt.nil _ _,HRT.out⟩)
   obtain⟨wz,hwz⟩ : ∃ W,set6 w5 gR (.int .i64 12) (.int .i64 0) (.int .i64 0) (.int .i64 tn) (.string { data := #[] }) (.slice none 0 0)=W:=⟨_,rfl⟩
   have hwz2:=hwz
   unfold set6 at hwz2
   (try rw [hwz2])
   obtain⟨hd,hep⟩:=hfin wz hwz.symm
   obtain⟨d0,d1,d2,d3,d4,d5⟩:=hd.cells
   refine bodyPost_ret (v:=.tuple #[exv ⟨12,0,0,tn,[]⟩ (.slice none 0 0),.bool true]) (by simp [results,Tryd.results91,go_sem,d0,d1,d2,d3,d4,d5]) rfl ?_
   exact hep
  ·have HN114:=Lib.hid hT
   rw [hT]
   clear hT
   go_wp2_with fail
   refine(accept_any K at5 r5 [40] _ HM5.out.pat).mono ?_
   rintro e w6 ⟨at6,r6,rfl,hp6,hg6,hc6⟩
   have HM6:=Lib.hid (HM5.out.call hp6 hg6)
   have HR6:=Lib.hid (HR5.out.gr hg6 (by omega))
   have HT6:=Lib.hid (HT5.out.gr hg6 (by omega))
   clear hp6 hg6
   rcases hc6 with⟨hT,rfl,rfl⟩ | ⟨hT,rfl,rfl⟩
   ·have HT:=Lib.hid hT
    rw [hT]
    have HRT:Hid (r5.tail.length<r5.length):=Lib.hid (by rw [HX0.out];simp <;> omega)
    clear hT
    go_wp2_with fail
    refine(HE.out _ _ _ HM6.out.pat (by have:=HRT.out;omega)).mono ?_
    rintro e w7 ⟨h,a,n,c,ok,at7,r7,rfl,hp7,hle7,hg7,hres7⟩
    have hs7:=hg7.size
    have hws:=HM6.out.gr.size
    have hlRs:=HR6.out.lt
    have hlTs:=HT6.out.lt
    have HM8:=Lib.hid ((HM6.out.call hp7 hg7).al (.cells (ecs h (.slice a n c)) 40))
    have HR8:=Lib.hid ((HR6.out.gr hg7 (by omega)).al (.cells (ecs h (.slice a n c)) 40))
    have HT8:=Lib.hid ((HT6.out.gr hg7 (by omega)).al (.cells (ecs h (.slice a n c)) 40))
    have HX8:=Lib.hid (Lc.new w7 h (.slice a n c))
    have HRS8:Hid ((ok=true /\ ∃ ar,Ps .ex r5.tail (.ok (one1 h ar) r7)/\ArgsAt (w7.alloc (.cells (ecs h (.slice a n c)) 40)) (TBk w gR w7.heap.size) ar (.slice a n c)/\r7.length<r5.tail.length)\/(ok=false/\Ps .ex r5.tail (.bad r7))):=Lib.hid (by
     rcases hres7.out with⟨e1,ar2,e2,e3,e4⟩ | hr
     ·exact .inl ⟨e1,ar2,e2,args_mono (args_al _ e3) (fun b hb _=>⟨by have:=hb.1;omega,by have:=hb.1;omega,hb.2⟩),e4⟩
     ·exact .inr hr)
    have HL7:=Lib.hid hle7
    clear hres7 hp7 hg7 hle7
    go_upto_region 18 with fail
    obtain⟨w8,hw8⟩ : ∃ W,w7.alloc (.cells (ecs h (.slice a n c)) 40)=W:=⟨_,rfl⟩
    obtain⟨gx,hgx⟩ : ∃ x,w7.heap.size=x:=⟨_,rfl⟩
    (try rw [show w7.alloc (.cells #[.int .i64 h.k,.int .i64 h.op,.int .i64 h.v,.int .i64 h.ln,.string (st h.nm),.slice a n c] 40)=w8 from hw8])
    rw [hw8] at HM8 HR8 HT8 HX8 HRS8
    rw [hgx] at HX8 HRS8 hs7
    (try rw [hgx])
    clear hw8 hgx
    obtain⟨q0,q1,q2,q3,q4,q5⟩:=HX8.out.cells
    obtain⟨s0,s1,s2,s3⟩:=HT8.out.cells
    (try dsimp only at s0 s1 s2 s3)
    have hlX8:=HX8.out.lt
    have hlT8:=HT8.out.lt
    have hngx:gx≠K.g:=by omega
    have hngt:gt≠K.g:=by omega
    have hngR:gR≠K.g:=by omega
    cases ok
    ·have HB:Hid (Ps .pr r5 (.bad r7)):=Lib.hid (by
      rcases HRS8.out with⟨h1,_⟩ | ⟨_,h1⟩
      ·cases h1
      ·exact Ps.pr_par_bad HT.out h1)
     clear HRS8
     refine wp_region_held_drew (S:=(fun w'=>w'.cell? ⟨gx,0,none⟩=some (.int .i64 h.k)/\w'.cell? ⟨gx,1,none⟩=some (.int .i64 h.op)/\w'.cell? ⟨gx,2,none⟩=some (.int .i64 h.v)/\w'.cell? ⟨gx,3,none⟩=some (.int .i64 h.ln)/\w'.cell? ⟨gx,4,none⟩=some (.string (st h.nm))/\w'.cell? ⟨gx,5,none⟩=some (.slice a n c))) (by kernel_rfl) ⟨q0,q1,q2,q3,q4,q5⟩ (fun hHeld=>?_)
     refine tkH 0 92 ?_
     refine tkH 1 93 ?_
     refine tkH 2 94 ?_
     refine tkU 3 95 ?_
     refine tkU 4 96 ?_
     refine tkH 5 97 ?_
     obtain⟨wd,hwd⟩ : ∃ W,w8.drew=W:=⟨_,rfl⟩
     have HM9:=Lib.hid (HM8.out.be (Below.refl _ _).drew)
     have HR9:=Lib.hid (HR8.out.be (Below.refl _ _).drew)
     rw [hwd] at hHeld HM9 HR9 ⊢
     have hsd:w8.heap.size=wd.heap.size:=by rw [<- hwd];rfl
     clear hwd
     obtain⟨u0,u1,u2,u3,u4,u5⟩:=HR9.out.cells
     obtain⟨k0,k1,k2,k3,k4,k5⟩:=HR9.out.froz
     have hlR9:=HR9.out.lt
     refine rdH 6 fun K0 hK=>?_
     go_simp
     refine goH hK ⟨cell_set6 (by omega) hHeld.1,cell_set6 (by omega) hHeld.2.1,cell_set6 (by omega) hHeld.2.2.1,cell_set6 (by omega) hHeld.2.2.2.1,cell_set6 (by omega) hHeld.2.2.2.2.1,cell_set6 (by omega) hHeld.2.2.2.2.2⟩ fun hHeld=>?_
     clear hK K0
     refine tkH 7 3 ?_
     refine wpAnyH_done (by kernel_rfl) ?_ _
     (try simp only [Act.put,List.setIfInBounds_toArray,List.set_cons_zero,List.set_cons_succ])
     clear u0 u1 u2 u3 u4 u5 k0 k1 k2 k3 k4 k5 hHeld
     have hfin:=ep_fin (lv:=.pr) (rest:=r5) HM9.out HR9.out (show w.heap.size<=gR by omega) (by have h1:=HL7.out;have h2:=HRT.out;omega) h a n c false (.inr ⟨rfl,HB.out⟩)
     obtain⟨wz,hwz⟩ : ∃ W,set6 wd gR (.int .i64 h.k) (.int .i64 h.op) (.int .i64 h.v) (.int .i64 h.ln) (.string (st h.nm)) (.slice a n c)=W:=⟨_,rfl⟩
     have hwz2:=hwz
     unfold set6 at hwz2
     (try rw [hwz2])
     obtain⟨hd,hep⟩:=hfin wz hwz.symm
     obtain⟨d0,d1,d2,d3,d4,d5⟩:=hd.cells
     clear hfin
     go_wp2_with fail
     refine bodyPost_ret (v:=.tuple #[exv h (.slice a n c),.bool false]) (by simp [results,Tryd.results91,go_sem,d0,d1,d2,d3,d4,d5]) rfl ?_
     exact hep
    ·obtain⟨ar,hps,har,hlt⟩ : ∃ ar,Ps .ex r5.tail (.ok (one1 h ar) r7)/\ArgsAt w8 (TBk w gR gx) ar (.slice a n c)/\r7.length<r5.tail.length:=by
      rcases HRS8.out with⟨_,h1⟩ | ⟨h1,_⟩
      ·exact h1
      ·cases h1
     have HPS:=Lib.hid hps
     have HAR:=Lib.hid har
     have HLT:=Lib.hid hlt
     clear hps har hlt HRS8
     refine wp_region_held_drew (S:=(fun w'=>w'.cell? ⟨gx,0,none⟩=some (.int .i64 h.k)/\w'.cell? ⟨gx,1,none⟩=some (.int .i64 h.op)/\w'.cell? ⟨gx,2,none⟩=some (.int .i64 h.v)/\w'.cell? ⟨gx,3,none⟩=some (.int .i64 h.ln)/\w'.cell? ⟨gx,4,none⟩=some (.string (st h.nm))/\w'.cell? ⟨gx,5,none⟩=some (.slice a n c))) (by kernel_rfl) ⟨q0,q1,q2,q3,q4,q5⟩ (fun hHeld=>?_)
     refine tkH 0 92 ?_
     refine tkH 1 93 ?_
     refine tkH 2 94 ?_
     refine tkH 3 95 ?_
     refine rdH 4 fun K0 hK=>?_
     go_simp
     refine(accept_any K at7 r7 [41] _ (HM8.out.be (Below.refl _ _).drew).pat).mono ?_
     rintro e w9 ⟨at9,r9,rfl,hp9,hg9,hc9⟩
     have hgx9 : ∀ p:Addr,p.block<w8.heap.size->p.block≠K.g->w9.cell? p=w8.drew.cell? p:=fun p hp hn=>hg9.cell_far p (by exact hp) (by simp;omega)
     refine goH hK ⟨(hgx9 ⟨gx,0,none⟩ (by show gx<_;omega) (by show gx≠K.g;omega)).trans hHeld.1,(hgx9 ⟨gx,1,none⟩ (by show gx<_;omega) (by show gx≠K.g;omega)).trans hHeld.2.1,(hgx9 ⟨gx,2,none⟩ (by show gx<_;omega) (by show gx≠K.g;omega)).trans hHeld.2.2.1,(hgx9 ⟨gx,3,none⟩ (by show gx<_;omega) (by show gx≠K.g;omega)).trans hHeld.2.2.2.1,(hgx9 ⟨gx,4,none⟩ (by show gx<_;omega) (by show gx≠K.g;omega)).trans hHeld.2.2.2.2.1,(hgx9 ⟨gx,5,none⟩ (by show gx<_;omega) (by show gx≠K.g;omega)).trans hHeld.2.2.2.2.2⟩ fun hHeld=>?_
     clear hK K0
     have HM9:=Lib.hid ((HM8.out.be (Below.refl _ _).drew).call hp9 hg9)
     have HR9:=Lib.hid ((HR8.out.be (Below.refl _ _).drew).gr hg9 hngR)
     have HAR9:=Lib.hid (args_gr (w:=w8.drew) (HAR.out.keep (Q:=TBk w gR gx) (fun b hb hlt=>⟨rfl,hb⟩) (Nat.le_refl _)) hg9 (fun b hb=>by have:=hb.1;omega))
     clear hp9 hgx9
     refine tkH 5 97 ?_
     obtain⟨u0,u1,u2,u3,u4,u5⟩:=HR9.out.cells
     obtain⟨k0,k1,k2,k3,k4,k5⟩:=HR9.out.froz
     have hlR9:=HR9.out.lt
     refine rdH 6 fun K0 hK=>?_
     go_simp
     refine goH hK ⟨cell_set6 (by omega) hHeld.1,cell_set6 (by omega) hHeld.2.1,cell_set6 (by omega) hHeld.2.2.1,cell_set6 (by omega) hHeld.2.2.2.1,cell_set6 (by omega) hHeld.2.2.2.2.1,cell_set6 (by omega) hHeld.2.2.2.2.2⟩ fun hHeld=>?_
     clear hK K0
     refine tkH 7 3 ?_
     refine wpAnyH_done (by kernel_rfl) ?_ _
     (try simp only [Act.put,List.setIfInBounds_toArray,List.set_cons_zero,List.set_cons_succ])
     rcases hc9 with⟨h41,rfl,rfl⟩ | ⟨h41,rfl,rfl⟩
     ·(try rw [h41])
      clear u0 u1 u2 u3 u4 u5 k0 k1 k2 k3 k4 k5 hHeld
      have hfin:=ep_fin (lv:=.pr) (rest:=r5) HM9.out HR9.out (show w.heap.size<=gR by omega) (by have h1:=HLT.out;have h2:=HRT.out;simp only [List.length_tail];omega) h a n c true (.inl ⟨rfl,ar,Ps.pr_par HT.out HPS.out h41,args_mono HAR9.out (fun b hb _=>⟨hb.1,hb.2.1⟩),by have h1:=HLT.out;have h2:=HRT.out;simp only [List.length_tail];omega⟩)
      obtain⟨wz,hwz⟩ : ∃ W,set6 w9 gR (.int .i64 h.k) (.int .i64 h.op) (.int .i64 h.v) (.int .i64 h.ln) (.string (st h.nm)) (.slice a n c)=W:=⟨_,rfl⟩
      have hwz2:=hwz
      unfold set6 at hwz2
      (try rw [hwz2])
      obtain⟨hd,hep⟩:=hfin wz hwz.symm
      obtain⟨d0,d1,d2,d3,d4,d5⟩:=hd.cells
      clear hfin
      go_wp2_with fail
      refine bodyPost_ret (v:=.tuple #[exv h (.slice a n c),.bool true]) (by simp [results,Tryd.results91,go_sem,d0,d1,d2,d3,d4,d5]) rfl ?_
      exact hep
     ·(try rw [h41])
      clear u0 u1 u2 u3 u4 u5 k0 k1 k2 k3 k4 k5 hHeld
      have hfin:=ep_fin (lv:=.pr) (rest:=r5) HM9.out HR9.out (show w.heap.size<=gR by omega) (by have h1:=HL7.out;have h2:=HRT.out;omega) h a n c false (.inr ⟨rfl,Ps.pr_par_bad2 HT.out HPS.out h41⟩)
      obtain⟨wz,hwz⟩ : ∃ W,set6 w9 gR (.int .i64 h.k) (.int .i64 h.op) (.int .i64 h.v) (.int .i64 h.ln) (.string (st h.nm)) (.slice a n c)=W:=⟨_,rfl⟩
      have hwz2:=hwz
      unfold set6 at hwz2
      (try rw [hwz2])
      obtain⟨hd,hep⟩:=hfin wz hwz.symm
      obtain⟨d0,d1,d2,d3,d4,d5⟩:=hd.cells
      clear hfin
      go_wp2_with fail
      refine bodyPost_ret (v:=.tuple #[exv h (.slice a n c),.bool false]) (by simp [results,Tryd.results91,go_sem,d0,d1,d2,d3,d4,d5]) rfl ?_
      exact hep
   ·have HN40:=Lib.hid hT
    rw [hT]
    clear hT
    obtain⟨t0,t1,t2,t3⟩:=HT6.out.cells
    (try dsimp only at t0 t1 t2 t3)
    obtain⟨y0,y1,y2,y3,y4,y5⟩:=HR6.out.cells
    obtain⟨g0,g1,g2,g3,g4,g5⟩:=HR6.out.froz
    have hlR:=HR6.out.lt
    have hlT:=HT6.out.lt
    go_wp2_with fail
    have hfin:=ep_fin (lv:=.pr) (rest:=r6) HM6.out HR6.out (show w.heap.size<=gR by have:=HGR.out;omega) (Nat.le_refl _) ⟨0,0,0,0,[]⟩ none 0 0 false (.inr ⟨rfl,Ps.pr_bad (by have:=HKT.out.1;have:=HN12.out.1;omega) (by have:=HKT.out.1;have:=HN12.out.2;omega) HN38.out HN114.out HN40.out⟩)
    obtain⟨wz,hwz⟩ : ∃ W,set6 w6 gR (.int .i64 0) (.int .i64 0) (.int .i64 0) (.int .i64 0) (.string { data := #[] }) (.slice none 0 0)=W:=⟨_,rfl⟩
    have hwz2:=hwz
    unfold set6 at hwz2
    (try rw [hwz2])
    obtain⟨hd,hep⟩:=hfin wz hwz.symm
    obtain⟨d0,d1,d2,d3,d4,d5⟩:=hd.cells
    refine bodyPost_ret (v:=.tuple #[exv ⟨0,0,0,0,[]⟩ (.slice none 0 0),.bool false]) (by simp [results,Tryd.results91,go_sem,d0,d1,d2,d3,d4,d5]) rfl ?_
    exact hep
end Go.Proofs.YtpcdinelpfbpfaaDoor
