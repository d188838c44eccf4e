/-
  WORDS, PLAIN LAWS and WALKS (PsC Ork PsY), pressed. (Filled in from templates of this repo.)
-/
import Derived.OrdersHeld
import Derived.Deep.RegionLaw
import Derived.Test.YtldgghnjminhiaaGreatDoorG8
namespace Go.Proofs.YtldgghnjminhiaaGreatDoor
open Go Go.ChangeAt Go.ChangeShapes Go.RowKit Go.WideShapes
set_option linter.unusedVariables false
set_option linter.unusedSimpArgs false
set_option maxRecDepth 100000
set_option maxHeartbeats 16000000
section
structure D5 (K:PC) (w:World) (gR gx B at2:Nat) (r:List Tk) (h:Hd) (sl:Value) (ar:Fo) (wx:World):Prop where
 ms:MS K w wx at2 r
 rc:Lc wx gR zhd (.slice none 0 0)
 xc:Lc wx gx h sl
 ar:Xk wx (λ b=>TBk w gR gx b/\b<B) ar sl
 bs:B<=wx.heap.size
section
variable {K:PC} {w wx wy:World} {gR gx B at2:Nat} {r:List Tk} {h:Hd} {sl:Value} {ar:Fo}
theorem D5.be (d:D5 K w gR gx B at2 r h sl ar wx) (hb:Below wx.heap.size wx wy):D5 K w gR gx B at2 r h sl ar wy :=
 ⟨d.ms.be hb,d.rc.be hb,d.xc.be hb,d.ar.keep (λ b hP hlt=>⟨hb.block b hlt,hP⟩) hb.size,Nat.le_trans d.bs hb.size⟩
end
structure CI (K:PC) (w:World) (gR gx gc:Nat) (h:Hd) (sl:Value) (hd:Hd) (v:Value) (nn:Nat) (xs:List Value) (at2:Nat) (r:List Tk) (wx:World):Prop where
 ms:MS K w wx at2 r
 rc:Lc wx gR zhd (.slice none 0 0)
 xc:Lc wx gx h sl
 cc:Lc wx gc hd v
 own:wx.ownsRow w.heap.size 37 6 v nn xs
 ne:gc≠gR/\gc≠gx/\w.heap.size<=gc/\w.heap.size<=gR/\w.heap.size<=gx/\gR≠gx/\v.ownBlock≠some gR/\v.ownBlock≠some gx/\v.ownBlock≠some gc
def CF (w:World) (gR gx gc:Nat) (v:Value) (nn:Nat) (xs:List Value) (F:Fo) (wx:World):Prop:=Zb wx (λ b=>TBk w gR gx b/\b≠gc/\some b≠v.ownBlock) F xs/\F.len=nn
theorem D5.ci {K:PC} {w wx:World} {gR gx B gc gs at2:Nat} {r:List Tk} {h:Hd} {sl:Value} {ar:Fo} (d:D5 K w gR gx B at2 r h sl ar wx) (hs:Lc wx gs h sl) (hc:Lc wx gc zhd (.slice none 0 0)) (ln:Int)
  (hB1:B<=gc) (hB2:B<=gs) (h1:w.heap.size<=gR) (h2:gR<gx) (h3:gx<gs) (h4:gx<gc) (h5:gs≠gc) :
  CI K w gR gx gc h sl ⟨10,0,0,ln,[]⟩ (.slice (some ⟨gs,0,none⟩) 1 1) 1 (hdc h sl) at2 r (set6 wx gc (.int .i64 10) (.int .i64 0) (.int .i64 0) (.int .i64 ln) (.string { data := #[] }) (.slice (some ⟨gs,0,none⟩) 1 1)) /\
  CF w gR gx gc (.slice (some ⟨gs,0,none⟩) 1 1) 1 (hdc h sl) (Xb h ar) (set6 wx gc (.int .i64 10) (.int .i64 0) (.int .i64 0) (.int .i64 ln) (.string { data := #[] }) (.slice (some ⟨gs,0,none⟩) 1 1)):=by
 refine⟨⟨d.ms.s6 (by omega) _ _ _ _ _ _,d.rc.s6o (by omega),d.xc.s6o (by omega),hc.s6 ⟨10,0,0,ln,[]⟩ _,?_,by omega,by omega,by omega,h1,by omega,by omega,?_,?_,?_⟩,?_,rfl⟩
 ·exact⟨by simp[hdc],.inr ⟨gs,1,_,rfl,by omega,hs.s6o (by omega),Nat.le_refl _,by simp[maxLen],by simp,by simp[hdc]⟩⟩
 ·show some gs≠some gR;simp;omega
 ·show some gs≠some gx;simp;omega
 ·show some gs≠some gc;simp;omega
 exact Xk.one (Yz (Xg d.ar (λ b hb _=>⟨hb.1,by have:=hb.2;omega,by show some b≠some gs;simp;have:=hb.2;omega⟩)) (λ b hb=>hb.2.1))
section
variable {K:PC} {w wx wy:World} {gR gx gc at2 at3:Nat} {r r3:List Tk} {h:Hd} {sl:Value} {hd:Hd} {v:Value} {nn:Nat} {xs:List Value} {F:Fo}
theorem CI.call (k:CI K w gR gx gc h sl hd v nn xs at2 r wx) (ln:Int) (nm:Bt) :
  CI K w gR gx gc h sl ⟨9,0,0,ln,nm⟩ (.slice none 0 0) 0 [] at2 r (set6 wx gc (.int .i64 9) (.int .i64 0) (.int .i64 0) (.int .i64 ln) (.string (st nm)) (.slice none 0 0)) :=
 ⟨k.ms.s6 k.ne.2.2.1 _ _ _ _ _ _,k.rc.s6o (by have:=k.ne.1;omega),k.xc.s6o (by have:=k.ne.2.1;omega),k.cc.s6 ⟨9,0,0,ln,nm⟩ _,World.ownsRow_nil _ _ _ _,k.ne.1,k.ne.2.1,k.ne.2.2.1,k.ne.2.2.2.1,k.ne.2.2.2.2.1,k.ne.2.2.2.2.2.1,(λ e=>nomatch e),(λ e=>nomatch e),(λ e=>nomatch e)⟩
theorem CI.gr (k:CI K w gR gx gc h sl hd v nn xs at2 r wx) (hg:wx.grownBy wy (some K.g)) (hp:PAt wy K at3 r3):CI K w gR gx gc h sl hd v nn xs at3 r3 wy :=
 have hl:=k.ms.gl
 ⟨k.ms.call hp hg,k.rc.gr hg (by have:=k.ne.2.2.2.1;omega),k.xc.gr hg (by have:=k.ne.2.2.2.2.1;omega),k.cc.gr hg (by have:=k.ne.2.2.1;omega),Yx k.own hg hl,k.ne⟩
theorem CI.al (k:CI K w gR gx gc h sl hd v nn xs at2 r wx) (o:Obj):CI K w gR gx gc h sl hd v nn xs at2 r (wx.alloc o) :=
 ⟨k.ms.al o,k.rc.al o,k.xc.al o,k.cc.al o,k.own.alloc o,k.ne⟩
theorem CI.s6n {g:Nat} {v0 v1 v2 v3 v4 v5:Value} (k:CI K w gR gx gc h sl hd v nn xs at2 r wx) (h0:w.heap.size<=g) (h1:gR≠g) (h2:gx≠g) (h3:gc≠g) (h4:v.ownBlock≠some g):CI K w gR gx gc h sl hd v nn xs at2 r (set6 wx g v0 v1 v2 v3 v4 v5) :=
 ⟨k.ms.s6 h0 _ _ _ _ _ _,k.rc.s6o h1,k.xc.s6o h2,k.cc.s6o h3,⟨k.own.1,by
  rcases k.own.2 with h|⟨g9,cap,cur,e1,e2,e3,e4⟩
  ·exact .inl h
  exact .inr ⟨g9,cap,cur,e1,e2,(Yq g9 (λ e=>h4 (by rw[e1,<- e];rfl))).trans e3,e4⟩⟩,k.ne⟩
theorem CF.gr (k:CF w gR gx gc v nn xs F wx) {g:Nat} (hg:wx.grownBy wy (some g)) (h0:g<w.heap.size):CF w gR gx gc v nn xs F wy :=
 ⟨k.1.keep (λ b hb hlt=>⟨hg.block b hlt (λ e=>by injection e with e;have:=hb.1.1;omega),hb⟩) hg.size,k.2⟩
theorem CF.call (w:World) (gR gx gc:Nat) (wx:World):CF w gR gx gc (.slice none 0 0) 0 [] .nil wx:=⟨rfl,rfl⟩
theorem CF.kp (k:CF w gR gx gc v nn xs F wx) {P:Nat->Prop} (hk:∀ b,TBk w gR gx b->b≠gc->some b≠v.ownBlock->b<wx.heap.size->wy.heap[b]?=wx.heap[b]?) (hs:wx.heap.size<=wy.heap.size):CF w gR gx gc v nn xs F wy :=
 ⟨k.1.keep (λ b hb hlt=>⟨hk b hb.1 hb.2.1 hb.2.2 hlt,hb⟩) hs,k.2⟩
end
theorem MS.own {K:PC} {w wx wy:World} {at2:Nat} {r:List Tk} {row:Option Nat} (h:MS K w wx at2 r) (hg:wx.grownBy wy row) (hjz:∀ k,row=some k->w.heap.size<=k):MS K w wy at2 r :=
 ⟨h.pat.grown hg (λ k e=>⟨by have:=hjz k e;have:=h.gl;omega,λ x hx=>by have:=hjz k e;have:=h.tl x hx;omega⟩),
  ⟨hg.os.trans h.gr.os,hg.tape.trans h.gr.tape,hg.output.trans h.gr.output,Nat.le_trans h.gr.size hg.size,λ k hk hn=>(hg.block k (by have:=h.gr.size;omega) (λ e=>by have:=hjz k e.symm;omega)).trans (h.gr.block k hk hn)⟩,h.gl,h.tl⟩
theorem Lc.grw {wx wy:World} {b:Nat} {h:Hd} {sl:Value} {row:Option Nat} (k:Lc wx b h sl) (hg:wx.grownBy wy row) (hn:row≠some b):Lc wy b h sl:=(hg.block b k.lt (λ e=>hn e.symm)).trans k
section
variable {K:PC} {w wx wy:World} {gR gx gc at2 at3:Nat} {r r3:List Tk} {h:Hd} {sl:Value} {hd:Hd} {v:Value} {nn:Nat} {xs:List Value} {F:Fo}
theorem CI.push (k:CI K w gR gx gc h sl hd v nn xs at2 r wx) {ob:Obj} {g9 c9:Nat} {w9:World} {xs9:List Value} (hg9:(wx.alloc ob).grownBy w9 v.ownBlock) (h9:v.ownBlock=some g9\/g9=(wx.alloc ob).heap.size)
  (ho:w9.ownsRow w.heap.size 37 6 (.slice (some ⟨g9,0,none⟩) (nn+1) c9) (nn+1) xs9) :
  CI K w gR gx gc h sl hd (.slice (some ⟨g9,0,none⟩) (nn+1) c9) (nn+1) xs9 at2 r (w9.setCell ⟨gc,5,none⟩ (.slice (some ⟨g9,0,none⟩) (nn+1) c9)):=by
 have ka:=k.al ob
 obtain⟨n1,n2,n3,n4,n5,n6,n7,n8,n9⟩:=k.ne
 have l1:=ka.rc.lt
 have l2:=ka.xc.lt
 have l3:=ka.cc.lt
 have q7:g9≠gR:=by rcases h9 with e|e;(intro e2;rw[e,e2] at n7;exact n7 rfl);omega
 have q8:g9≠gx:=by rcases h9 with e|e;(intro e2;rw[e,e2] at n8;exact n8 rfl);omega
 have q9:g9≠gc:=by rcases h9 with e|e;(intro e2;rw[e,e2] at n9;exact n9 rfl);omega
 refine⟨(ka.ms.own hg9 (λ k2 e=>(k.own.lt k2 e).1)).sc (p:=⟨gc,5,none⟩) n3 _,(ka.rc.grw hg9 n7).s1 (p:=⟨gc,5,none⟩) (λ e=>n1 e.symm),(ka.xc.grw hg9 n8).s1 (p:=⟨gc,5,none⟩) (λ e=>n2 e.symm),heap_setCell_same w9 gc 5 _ _ _ (ka.cc.grw hg9 n9),?_,n1,n2,n3,n4,n5,n6,?_,?_,?_⟩
 ·exact ho.kept (Xu w9 gc 5 _) (.inr (by show some g9≠some gc;simp;exact q9))
 ·show some g9≠some gR;simp;exact q7
 ·show some g9≠some gx;simp;exact q8
 show some g9≠some gc;simp;exact q9
theorem CF.push (f:CF w gR gx gc v nn xs F wx) (k:CI K w gR gx gc h sl hd v nn xs at2 r wx) {h2:Hd} {s2:Value} {ar2:Fo} (ha:Xk wx (λ b=>TBk w gR gx b/\b≠gc/\some b≠v.ownBlock) ar2 s2) {ob:Obj} {g9 c9:Nat} {w9:World} {u:Value} (hg9:(wx.alloc ob).grownBy w9 v.ownBlock) (h9:v.ownBlock=some g9\/g9=(wx.alloc ob).heap.size) :
  CF w gR gx gc (.slice (some ⟨g9,0,none⟩) (nn+1) c9) (nn+1) (xs++hdc h2 s2) (F.app (Xb h2 ar2)) (w9.setCell ⟨gc,5,none⟩ u):=by
 have hsA:(wx.alloc ob).heap.size=wx.heap.size+1:=by simp
 have hs9:=hg9.size
 have key:∀ b,(TBk w gR gx b/\b≠gc/\some b≠v.ownBlock)->b<wx.heap.size->(w9.setCell ⟨gc,5,none⟩ u).heap[b]?=wx.heap[b]?/\(TBk w gR gx b/\b≠gc/\some b≠(Value.slice (some ⟨g9,0,none⟩) (nn+1) c9).ownBlock):=λ b hb hlt =>
  ⟨((heap_setCell_other w9 ⟨gc,5,none⟩ b u hb.2.1).trans (hg9.block b (by omega) hb.2.2)).trans (Below.heap_alloc wx ob b hlt),hb.1,hb.2.1,by
   show some b≠some g9
   rcases h9 with e|e
   ·rw[<- e];exact hb.2.2
   simp;omega⟩
 have hsz:wx.heap.size<=(w9.setCell ⟨gc,5,none⟩ u).heap.size:=by simp[World.setCell];omega
 exact⟨Zb.app (f.1.keep key hsz) (Xk.one (ha.keep key hsz)),by rw[Fo.len_app,f.2];rfl⟩
theorem CI.args (k:CI K w gR gx gc h sl hd v nn xs at2 r wx) (f:CF w gR gx gc v nn xs F wx):Xk wx (TBk w gR gx) F v :=
 Xk.of_own (e:=37) (size:=6) (base:=w.heap.size) (by rw[f.2];exact k.own) (f.1.keep (λ b hb _=>⟨rfl,hb.1⟩) (Nat.le_refl _)) (λ b hb=>⟨(k.own.lt b hb).1,λ e=>k.ne.2.2.2.2.2.2.1 (by rw[hb,e]),λ e=>k.ne.2.2.2.2.2.2.2.1 (by rw[hb,e])⟩)
theorem CI.shape (k:CI K w gR gx gc h sl hd v nn xs at2 r wx):∃ a c,v=.slice a nn c:=by
 rcases k.own.2 with⟨e,e2⟩|⟨g9,cap,cur,e,_⟩
 ·exact⟨none,0,by rw[e,e2]⟩
 exact⟨_,_,e⟩
end
theorem Fo.app_nil2 (F:Fo):F.app .nil=F:=by
 induction F with
 | nil=>rfl
 | cons h ar r _ ih=>show Fo.cons h ar (r.app .nil)=_;rw[ih]
theorem Fo.app_assoc2 (F G H:Fo):(F.app G).app H=F.app (G.app H):=by
 induction F with
 | nil=>rfl
 | cons h ar r _ ih=>show Fo.cons h ar ((r.app G).app H)=Fo.cons h ar (r.app (G.app H));rw[ih]
def Fl:Value->Nat
 | .bool true=>1
 | _=>0
structure AI (K:PC) (w:World) (gR gx gc:Nat) (r0:List Tk) (h:Hd) (sl:Value) (hd:Hd) (G:Fo) (first ok:Bool) (v:Value) (nn:Nat) (xs:List Value) (at2:Nat) (r:List Tk) (wx:World):Prop where
 ci:CI K w gR gx gc h sl hd v nn xs at2 r wx
 le:r.length<=r0.tail.length
 res:(ok=true/\nn<=at2/\∃ Fa,CF w gR gx gc v nn xs (G.app Fa) wx/\∀ z,Ps (.ag first Fa) r z->Ps (.ag true .nil) r0.tail z)\/(ok=false/\Ps (.ag true .nil) r0.tail (.bad r))
theorem By (m:Nat) (hE:∀ j,j<m->CE 56 .ex j) (hPr:CE 208 .pr m):CE 206 .ca m:=by
 intro K at_ rest w hP hm
 have HM1:=Xj ((MS.init hP).al zex)
 have HR1:=Xj (Lc.zero w)
 have HMm:=Xj hm
 have HE:Xq (∀ (w2:World) (at2:Nat) (r:List Tk),PAt w2 K at2 r->r.length<rest.length->Calls Tryz.prog 56 #[.pointer (some ⟨K.g,0,none⟩)] w2 (EP K .ex r w2)):=Xj (λ w2 at2 r hp hl=>hE r.length (by omega) K at2 r w2 hp (Nat.le_refl _))
 have HA:=Xj hPr
 obtain⟨⟨tk,tn,tv,tt⟩,r0,hr0⟩:=hP.en.cons
 have HX0:=Xj hr0
 clear hE hPr hP hm hr0
 have hfd0:∀ W:World,(Instr.field 103 (.agg #[.int .i64 tk,.int .i64 tn,.int .i64 tv,.string (st tt)]) 0).run Tryz.prog W=.ok (.int .i64 tk) W:=λ _=>by kernel_rfl
 go_enter Tryz.func206,Tryz.ntmps206
 go_upto_region 1 with fail
 obtain⟨w1,hw1⟩:∃ W,w.alloc zex=W:=⟨_,rfl⟩
 obtain⟨gR,hgR⟩:∃ x,w.heap.size=x:=⟨_,rfl⟩
 (try rw[show w.alloc (.cells #[.int .i64 0,.int .i64 0,.int .i64 0,.int .i64 0,.string { data := #[] },.slice none 0 0] 37)=w1 from hw1])
 rw[hw1] at HM1 HR1
 rw[hgR] at HR1
 (try rw[hgR])
 have HGR:=Xj hgR
 have HS1:Xq (w1.heap.size=gR+1):=Xj (by rw[<- hw1,<- hgR];simp)
 clear hw1 hgR
 go_wp2_with fail
 refine(Zn K at_ tk tn tv tt r0 w1 (HX0.o▸HM1.o.pat)).mono ?_
 rintro e w0 ⟨rfl,hb2⟩
 have HM0:=Xj (HM1.o.be hb2)
 have HR0:=Xj (HR1.o.be hb2)
 have HS0:Xq (gR<w0.heap.size):=Xj (by have:=HS1.o;have:=hb2.size;omega)
 clear hb2 HM1 HR1
 go_wp2_with fail
 refine(HA.o K at_ rest _ HM0.o.pat HMm.o).mono ?_
 rintro e w2 ⟨h,a,n,c,ok,at2,r,rfl,hp2,hjy,hg2,Ha⟩
 have HM3:=Xj ((HM0.o.call hp2 hg2).al (.cells (ecs h (.slice a n c)) 37))
 have HR3:=Xj ((HR0.o.gr hg2 (by have:=HM0.o.gl;have:=HGR.o;omega)).al (.cells (ecs h (.slice a n c)) 37))
 have HX3:=Xj (Lc.new w2 h (.slice a n c))
 have hs2:=hg2.size
 have hjq:Xq ((ok=true/\∃ ar,(∀ z,Ps (.caL (kOf rest==1&&h.k==13) (Xb h ar)) r z->Ps .ca rest z)/\Xk (w2.alloc (.cells (ecs h (.slice a n c)) 37)) (TBk w gR w2.heap.size) ar (.slice a n c)/\r.length<rest.length)\/(ok=false/\Ps .ca rest (.bad r))):=Xj (by
  rcases Ha.o with⟨h1,ar,h2,h3,h4⟩|⟨h1,h2⟩
  ·exact .inl ⟨h1,ar,λ z hz=>Ps.ca_ok h2 rfl hz,Xg (Yr _ h3) (λ b hb _=>⟨by have:=hb.1;have:=HS0.o;have:=HGR.o;omega,by have:=hb.1;have:=HS0.o;omega,hb.2⟩),h4⟩
  exact .inr ⟨h1,Ps.ca_bad h2⟩)
 clear Ha hp2 hg2
 go_upto_region 3 with fail
 obtain⟨w3,hw3⟩:∃ W,w2.alloc (.cells (ecs h (.slice a n c)) 37)=W:=⟨_,rfl⟩
 obtain⟨gx,hgx⟩:∃ x,w2.heap.size=x:=⟨_,rfl⟩
 (try rw[show w2.alloc (.cells #[.int .i64 h.k,.int .i64 h.op,.int .i64 h.v,.int .i64 h.ln,.string (st h.nm),.slice a n c] 37)=w3 from hw3])
 rw[hw3] at HM3 HR3 HX3 hjq
 rw[hgx] at HX3 hjq
 (try rw[hgx])
 have HGX:Xq (gR<gx):=Xj (by have:=HS0.o;omega)
 have HLE:=Xj hjy
 clear hw3 hgx hs2 hjy HM0 HR0
 obtain⟨b1,hb1⟩:∃ b,(tk==1)=b:=⟨_,rfl⟩
 have HB1:Xq ((kOf rest==1)=b1):=Xj (by rw[HX0.o];exact hb1)
 (try rw[hb1])
 clear hb1
 go_cut [4] from 19 to 24 (λ v4 wx=>v4=.bool (b1&&(h.k==13))/\wx=w3)
 case first =>
  obtain⟨x0,x1,x2,x3,x4,x5⟩:=HX3.o.cells
  cases b1
  ·go_wp2_with fail
   go_meet
   exact⟨rfl,rfl⟩
  go_wp2_with fail
  go_meet
  exact⟨rfl,rfl⟩
 case rest =>
 obtain⟨rfl,rfl⟩:=hcut
 obtain⟨pl,hpl⟩:∃ b,(b1&&(h.k==13))=b:=⟨_,rfl⟩
 rw[HB1.o,hpl] at hjq
 (try rw[hpl])
 clear hpl
 clear HB1
 go_upto_block 0 with fail
 go_wp2_with fail
 go_loopw [4,6] (λ v4 v6 wr=>∃ (h:Hd) (a:Option Addr) (n c:Nat) (pl ok:Bool) (at2:Nat) (r:List Tk),v4=.bool pl/\v6=.bool ok/\Xq (LI K w gR gx .ca (.caL pl) rest h a n c ok at2 r wr)) (λ _ _ wr=>K.ts.length-natAt wr K.g)
 case atStart=>exact⟨h,a,n,c,pl,ok,at2,r,rfl,rfl,Xj ⟨HM3.o,HR3.o,HX3.o,HLE.o,hjq.o⟩⟩
 rename World=>wa
 obtain⟨h,a,n,c,pl,ok,at2,r,rfl,rfl,HL⟩:=hrel
 have hgg:=HL.o.ms.gl
 have hzr:=HGR.o
 have hyj:=HGX.o
 cases ok
 ·have HB:Xq (Ps .ca rest (.bad r)):=Xj (by
   rcases HL.o.res with⟨h1,_⟩|⟨_,h1⟩
   ·cases h1
   exact h1)
  obtain⟨x0,x1,x2,x3,x4,x5⟩:=HL.o.xc.cells
  obtain⟨g0,g1,g2,g3,g4,g5⟩:=HL.o.rc.froz
  obtain⟨y0,y1,y2,y3,y4,y5⟩:=HL.o.rc.cells
  have hlR:=HL.o.rc.lt
  have hlX:=HL.o.xc.lt
  go_wp2_with fail
  obtain⟨wz,hwz⟩:∃ W,set6 wa gR (.int .i64 h.k) (.int .i64 h.op) (.int .i64 h.v) (.int .i64 h.ln) (.string (st h.nm)) (.slice a n c)=W:=⟨_,rfl⟩
  have HMZ:=Xj (HL.o.ms.s6 (b:=gR) (by omega) (.int .i64 h.k) (.int .i64 h.op) (.int .i64 h.v) (.int .i64 h.ln) (.string (st h.nm)) (.slice a n c))
  have HDZ:=Xj (HL.o.rc.s6 h (.slice a n c))
  have hY:=hwz
  unfold set6 at hY
  (try rw[hY])
  skip
  rw[hwz] at HMZ HDZ
  obtain⟨d0,d1,d2,d3,d4,d5⟩:=HDZ.o.cells
  refine bodyPost_ret (v:=.tuple #[exv h (.slice a n c),.bool false]) (by simp[results,Tryz.results206,go_sem,d0,d1,d2,d3,d4,d5]) rfl ?_
  exact⟨h,a,n,c,false,at2,r,rfl,HMZ.o.pat,HL.o.le,HMZ.o.gr,Xj (.inr ⟨rfl,HB.o⟩)⟩
 obtain⟨ar,hjh,har,hlt⟩:∃ ar,(∀ z,Ps (.caL pl (Xb h ar)) r z->Ps .ca rest z)/\Xk wa (TBk w gR gx) ar (.slice a n c)/\r.length<rest.length:=by
  rcases HL.o.res with⟨_,h1⟩|⟨h1,_⟩
  ·exact h1
  cases h1
 have HCO:=Xj hjh
 have HAR:=Xj har
 have HLT:=Xj hlt
 clear hjh har hlt
 have HIS:=Xj (Dd K at2 r [40] wa HL.o.ms.pat)
 go_wp2_with fail
 refine HIS.o.mono ?_
 rintro e w4 ⟨rfl,hb4⟩
 have HD:Xq (D5 K w gR gx wa.heap.size at2 r h (.slice a n c) ar w4):=Xj (D5.be ⟨HL.o.ms,HL.o.rc,HL.o.xc,HAR.o.keep (λ b hb hlt=>⟨rfl,hb,hlt⟩) (Nat.le_refl _),Nat.le_refl _⟩ hb4)
 clear hb4 HIS
 cases hT:isT [40] r
 ·have HZ:Xq (Ps .ca rest (.ok (Xb h ar) r)):=Xj (HCO.o _ (Ps.caL_end hT))
  clear hT
  obtain⟨x0,x1,x2,x3,x4,x5⟩:=HD.o.xc.cells
  obtain⟨g0,g1,g2,g3,g4,g5⟩:=HD.o.rc.froz
  obtain⟨y0,y1,y2,y3,y4,y5⟩:=HD.o.rc.cells
  have hlR:=HD.o.rc.lt
  have HAZ:=Xj (Yz (v0:=.int .i64 h.k) (v1:=.int .i64 h.op) (v2:=.int .i64 h.v) (v3:=.int .i64 h.ln) (v4:=.string (st h.nm)) (v5:=.slice a n c) HD.o.ar (λ b hb=>hb.1.2.1))
  go_wp2_with fail
  obtain⟨wz,hwz⟩:∃ W,set6 w4 gR (.int .i64 h.k) (.int .i64 h.op) (.int .i64 h.v) (.int .i64 h.ln) (.string (st h.nm)) (.slice a n c)=W:=⟨_,rfl⟩
  have HMZ:=Xj (HD.o.ms.s6 (b:=gR) (by omega) (.int .i64 h.k) (.int .i64 h.op) (.int .i64 h.v) (.int .i64 h.ln) (.string (st h.nm)) (.slice a n c))
  have HDZ:=Xj (HD.o.rc.s6 h (.slice a n c))
  have hY:=hwz
  unfold set6 at hY
  (try rw[hY])
  skip
  rw[hwz] at HMZ HDZ HAZ
  obtain⟨d0,d1,d2,d3,d4,d5⟩:=HDZ.o.cells
  refine bodyPost_ret (v:=.tuple #[exv h (.slice a n c),.bool true]) (by simp[results,Tryz.results206,go_sem,d0,d1,d2,d3,d4,d5]) rfl ?_
  exact⟨h,a,n,c,true,at2,r,rfl,HMZ.o.pat,HL.o.le,HMZ.o.gr,Xj (.inl ⟨rfl,ar,HZ.o,Xg HAZ.o (λ b hb _=>hb.1.1),HLT.o⟩)⟩
 have HT:=Xj hT
 have HK0:Xq (kOf r≠0):=Xj (Qx hT).2.2.1
 clear hT
 go_upto_region 5 with fail
 go_cut [7] from 30 to 35 (λ v7 wx=>∃ gc gs,v7=.pointer (some ⟨gc,0,none⟩)/\Xq (CI K w gR gx gc h (.slice a n c) ⟨10,0,0,Yb r,[]⟩ (.slice (some ⟨gs,0,none⟩) 1 1) 1 (hdc h (.slice a n c)) at2 r wx/\CF w gR gx gc (.slice (some ⟨gs,0,none⟩) 1 1) 1 (hdc h (.slice a n c)) (Xb h ar) wx))
 case first =>
  obtain⟨⟨tk,tn,tv,tt⟩,r1,hr1⟩:=HD.o.ms.pat.en.cons
  have HLN:Xq (Yb r=tn):=Xj (by rw[hr1];rfl)
  have HR1:=Xj hr1
  clear hr1
  have hfd:∀ W:World,(Instr.field 103 (.agg #[.int .i64 tk,.int .i64 tn,.int .i64 tv,.string (st tt)]) 1).run Tryz.prog W=.ok (.int .i64 tn) W:=λ _=>by kernel_rfl
  obtain⟨q0,q1,q2,q3,q4,q5⟩:=HD.o.xc.cells
  have hlx0:=HD.o.xc.lt
  refine wp_region_held_drew (S:=(λ w'=>w'.cell? ⟨gx,0,none⟩=some (.int .i64 h.k)/\w'.cell? ⟨gx,1,none⟩=some (.int .i64 h.op)/\w'.cell? ⟨gx,2,none⟩=some (.int .i64 h.v)/\w'.cell? ⟨gx,3,none⟩=some (.int .i64 h.ln)/\w'.cell? ⟨gx,4,none⟩=some (.string (st h.nm))/\w'.cell? ⟨gx,5,none⟩=some (.slice a n c))) (by kernel_rfl) ⟨q0,q1,q2,q3,q4,q5⟩ (λ hJ=>?_)
  obtain⟨wd,hwd⟩:∃ W,w4.drew=W:=⟨_,rfl⟩
  have HDd:Xq (D5 K w gR gx wa.heap.size at2 r h (.slice a n c) ar wd):=Xj (by rw[<- hwd];exact HD.o.be (Below.refl _ _).drew)
  rw[hwd] at hJ ⊢
  clear hwd HD q0 q1 q2 q3 q4 q5 hlx0
  refine Xh (i:=0) (d:=some 30) (v:=?_) rfl (by kernel_rfl) (by kernel_rfl) (by kernel_rfl) (by kernel_rfl) (λ _ _ _ h=>h) (Or.inl ⟨by kernel_rfl,?_⟩) (by assumption) ?_
  rotate_left
  ·(intro w hSw;(try dsimp only at hSw);go_simp;(try simp only[hfd]);try with_reducible rfl)
  refine Xz ?_
  refine Xh (i:=3) (d:=some 33) (v:=?_) rfl (by kernel_rfl) (by kernel_rfl) (by kernel_rfl) (by kernel_rfl) (λ _ _ _ h=>h) (Or.inl ⟨by kernel_rfl,?_⟩) (by assumption) ?_
  rotate_left
  ·(intro w hSw;(try dsimp only at hSw);go_simp;(try simp only[hfd]);try with_reducible rfl)
  refine Xz ?_
  refine wpAnyH_ready (rs:=[1,4,6]) (by kernel_rfl) (by simp) ?_
  refine AllReadyH.cons rfl (λ K0 hK=>?_) (AllReadyH.cons rfl (λ K0 hK=>?_) (AllReadyH.cons rfl (λ K0 hK=>?_) AllReadyH.nil))
  ·go_simp
   refine(Zn K at2 tk tn tv tt r1 wd (HR1.o▸HDd.o.ms.pat)).mono ?_
   rintro e w_1 ⟨rfl,hb⟩
   have hlx:=HDd.o.xc.lt
   refine goH hK ⟨(World.cell?_of_block (a:=⟨gx,0,none⟩) (hb.block gx hlx)).trans hJ.1,(World.cell?_of_block (a:=⟨gx,1,none⟩) (hb.block gx hlx)).trans hJ.2.1,(World.cell?_of_block (a:=⟨gx,2,none⟩) (hb.block gx hlx)).trans hJ.2.2.1,(World.cell?_of_block (a:=⟨gx,3,none⟩) (hb.block gx hlx)).trans hJ.2.2.2.1,(World.cell?_of_block (a:=⟨gx,4,none⟩) (hb.block gx hlx)).trans hJ.2.2.2.2.1,(World.cell?_of_block (a:=⟨gx,5,none⟩) (hb.block gx hlx)).trans hJ.2.2.2.2.2⟩ λ hJ=>?_
   clear hK K0
   have HD1:=Xj (HDd.o.be hb)
   have hym:=hb.size
   clear hb hlx
   refine Xh (i:=2) (d:=some 32) (v:=?_) rfl (by kernel_rfl) (by kernel_rfl) (by kernel_rfl) (by kernel_rfl) (λ _ _ _ h=>h) (Or.inl ⟨by kernel_rfl,?_⟩) (by assumption) ?_
   rotate_left
   ·(intro w hSw;(try dsimp only at hSw);go_simp;(try simp only[hfd]);try with_reducible rfl)
   refine Xz ?_
   refine wpAnyH_ready (rs:=[4,6]) (by kernel_rfl) (by simp) ?_
   refine AllReadyH.cons rfl (λ K0 hK=>?_) (AllReadyH.cons rfl (λ K0 hK=>?_) AllReadyH.nil)
   ·go_simp
    refine goH hK ⟨Xc _ hJ.1,Xc _ hJ.2.1,Xc _ hJ.2.2.1,Xc _ hJ.2.2.2.1,Xc _ hJ.2.2.2.2.1,Xc _ hJ.2.2.2.2.2⟩ λ hJ=>?_
    clear hK K0
    obtain⟨w_2,hwn⟩:∃ W,w_1.alloc (.cells #[.int .i64 h.k,.int .i64 h.op,.int .i64 h.v,.int .i64 h.ln,.string (st h.nm),.slice a n c] 37)=W:=⟨_,rfl⟩
    obtain⟨gs,hgn⟩:∃ x,w_1.heap.size=x:=⟨_,rfl⟩
    have HD2:Xq (D5 K w gR gx wa.heap.size at2 r h (.slice a n c) ar w_2):=Xj (by rw[<- hwn];exact HD1.o.be (Xw _ _))
    have hx2:gx<gs/\wa.heap.size<=gs:=by rw[<- hgn];exact⟨HD1.o.xc.lt,HD1.o.bs⟩
    have HS:Xq (Lc w_2 gs h (.slice a n c)):=Xj (by rw[<- hwn,<- hgn];exact Lc.new w_1 h (.slice a n c))
    rw[hwn] at hJ ⊢
    (try rw[hgn])
    clear hwn hgn
    refine Xh (i:=5) (d:=some 35) (v:=?_) rfl (by kernel_rfl) (by kernel_rfl) (by kernel_rfl) (by kernel_rfl) (λ _ _ _ h=>h) (Or.inl ⟨by kernel_rfl,?_⟩) (by assumption) ?_
    rotate_left
    ·(intro w hSw;(try dsimp only at hSw);go_simp;(try simp only[hfd]);try with_reducible rfl)
    refine Xz ?_
    refine rdH 6 λ K0 hK=>?_
    go_simp
    refine goH hK ⟨Xc _ hJ.1,Xc _ hJ.2.1,Xc _ hJ.2.2.1,Xc _ hJ.2.2.2.1,Xc _ hJ.2.2.2.2.1,Xc _ hJ.2.2.2.2.2⟩ λ hJ=>?_
    clear hK K0
    obtain⟨w_3,hwn⟩:∃ W,w_2.alloc (.cells #[.int .i64 0,.int .i64 0,.int .i64 0,.int .i64 0,.string { data := #[] },.slice none 0 0] 37)=W:=⟨_,rfl⟩
    obtain⟨gc,hgn⟩:∃ x,w_2.heap.size=x:=⟨_,rfl⟩
    have HD3:Xq (D5 K w gR gx wa.heap.size at2 r h (.slice a n c) ar w_3):=Xj (by rw[<- hwn];exact HD2.o.be (Xw _ _))
    have hx3:gx<gc/\wa.heap.size<=gc:=by rw[<- hgn];exact⟨HD2.o.xc.lt,HD2.o.bs⟩
    have HC:Xq (Lc w_3 gc zhd (.slice none 0 0)):=Xj (by rw[<- hwn,<- hgn];exact Lc.zero w_2)
    have hne:gs≠gc:=by have:=HS.o.lt;omega
    have HS_:Xq (Lc w_3 gs h (.slice a n c)):=Xj (by rw[<- hwn];exact HS.o.al _)
    clear HS
    have HS:=HS_
    clear HS_
    rw[hwn] at hJ ⊢
    (try rw[hgn])
    clear hwn hgn
    have HD:=HD3
    obtain⟨g0,g1,g2,g3,g4,g5⟩:=HC.o.froz
    obtain⟨y0,y1,y2,y3,y4,y5⟩:=HC.o.cells
    have hlC:=HC.o.lt
    have HF:=Xj (D5.ci HD.o HS.o HC.o tn (by omega) (by omega) (by omega) (by omega) (by omega) (by omega) (by omega))
    refine rdH 7 λ K0 hK=>?_
    go_simp
    refine goH hK ⟨Xy (by omega) hJ.1,Xy (by omega) hJ.2.1,Xy (by omega) hJ.2.2.1,Xy (by omega) hJ.2.2.2.1,Xy (by omega) hJ.2.2.2.2.1,Xy (by omega) hJ.2.2.2.2.2⟩ λ hJ=>?_
    clear hK K0
    refine wpAnyH_done (by kernel_rfl) ?_ _
    refine Xz ?_
    go_wp2_with fail
    go_meet
    exact⟨gc,gs,rfl,Xj (by rw[HLN.o];exact HF.o)⟩
   go_simp
   refine goH hK ⟨Xc _ hJ.1,Xc _ hJ.2.1,Xc _ hJ.2.2.1,Xc _ hJ.2.2.2.1,Xc _ hJ.2.2.2.2.1,Xc _ hJ.2.2.2.2.2⟩ λ hJ=>?_
   clear hK K0
   obtain⟨w_2,hwn⟩:∃ W,w_1.alloc (.cells #[.int .i64 0,.int .i64 0,.int .i64 0,.int .i64 0,.string { data := #[] },.slice none 0 0] 37)=W:=⟨_,rfl⟩
   obtain⟨gc,hgn⟩:∃ x,w_1.heap.size=x:=⟨_,rfl⟩
   have HD2:Xq (D5 K w gR gx wa.heap.size at2 r h (.slice a n c) ar w_2):=Xj (by rw[<- hwn];exact HD1.o.be (Xw _ _))
   have hx2:gx<gc/\wa.heap.size<=gc:=by rw[<- hgn];exact⟨HD1.o.xc.lt,HD1.o.bs⟩
   have HC:Xq (Lc w_2 gc zhd (.slice none 0 0)):=Xj (by rw[<- hwn,<- hgn];exact Lc.zero w_1)
   rw[hwn] at hJ ⊢
   (try rw[hgn])
   clear hwn hgn
   refine rdH 4 λ K0 hK=>?_
   go_simp
   refine goH hK ⟨Xc _ hJ.1,Xc _ hJ.2.1,Xc _ hJ.2.2.1,Xc _ hJ.2.2.2.1,Xc _ hJ.2.2.2.2.1,Xc _ hJ.2.2.2.2.2⟩ λ hJ=>?_
   clear hK K0
   obtain⟨w_3,hwn⟩:∃ W,w_2.alloc (.cells #[.int .i64 h.k,.int .i64 h.op,.int .i64 h.v,.int .i64 h.ln,.string (st h.nm),.slice a n c] 37)=W:=⟨_,rfl⟩
   obtain⟨gs,hgn⟩:∃ x,w_2.heap.size=x:=⟨_,rfl⟩
   have HD3:Xq (D5 K w gR gx wa.heap.size at2 r h (.slice a n c) ar w_3):=Xj (by rw[<- hwn];exact HD2.o.be (Xw _ _))
   have hx3:gx<gs/\wa.heap.size<=gs:=by rw[<- hgn];exact⟨HD2.o.xc.lt,HD2.o.bs⟩
   have HS:Xq (Lc w_3 gs h (.slice a n c)):=Xj (by rw[<- hwn,<- hgn];exact Lc.new w_2 h (.slice a n c))
   have hne:gs≠gc:=by have:=HC.o.lt;omega
   have HC_:Xq (Lc w_3 gc zhd (.slice none 0 0)):=Xj (by rw[<- hwn];exact HC.o.al _)
   clear HC
   have HC:=HC_
   clear HC_
   rw[hwn] at hJ ⊢
   (try rw[hgn])
   clear hwn hgn
   refine Xh (i:=5) (d:=some 35) (v:=?_) rfl (by kernel_rfl) (by kernel_rfl) (by kernel_rfl) (by kernel_rfl) (λ _ _ _ h=>h) (Or.inl ⟨by kernel_rfl,?_⟩) (by assumption) ?_
   rotate_left
   ·(intro w hSw;(try dsimp only at hSw);go_simp;(try simp only[hfd]);try with_reducible rfl)
   refine Xz ?_
   have HD:=HD3
   obtain⟨g0,g1,g2,g3,g4,g5⟩:=HC.o.froz
   obtain⟨y0,y1,y2,y3,y4,y5⟩:=HC.o.cells
   have hlC:=HC.o.lt
   have HF:=Xj (D5.ci HD.o HS.o HC.o tn (by omega) (by omega) (by omega) (by omega) (by omega) (by omega) (by omega))
   refine rdH 7 λ K0 hK=>?_
   go_simp
   refine goH hK ⟨Xy (by omega) hJ.1,Xy (by omega) hJ.2.1,Xy (by omega) hJ.2.2.1,Xy (by omega) hJ.2.2.2.1,Xy (by omega) hJ.2.2.2.2.1,Xy (by omega) hJ.2.2.2.2.2⟩ λ hJ=>?_
   clear hK K0
   refine wpAnyH_done (by kernel_rfl) ?_ _
   refine Xz ?_
   go_wp2_with fail
   go_meet
   exact⟨gc,gs,rfl,Xj (by rw[HLN.o];exact HF.o)⟩
  ·go_simp
   refine goH hK ⟨Xc _ hJ.1,Xc _ hJ.2.1,Xc _ hJ.2.2.1,Xc _ hJ.2.2.2.1,Xc _ hJ.2.2.2.2.1,Xc _ hJ.2.2.2.2.2⟩ λ hJ=>?_
   clear hK K0
   obtain⟨w_1,hwn⟩:∃ W,wd.alloc (.cells #[.int .i64 h.k,.int .i64 h.op,.int .i64 h.v,.int .i64 h.ln,.string (st h.nm),.slice a n c] 37)=W:=⟨_,rfl⟩
   obtain⟨gs,hgn⟩:∃ x,wd.heap.size=x:=⟨_,rfl⟩
   have HD1:Xq (D5 K w gR gx wa.heap.size at2 r h (.slice a n c) ar w_1):=Xj (by rw[<- hwn];exact HDd.o.be (Xw _ _))
   have hx1:gx<gs/\wa.heap.size<=gs:=by rw[<- hgn];exact⟨HDd.o.xc.lt,HDd.o.bs⟩
   have HS:Xq (Lc w_1 gs h (.slice a n c)):=Xj (by rw[<- hwn,<- hgn];exact Lc.new wd h (.slice a n c))
   rw[hwn] at hJ ⊢
   (try rw[hgn])
   clear hwn hgn
   refine wpAnyH_ready (rs:=[1,6]) (by kernel_rfl) (by simp) ?_
   refine AllReadyH.cons rfl (λ K0 hK=>?_) (AllReadyH.cons rfl (λ K0 hK=>?_) AllReadyH.nil)
   ·go_simp
    refine(Zn K at2 tk tn tv tt r1 w_1 (HR1.o▸HD1.o.ms.pat)).mono ?_
    rintro e w_2 ⟨rfl,hb⟩
    have hlx:=HD1.o.xc.lt
    refine goH hK ⟨(World.cell?_of_block (a:=⟨gx,0,none⟩) (hb.block gx hlx)).trans hJ.1,(World.cell?_of_block (a:=⟨gx,1,none⟩) (hb.block gx hlx)).trans hJ.2.1,(World.cell?_of_block (a:=⟨gx,2,none⟩) (hb.block gx hlx)).trans hJ.2.2.1,(World.cell?_of_block (a:=⟨gx,3,none⟩) (hb.block gx hlx)).trans hJ.2.2.2.1,(World.cell?_of_block (a:=⟨gx,4,none⟩) (hb.block gx hlx)).trans hJ.2.2.2.2.1,(World.cell?_of_block (a:=⟨gx,5,none⟩) (hb.block gx hlx)).trans hJ.2.2.2.2.2⟩ λ hJ=>?_
    clear hK K0
    have HD2:=Xj (HD1.o.be hb)
    have HS_:=Xj (HS.o.be hb)
    clear HS
    have HS:=HS_
    clear HS_
    have hvu:=hb.size
    clear hb hlx
    refine Xh (i:=2) (d:=some 32) (v:=?_) rfl (by kernel_rfl) (by kernel_rfl) (by kernel_rfl) (by kernel_rfl) (λ _ _ _ h=>h) (Or.inl ⟨by kernel_rfl,?_⟩) (by assumption) ?_
    rotate_left
    ·(intro w hSw;(try dsimp only at hSw);go_simp;(try simp only[hfd]);try with_reducible rfl)
    refine Xz ?_
    refine Xh (i:=5) (d:=some 35) (v:=?_) rfl (by kernel_rfl) (by kernel_rfl) (by kernel_rfl) (by kernel_rfl) (λ _ _ _ h=>h) (Or.inl ⟨by kernel_rfl,?_⟩) (by assumption) ?_
    rotate_left
    ·(intro w hSw;(try dsimp only at hSw);go_simp;(try simp only[hfd]);try with_reducible rfl)
    refine Xz ?_
    refine rdH 6 λ K0 hK=>?_
    go_simp
    refine goH hK ⟨Xc _ hJ.1,Xc _ hJ.2.1,Xc _ hJ.2.2.1,Xc _ hJ.2.2.2.1,Xc _ hJ.2.2.2.2.1,Xc _ hJ.2.2.2.2.2⟩ λ hJ=>?_
    clear hK K0
    obtain⟨w_3,hwn⟩:∃ W,w_2.alloc (.cells #[.int .i64 0,.int .i64 0,.int .i64 0,.int .i64 0,.string { data := #[] },.slice none 0 0] 37)=W:=⟨_,rfl⟩
    obtain⟨gc,hgn⟩:∃ x,w_2.heap.size=x:=⟨_,rfl⟩
    have HD3:Xq (D5 K w gR gx wa.heap.size at2 r h (.slice a n c) ar w_3):=Xj (by rw[<- hwn];exact HD2.o.be (Xw _ _))
    have hx3:gx<gc/\wa.heap.size<=gc:=by rw[<- hgn];exact⟨HD2.o.xc.lt,HD2.o.bs⟩
    have HC:Xq (Lc w_3 gc zhd (.slice none 0 0)):=Xj (by rw[<- hwn,<- hgn];exact Lc.zero w_2)
    have hne:gs≠gc:=by have:=HS.o.lt;omega
    have HS_:Xq (Lc w_3 gs h (.slice a n c)):=Xj (by rw[<- hwn];exact HS.o.al _)
    clear HS
    have HS:=HS_
    clear HS_
    rw[hwn] at hJ ⊢
    (try rw[hgn])
    clear hwn hgn
    have HD:=HD3
    obtain⟨g0,g1,g2,g3,g4,g5⟩:=HC.o.froz
    obtain⟨y0,y1,y2,y3,y4,y5⟩:=HC.o.cells
    have hlC:=HC.o.lt
    have HF:=Xj (D5.ci HD.o HS.o HC.o tn (by omega) (by omega) (by omega) (by omega) (by omega) (by omega) (by omega))
    refine rdH 7 λ K0 hK=>?_
    go_simp
    refine goH hK ⟨Xy (by omega) hJ.1,Xy (by omega) hJ.2.1,Xy (by omega) hJ.2.2.1,Xy (by omega) hJ.2.2.2.1,Xy (by omega) hJ.2.2.2.2.1,Xy (by omega) hJ.2.2.2.2.2⟩ λ hJ=>?_
    clear hK K0
    refine wpAnyH_done (by kernel_rfl) ?_ _
    refine Xz ?_
    go_wp2_with fail
    go_meet
    exact⟨gc,gs,rfl,Xj (by rw[HLN.o];exact HF.o)⟩
   go_simp
   refine goH hK ⟨Xc _ hJ.1,Xc _ hJ.2.1,Xc _ hJ.2.2.1,Xc _ hJ.2.2.2.1,Xc _ hJ.2.2.2.2.1,Xc _ hJ.2.2.2.2.2⟩ λ hJ=>?_
   clear hK K0
   obtain⟨w_2,hwn⟩:∃ W,w_1.alloc (.cells #[.int .i64 0,.int .i64 0,.int .i64 0,.int .i64 0,.string { data := #[] },.slice none 0 0] 37)=W:=⟨_,rfl⟩
   obtain⟨gc,hgn⟩:∃ x,w_1.heap.size=x:=⟨_,rfl⟩
   have HD2:Xq (D5 K w gR gx wa.heap.size at2 r h (.slice a n c) ar w_2):=Xj (by rw[<- hwn];exact HD1.o.be (Xw _ _))
   have hx2:gx<gc/\wa.heap.size<=gc:=by rw[<- hgn];exact⟨HD1.o.xc.lt,HD1.o.bs⟩
   have HC:Xq (Lc w_2 gc zhd (.slice none 0 0)):=Xj (by rw[<- hwn,<- hgn];exact Lc.zero w_1)
   have hne:gs≠gc:=by have:=HS.o.lt;omega
   have HS_:Xq (Lc w_2 gs h (.slice a n c)):=Xj (by rw[<- hwn];exact HS.o.al _)
   clear HS
   have HS:=HS_
   clear HS_
   rw[hwn] at hJ ⊢
   (try rw[hgn])
   clear hwn hgn
   refine rdH 1 λ K0 hK=>?_
   go_simp
   refine(Zn K at2 tk tn tv tt r1 w_2 (HR1.o▸HD2.o.ms.pat)).mono ?_
   rintro e w_3 ⟨rfl,hb⟩
   have hlx:=HD2.o.xc.lt
   refine goH hK ⟨(World.cell?_of_block (a:=⟨gx,0,none⟩) (hb.block gx hlx)).trans hJ.1,(World.cell?_of_block (a:=⟨gx,1,none⟩) (hb.block gx hlx)).trans hJ.2.1,(World.cell?_of_block (a:=⟨gx,2,none⟩) (hb.block gx hlx)).trans hJ.2.2.1,(World.cell?_of_block (a:=⟨gx,3,none⟩) (hb.block gx hlx)).trans hJ.2.2.2.1,(World.cell?_of_block (a:=⟨gx,4,none⟩) (hb.block gx hlx)).trans hJ.2.2.2.2.1,(World.cell?_of_block (a:=⟨gx,5,none⟩) (hb.block gx hlx)).trans hJ.2.2.2.2.2⟩ λ hJ=>?_
   clear hK K0
   have HD3:=Xj (HD2.o.be hb)
   have HS_:=Xj (HS.o.be hb)
   clear HS
   have HS:=HS_
   clear HS_
   have HC_:=Xj (HC.o.be hb)
   clear HC
   have HC:=HC_
   clear HC_
   have hsz3:=hb.size
   clear hb hlx
   refine Xh (i:=2) (d:=some 32) (v:=?_) rfl (by kernel_rfl) (by kernel_rfl) (by kernel_rfl) (by kernel_rfl) (λ _ _ _ h=>h) (Or.inl ⟨by kernel_rfl,?_⟩) (by assumption) ?_
   rotate_left
   ·(intro w hSw;(try dsimp only at hSw);go_simp;(try simp only[hfd]);try with_reducible rfl)
   refine Xz ?_
   refine Xh (i:=5) (d:=some 35) (v:=?_) rfl (by kernel_rfl) (by kernel_rfl) (by kernel_rfl) (by kernel_rfl) (λ _ _ _ h=>h) (Or.inl ⟨by kernel_rfl,?_⟩) (by assumption) ?_
   rotate_left
   ·(intro w hSw;(try dsimp only at hSw);go_simp;(try simp only[hfd]);try with_reducible rfl)
   refine Xz ?_
   have HD:=HD3
   obtain⟨g0,g1,g2,g3,g4,g5⟩:=HC.o.froz
   obtain⟨y0,y1,y2,y3,y4,y5⟩:=HC.o.cells
   have hlC:=HC.o.lt
   have HF:=Xj (D5.ci HD.o HS.o HC.o tn (by omega) (by omega) (by omega) (by omega) (by omega) (by omega) (by omega))
   refine rdH 7 λ K0 hK=>?_
   go_simp
   refine goH hK ⟨Xy (by omega) hJ.1,Xy (by omega) hJ.2.1,Xy (by omega) hJ.2.2.1,Xy (by omega) hJ.2.2.2.1,Xy (by omega) hJ.2.2.2.2.1,Xy (by omega) hJ.2.2.2.2.2⟩ λ hJ=>?_
   clear hK K0
   refine wpAnyH_done (by kernel_rfl) ?_ _
   refine Xz ?_
   go_wp2_with fail
   go_meet
   exact⟨gc,gs,rfl,Xj (by rw[HLN.o];exact HF.o)⟩
  go_simp
  refine goH hK ⟨Xc _ hJ.1,Xc _ hJ.2.1,Xc _ hJ.2.2.1,Xc _ hJ.2.2.2.1,Xc _ hJ.2.2.2.2.1,Xc _ hJ.2.2.2.2.2⟩ λ hJ=>?_
  clear hK K0
  obtain⟨w_1,hwn⟩:∃ W,wd.alloc (.cells #[.int .i64 0,.int .i64 0,.int .i64 0,.int .i64 0,.string { data := #[] },.slice none 0 0] 37)=W:=⟨_,rfl⟩
  obtain⟨gc,hgn⟩:∃ x,wd.heap.size=x:=⟨_,rfl⟩
  have HD1:Xq (D5 K w gR gx wa.heap.size at2 r h (.slice a n c) ar w_1):=Xj (by rw[<- hwn];exact HDd.o.be (Xw _ _))
  have hx1:gx<gc/\wa.heap.size<=gc:=by rw[<- hgn];exact⟨HDd.o.xc.lt,HDd.o.bs⟩
  have HC:Xq (Lc w_1 gc zhd (.slice none 0 0)):=Xj (by rw[<- hwn,<- hgn];exact Lc.zero wd)
  rw[hwn] at hJ ⊢
  (try rw[hgn])
  clear hwn hgn
  refine wpAnyH_ready (rs:=[1,4]) (by kernel_rfl) (by simp) ?_
  refine AllReadyH.cons rfl (λ K0 hK=>?_) (AllReadyH.cons rfl (λ K0 hK=>?_) AllReadyH.nil)
  ·go_simp
   refine(Zn K at2 tk tn tv tt r1 w_1 (HR1.o▸HD1.o.ms.pat)).mono ?_
   rintro e w_2 ⟨rfl,hb⟩
   have hlx:=HD1.o.xc.lt
   refine goH hK ⟨(World.cell?_of_block (a:=⟨gx,0,none⟩) (hb.block gx hlx)).trans hJ.1,(World.cell?_of_block (a:=⟨gx,1,none⟩) (hb.block gx hlx)).trans hJ.2.1,(World.cell?_of_block (a:=⟨gx,2,none⟩) (hb.block gx hlx)).trans hJ.2.2.1,(World.cell?_of_block (a:=⟨gx,3,none⟩) (hb.block gx hlx)).trans hJ.2.2.2.1,(World.cell?_of_block (a:=⟨gx,4,none⟩) (hb.block gx hlx)).trans hJ.2.2.2.2.1,(World.cell?_of_block (a:=⟨gx,5,none⟩) (hb.block gx hlx)).trans hJ.2.2.2.2.2⟩ λ hJ=>?_
   clear hK K0
   have HD2:=Xj (HD1.o.be hb)
   have HC_:=Xj (HC.o.be hb)
   clear HC
   have HC:=HC_
   clear HC_
   have hvu:=hb.size
   clear hb hlx
   refine Xh (i:=2) (d:=some 32) (v:=?_) rfl (by kernel_rfl) (by kernel_rfl) (by kernel_rfl) (by kernel_rfl) (λ _ _ _ h=>h) (Or.inl ⟨by kernel_rfl,?_⟩) (by assumption) ?_
   rotate_left
   ·(intro w hSw;(try dsimp only at hSw);go_simp;(try simp only[hfd]);try with_reducible rfl)
   refine Xz ?_
   refine rdH 4 λ K0 hK=>?_
   go_simp
   refine goH hK ⟨Xc _ hJ.1,Xc _ hJ.2.1,Xc _ hJ.2.2.1,Xc _ hJ.2.2.2.1,Xc _ hJ.2.2.2.2.1,Xc _ hJ.2.2.2.2.2⟩ λ hJ=>?_
   clear hK K0
   obtain⟨w_3,hwn⟩:∃ W,w_2.alloc (.cells #[.int .i64 h.k,.int .i64 h.op,.int .i64 h.v,.int .i64 h.ln,.string (st h.nm),.slice a n c] 37)=W:=⟨_,rfl⟩
   obtain⟨gs,hgn⟩:∃ x,w_2.heap.size=x:=⟨_,rfl⟩
   have HD3:Xq (D5 K w gR gx wa.heap.size at2 r h (.slice a n c) ar w_3):=Xj (by rw[<- hwn];exact HD2.o.be (Xw _ _))
   have hx3:gx<gs/\wa.heap.size<=gs:=by rw[<- hgn];exact⟨HD2.o.xc.lt,HD2.o.bs⟩
   have HS:Xq (Lc w_3 gs h (.slice a n c)):=Xj (by rw[<- hwn,<- hgn];exact Lc.new w_2 h (.slice a n c))
   have hne:gs≠gc:=by have:=HC.o.lt;omega
   have HC_:Xq (Lc w_3 gc zhd (.slice none 0 0)):=Xj (by rw[<- hwn];exact HC.o.al _)
   clear HC
   have HC:=HC_
   clear HC_
   rw[hwn] at hJ ⊢
   (try rw[hgn])
   clear hwn hgn
   refine Xh (i:=5) (d:=some 35) (v:=?_) rfl (by kernel_rfl) (by kernel_rfl) (by kernel_rfl) (by kernel_rfl) (λ _ _ _ h=>h) (Or.inl ⟨by kernel_rfl,?_⟩) (by assumption) ?_
   rotate_left
   ·(intro w hSw;(try dsimp only at hSw);go_simp;(try simp only[hfd]);try with_reducible rfl)
   refine Xz ?_
   have HD:=HD3
   obtain⟨g0,g1,g2,g3,g4,g5⟩:=HC.o.froz
   obtain⟨y0,y1,y2,y3,y4,y5⟩:=HC.o.cells
   have hlC:=HC.o.lt
   have HF:=Xj (D5.ci HD.o HS.o HC.o tn (by omega) (by omega) (by omega) (by omega) (by omega) (by omega) (by omega))
   refine rdH 7 λ K0 hK=>?_
   go_simp
   refine goH hK ⟨Xy (by omega) hJ.1,Xy (by omega) hJ.2.1,Xy (by omega) hJ.2.2.1,Xy (by omega) hJ.2.2.2.1,Xy (by omega) hJ.2.2.2.2.1,Xy (by omega) hJ.2.2.2.2.2⟩ λ hJ=>?_
   clear hK K0
   refine wpAnyH_done (by kernel_rfl) ?_ _
   refine Xz ?_
   go_wp2_with fail
   go_meet
   exact⟨gc,gs,rfl,Xj (by rw[HLN.o];exact HF.o)⟩
  go_simp
  refine goH hK ⟨Xc _ hJ.1,Xc _ hJ.2.1,Xc _ hJ.2.2.1,Xc _ hJ.2.2.2.1,Xc _ hJ.2.2.2.2.1,Xc _ hJ.2.2.2.2.2⟩ λ hJ=>?_
  clear hK K0
  obtain⟨w_2,hwn⟩:∃ W,w_1.alloc (.cells #[.int .i64 h.k,.int .i64 h.op,.int .i64 h.v,.int .i64 h.ln,.string (st h.nm),.slice a n c] 37)=W:=⟨_,rfl⟩
  obtain⟨gs,hgn⟩:∃ x,w_1.heap.size=x:=⟨_,rfl⟩
  have HD2:Xq (D5 K w gR gx wa.heap.size at2 r h (.slice a n c) ar w_2):=Xj (by rw[<- hwn];exact HD1.o.be (Xw _ _))
  have hx2:gx<gs/\wa.heap.size<=gs:=by rw[<- hgn];exact⟨HD1.o.xc.lt,HD1.o.bs⟩
  have HS:Xq (Lc w_2 gs h (.slice a n c)):=Xj (by rw[<- hwn,<- hgn];exact Lc.new w_1 h (.slice a n c))
  have hne:gs≠gc:=by have:=HC.o.lt;omega
  have HC_:Xq (Lc w_2 gc zhd (.slice none 0 0)):=Xj (by rw[<- hwn];exact HC.o.al _)
  clear HC
  have HC:=HC_
  clear HC_
  rw[hwn] at hJ ⊢
  (try rw[hgn])
  clear hwn hgn
  refine rdH 1 λ K0 hK=>?_
  go_simp
  refine(Zn K at2 tk tn tv tt r1 w_2 (HR1.o▸HD2.o.ms.pat)).mono ?_
  rintro e w_3 ⟨rfl,hb⟩
  have hlx:=HD2.o.xc.lt
  refine goH hK ⟨(World.cell?_of_block (a:=⟨gx,0,none⟩) (hb.block gx hlx)).trans hJ.1,(World.cell?_of_block (a:=⟨gx,1,none⟩) (hb.block gx hlx)).trans hJ.2.1,(World.cell?_of_block (a:=⟨gx,2,none⟩) (hb.block gx hlx)).trans hJ.2.2.1,(World.cell?_of_block (a:=⟨gx,3,none⟩) (hb.block gx hlx)).trans hJ.2.2.2.1,(World.cell?_of_block (a:=⟨gx,4,none⟩) (hb.block gx hlx)).trans hJ.2.2.2.2.1,(World.cell?_of_block (a:=⟨gx,5,none⟩) (hb.block gx hlx)).trans hJ.2.2.2.2.2⟩ λ hJ=>?_
  clear hK K0
  have HD3:=Xj (HD2.o.be hb)
  have HS_:=Xj (HS.o.be hb)
  clear HS
  have HS:=HS_
  clear HS_
  have HC_:=Xj (HC.o.be hb)
  clear HC
  have HC:=HC_
  clear HC_
  have hsz3:=hb.size
  clear hb hlx
  refine Xh (i:=2) (d:=some 32) (v:=?_) rfl (by kernel_rfl) (by kernel_rfl) (by kernel_rfl) (by kernel_rfl) (λ _ _ _ h=>h) (Or.inl ⟨by kernel_rfl,?_⟩) (by assumption) ?_
  rotate_left
  ·(intro w hSw;(try dsimp only at hSw);go_simp;(try simp only[hfd]);try with_reducible rfl)
  refine Xz ?_
  refine Xh (i:=5) (d:=some 35) (v:=?_) rfl (by kernel_rfl) (by kernel_rfl) (by kernel_rfl) (by kernel_rfl) (λ _ _ _ h=>h) (Or.inl ⟨by kernel_rfl,?_⟩) (by assumption) ?_
  rotate_left
  ·(intro w hSw;(try dsimp only at hSw);go_simp;(try simp only[hfd]);try with_reducible rfl)
  refine Xz ?_
  have HD:=HD3
  obtain⟨g0,g1,g2,g3,g4,g5⟩:=HC.o.froz
  obtain⟨y0,y1,y2,y3,y4,y5⟩:=HC.o.cells
  have hlC:=HC.o.lt
  have HF:=Xj (D5.ci HD.o HS.o HC.o tn (by omega) (by omega) (by omega) (by omega) (by omega) (by omega) (by omega))
  refine rdH 7 λ K0 hK=>?_
  go_simp
  refine goH hK ⟨Xy (by omega) hJ.1,Xy (by omega) hJ.2.1,Xy (by omega) hJ.2.2.1,Xy (by omega) hJ.2.2.2.1,Xy (by omega) hJ.2.2.2.2.1,Xy (by omega) hJ.2.2.2.2.2⟩ λ hJ=>?_
  clear hK K0
  refine wpAnyH_done (by kernel_rfl) ?_ _
  refine Xz ?_
  go_wp2_with fail
  go_meet
  exact⟨gc,gs,rfl,Xj (by rw[HLN.o];exact HF.o)⟩
 case rest =>
 obtain⟨gc,gs,rfl,HC⟩:=hcut
 clear HD
 have HLT2:=HLT.o
 have HRT:Xq (r.tail.length<r.length):=Xj (Uq (by intro e;have:=HK0.o;rw[e] at this;exact this rfl))
 go_upto_if 36 with fail
 go_cut [] from 37 to 41 (λ wx=>∃ (hd:Hd) (v:Value) (nn:Nat) (xs:List Value) (G:Fo),Xq (nn<=1/\CI K w gR gx gc h (.slice a n c) hd v nn xs at2 r wx/\CF w gR gx gc v nn xs G wx/\(∀ y r2 z,Ps (.ag true .nil) r.tail (.ok y r2)->Ps (.caL false (Xb hd (G.app y))) r2 z->Ps .ca rest z)/\(∀ r2,Ps (.ag true .nil) r.tail (.bad r2)->Ps .ca rest (.bad r2))))
 case first =>
  obtain⟨x0,x1,x2,x3,x4,x5⟩:=HC.o.1.xc.cells
  obtain⟨y0,y1,y2,y3,y4,y5⟩:=HC.o.1.cc.cells
  obtain⟨g0,g1,g2,g3,g4,g5⟩:=HC.o.1.cc.froz
  have hlC:=HC.o.1.cc.lt
  have hqg:Xq (∀ r2,Ps (.ag true .nil) r.tail (.bad r2)->Ps .ca rest (.bad r2)):=Xj (λ r2 h1=>HCO.o _ (Ps.caL_bad HT.o h1))
  cases pl
  ·go_wp2_with fail
   go_meet
   exact⟨_,_,_,_,_,Xj ⟨Nat.le_refl _,HC.o.1,HC.o.2,λ y r2 z h1 h2=>HCO.o z (Ps.caL_value HT.o h1 h2),hqg.o⟩⟩
  go_wp2_with fail
  go_meet
  exact⟨_,_,_,_,_,Xj ⟨Nat.zero_le _,HC.o.1.call (Yb r) h.nm,CF.call _ _ _ _ _,λ y r2 z h1 h2=>HCO.o z (Ps.caL_call HT.o h1 h2),hqg.o⟩⟩
 case rest =>
 clear HC
 obtain⟨hd,v,nn,xs,G,HC⟩:=hcut
 have HCN:=Xj (And.intro HC.o.2.2.2.1 HC.o.2.2.2.2)
 obtain⟨-,p1,-,f1,-,hlp⟩:=HC.o.2.1.ms.pat.cells
 have hw1:=HC.o.2.1.ms.w1
 have hgg2:=HC.o.2.1.ms.gl
 have HC2:=Xj (HC.o.2.1.gr (Xu wc K.g 1 (.int .i64 ((at2:Int)+1))) (HC.o.2.1.ms.pat.step HK0.o))
 have HF2:=Xj (HC.o.2.2.1.gr (Xu wc K.g 1 (.int .i64 ((at2:Int)+1))) hgg2)
 have HN1:=Xj HC.o.1
 go_upto_block 2 with fail
 clear p1 f1 hlp hw1
 obtain⟨w5,hw5⟩:∃ W,wc.setCell ⟨K.g,1,none⟩ (.int .i64 ((at2:Int)+1))=W:=⟨_,rfl⟩
 rw[hw5] at HC2 HF2 ⊢
 clear hw5
 go_wp2_with fail
 go_loopw [6,8] (λ v6 v8 wr=>∃ (ok first:Bool) (v:Value) (nn:Nat) (xs:List Value) (at3:Nat) (r3:List Tk),v6=.bool ok/\v8=.bool first/\Xq (AI K w gR gx gc r h (.slice a n c) hd G first ok v nn xs at3 r3 wr)) (λ v6 _ wr=>2*(K.ts.length-natAt wr K.g)+Fl v6)
 case atStart=>exact⟨true,true,v,nn,xs,at2+1,r.tail,rfl,rfl,Xj ⟨HC2.o,Nat.le_refl _,.inl ⟨rfl,by have:=HN1.o;omega,.nil,by rw[Fo.app_nil2];exact HF2.o,λ z h=>h⟩⟩⟩
 rename World=>wb
 obtain⟨ok,first,v,nn,xs,at3,r3,rfl,rfl,HI⟩:=hrel
 cases ok
 ·have HB:Xq (Ps (.ag true .nil) r.tail (.bad r3)):=Xj (by
   rcases HI.o.res with⟨h1,_⟩|⟨_,h1⟩
   ·cases h1
   exact h1)
  obtain⟨sa,sc,hvs⟩:=HI.o.ci.shape
  subst hvs
  obtain⟨y0,y1,y2,y3,y4,y5⟩:=HI.o.ci.cc.cells
  obtain⟨g0,g1,g2,g3,g4,g5⟩:=HI.o.ci.xc.froz
  obtain⟨x0,x1,x2,x3,x4,x5⟩:=HI.o.ci.xc.cells
  have hlX:=HI.o.ci.xc.lt
  have hlC:=HI.o.ci.cc.lt
  have HNE:=Xj HI.o.ci.ne
  have HL2:Xq (LI K w gR gx .ca (.caL false) rest hd sa nn sc false (at3) (r3) (set6 wb gx (.int .i64 hd.k) (.int .i64 hd.op) (.int .i64 hd.v) (.int .i64 hd.ln) (.string (st hd.nm)) (.slice sa nn sc))):=Xj ⟨HI.o.ci.ms.s6 HNE.o.2.2.2.2.1 _ _ _ _ _ _,HI.o.ci.rc.s6o HNE.o.2.2.2.2.2.1,HI.o.ci.xc.s6 hd _,by have h1:=HI.o.le;have h2:=HRT.o;have h3:=HLT.o;omega,.inr ⟨rfl,HCN.o.2 r3 HB.o⟩⟩
  have HM2:Xq (K.ts.length-natAt (set6 wb gx (.int .i64 hd.k) (.int .i64 hd.op) (.int .i64 hd.v) (.int .i64 hd.ln) (.string (st hd.nm)) (.slice sa nn sc)) K.g<K.ts.length-natAt wa K.g):=Xj (by
   rw[HL2.o.ms.pat.natAt,HL.o.ms.pat.natAt]
   have h1:=HL2.o.ms.pat.lt
   have h2:=HL.o.ms.pat.lt
   have h3:=HRT.o
   have h4:=HI.o.le
   (try simp only[List.length_tail] at h1 h3 h4)
   omega)
  go_wp2_with fail
  go_roundw
  case rel=>exact⟨hd,sa,nn,sc,false,false,at3,r3,rfl,rfl,HL2⟩
  exact HM2.o
 obtain⟨hnn,Fa,hcf,hco⟩:nn<=at3/\∃ Fa,CF w gR gx gc v nn xs (G.app Fa) wb/\∀ z,Ps (.ag first Fa) r3 z->Ps (.ag true .nil) r.tail z:=by
  rcases HI.o.res with⟨_,h1⟩|⟨h1,_⟩
  ·exact h1
  cases h1
 have HNN:=Xj hnn
 have HCF:=Xj hcf
 have HAC:=Xj hco
 clear hnn hcf hco
 go_wp2_with fail
 refine(Xn K at3 r3 [41] _ HI.o.ci.ms.pat).mono ?_
 rintro e w5 ⟨at5,r5,rfl,hp5,hg5,hc5⟩
 have HC5:=Xj (HI.o.ci.gr hg5 hp5)
 have HF5:=Xj (HCF.o.gr hg5 HI.o.ci.ms.gl)
 clear hp5 hg5
 rcases hc5 with⟨h41,rfl,rfl⟩|⟨h41,rfl,rfl⟩
 ·have H41:=Xj h41
  (try rw[h41])
  clear h41
  obtain⟨sa,sc,hvs⟩:=HC5.o.shape
  subst hvs
  obtain⟨y0,y1,y2,y3,y4,y5⟩:=HC5.o.cc.cells
  obtain⟨g0,g1,g2,g3,g4,g5⟩:=HC5.o.xc.froz
  obtain⟨x0,x1,x2,x3,x4,x5⟩:=HC5.o.xc.cells
  have hlX:=HC5.o.xc.lt
  have hlC:=HC5.o.cc.lt
  have HNE:=Xj HC5.o.ne
  have HL2:Xq (LI K w gR gx .ca (.caL false) rest hd sa nn sc true (at3+1) (r3.tail) (set6 w5 gx (.int .i64 hd.k) (.int .i64 hd.op) (.int .i64 hd.v) (.int .i64 hd.ln) (.string (st hd.nm)) (.slice sa nn sc))):=Xj ⟨HC5.o.ms.s6 HNE.o.2.2.2.2.1 _ _ _ _ _ _,HC5.o.rc.s6o HNE.o.2.2.2.2.2.1,HC5.o.xc.s6 hd _,by have h1:=HI.o.le;have h2:=HRT.o;have h3:=HLT.o;simp only[List.length_tail] at *;omega,(by
    have HARS:=Yz (v0:=.int .i64 hd.k) (v1:=.int .i64 hd.op) (v2:=.int .i64 hd.v) (v3:=.int .i64 hd.ln) (v4:=.string (st hd.nm)) (v5:=.slice sa nn sc) (HC5.o.args HF5.o) (λ b hb=>hb.2.2)
    exact .inl ⟨rfl,_,λ z hz=>HCN.o.1 Fa _ z (HAC.o _ (Ps.ag_end H41.o)) hz,HARS,by have h1:=HI.o.le;have h2:=HRT.o;have h3:=HLT.o;simp only[List.length_tail] at *;omega⟩)⟩
  have HM2:Xq (K.ts.length-natAt (set6 w5 gx (.int .i64 hd.k) (.int .i64 hd.op) (.int .i64 hd.v) (.int .i64 hd.ln) (.string (st hd.nm)) (.slice sa nn sc)) K.g<K.ts.length-natAt wa K.g):=Xj (by
   rw[HL2.o.ms.pat.natAt,HL.o.ms.pat.natAt]
   have h1:=HL2.o.ms.pat.lt
   have h2:=HL.o.ms.pat.lt
   have h3:=HRT.o
   have h4:=HI.o.le
   (try simp only[List.length_tail] at h1 h3 h4)
   omega)
  go_wp2_with fail
  go_roundw
  case rel=>exact⟨hd,sa,nn,sc,false,true,at3+1,r3.tail,rfl,rfl,HL2⟩
  exact HM2.o
 have H41:=Xj h41
 (try rw[h41])
 clear h41
 go_upto_region 12 with fail
 go_cut [61] from 55 to 61 (λ v61 wx=>∃ (b:Bool) (at6:Nat) (r6:List Tk),v61=.bool b/\Xq (CI K w gR gx gc h (.slice a n c) hd v nn xs at6 r6 wx/\CF w gR gx gc v nn xs (G.app Fa) wx/\r6.length<=r5.length/\((b=false/\(∀ x r2 z,Ps .ex r6 (.ok x r2)->Ps (.ag false (Fa.app x)) r2 z->Ps (.ag true .nil) r.tail z)/\(∀ r2,Ps .ex r6 (.bad r2)->Ps (.ag true .nil) r.tail (.bad r2)))\/(b=true/\Ps (.ag true .nil) r.tail (.bad r6)))))
 case first =>
  cases first
  ·go_wp2_with fail
   refine(Xn K _ _ [44] _ HC5.o.ms.pat).mono ?_
   rintro e w6 ⟨at6,r6,rfl,hp6,hg6,hc6⟩
   have HC6:=Xj (HC5.o.gr hg6 hp6)
   have HF6:=Xj (HF5.o.gr hg6 HC5.o.ms.gl)
   clear hp6 hg6
   rcases hc6 with⟨h44,rfl,rfl⟩|⟨h44,rfl,rfl⟩
   ·have H44:=Xj h44
    (try rw[h44])
    clear h44
    go_wp2_with fail
    go_meet
    exact⟨false,_,_,rfl,Xj ⟨HC6.o,HF6.o,by simp,.inl ⟨rfl,λ x r2 z h1 h2=>HAC.o z (Ps.ag_next H41.o H44.o h1 h2),λ r2 h1=>HAC.o _ (Ps.ag_next_bad H41.o H44.o h1)⟩⟩⟩
   have H44:=Xj h44
   (try rw[h44])
   clear h44
   go_wp2_with fail
   go_meet
   exact⟨true,_,_,rfl,Xj ⟨HC6.o,HF6.o,Nat.le_refl _,.inr ⟨rfl,HAC.o _ (Ps.ag_bad H41.o H44.o)⟩⟩⟩
  go_wp2_with fail
  go_meet
  exact⟨false,_,_,rfl,Xj ⟨HC5.o,HF5.o,Nat.le_refl _,.inl ⟨rfl,λ x r2 z h1 h2=>HAC.o z (Ps.ag_first H41.o h1 h2),λ r2 h1=>HAC.o _ (Ps.ag_first_bad H41.o h1)⟩⟩⟩
 case rest =>
 clear HC5 HF5
 obtain⟨b,at6,r6,rfl,HC6⟩:=hcut
 cases b
 ·have hcx:(∀ x r2 z,Ps .ex r6 (.ok x r2)->Ps (.ag false (Fa.app x)) r2 z->Ps (.ag true .nil) r.tail z)/\(∀ r2,Ps .ex r6 (.bad r2)->Ps (.ag true .nil) r.tail (.bad r2)):=by
   rcases HC6.o.2.2.2 with⟨_,h1⟩|⟨h1,_⟩
   ·exact h1
   cases h1
  have HCX:=Xj hcx
  clear hcx
  have hvx:Xq (r6.length<=r.tail.length/\r6.length<rest.length):=Xj (by have h1:=HI.o.le;have h2:=HRT.o;have h3:=HLT.o;have h4:=HC6.o.2.2.1;exact⟨by omega,by omega⟩)
  have HN6:Xq (nn<100000):=Xj (by have h1:=HC6.o.1.ms.pat.lt;have h2:=HI.o.ci.ms.pat.lt;have h3:=HC6.o.2.2.1;have h4:=HNN.o;have h5:=HC6.o.1.ms.pat.n;omega)
  have HK6:Xq (nn<=at6):=Xj (by have h1:=HC6.o.1.ms.pat.lt;have h2:=HI.o.ci.ms.pat.lt;have h3:=HC6.o.2.2.1;have h4:=HNN.o;omega)
  have HD6:=Xj (HC6.o.1.al zex)
  have HY6:=Xj (Lc.zero wc)
  have HNE:=Xj HC6.o.1.ne
  have HL6:=Xj (And.intro HC6.o.1.rc.lt (And.intro HC6.o.1.xc.lt HC6.o.1.cc.lt))
  have HO6:Xq (v.ownBlock≠some wc.heap.size):=Xj (λ e=>by have:=(HC6.o.1.own.lt _ e).2;omega)
  go_upto_region 15 with fail
  obtain⟨w6,hw6⟩:∃ W,wc.alloc zex=W:=⟨_,rfl⟩
  obtain⟨gy,hgy⟩:∃ x,wc.heap.size=x:=⟨_,rfl⟩
  (try rw[show wc.alloc (.cells #[.int .i64 0,.int .i64 0,.int .i64 0,.int .i64 0,.string { data := #[] },.slice none 0 0] 37)=w6 from hw6])
  rw[hw6] at HD6 HY6
  rw[hgy] at HY6 HO6 HL6
  (try rw[hgy])
  have HS6:Xq (w6.heap.size=gy+1):=Xj (by rw[<- hw6,<- hgy];simp)
  have HF6:Xq (Zb w6 (λ b=>(TBk w gR gx b/\b≠gc/\some b≠v.ownBlock)/\b<gy) (G.app Fa) xs/\(G.app Fa).len=nn):=Xj ⟨HC6.o.2.1.1.keep (λ b hb hlt=>⟨by rw[<- hw6];exact Below.heap_alloc wc zex b hlt,hb,by omega⟩) (by rw[<- hw6];simp),HC6.o.2.1.2⟩
  clear hw6 hgy
  go_wp2_with fail
  refine(HE.o _ _ _ HD6.o.ms.pat hvx.o.2).mono ?_
  rintro e w7 ⟨h2,a2,n2,c2,ok2,at7,r7,rfl,hp7,He,hg7,hI⟩
  have HD7:=Xj (HD6.o.gr hg7 hp7)
  have hl6:=HL6.o
  have hne:=HNE.o
  have hs7:=hg7.size
  have hS6:=HS6.o
  have HY7:=Xj (HY6.o.gr hg7 (by omega))
  have HF7:Xq (Zb w7 (λ b=>(TBk w gR gx b/\b≠gc/\some b≠v.ownBlock)/\b<gy) (G.app Fa) xs/\(G.app Fa).len=nn):=Xj ⟨HF6.o.1.keep (λ b hb hlt=>⟨hg7.block b hlt (λ e=>by injection e with e;have:=hb.1.1.1;omega),hb⟩) hg7.size,HF6.o.2⟩
  have hvv:=Xj He
  have hqz:=hI
  obtain⟨v0,v1,v2,v3,v4,v5⟩:=HY7.o.froz
  obtain⟨u0,u1,u2,u3,u4,u5⟩:=HY7.o.cells
  have hzt:=HY7.o.lt
  clear hp7 hg7 He hI
  go_upto_region 16 with fail
  clear v0 v1 v2 v3 v4 v5 u0 u1 u2 u3 u4 u5 hzt
  have HOB:Xq (∀ k,v.ownBlock=some k->w.heap.size<=k/\k<gy):=Xj (λ k hk=>⟨(HC6.o.1.own.lt k hk).1,by have h1:=(HC6.o.1.own.lt k hk).2;have h2:=HO6.o;have h3:=HS6.o;have h4:=(HD6.o.own.lt k hk).2;rcases Nat.lt_or_ge k gy with h|h;exact h;exact absurd (show v.ownBlock=some gy by rw[hk,show k=gy by omega]) h2⟩)
  have HD8:=Xj (HD7.o.s6n (g:=gy) (v0:=.int .i64 h2.k) (v1:=.int .i64 h2.op) (v2:=.int .i64 h2.v) (v3:=.int .i64 h2.ln) (v4:=.string (st h2.nm)) (v5:=.slice a2 n2 c2) (by omega) (by omega) (by omega) (by omega) HO6.o)
  have HY8:=Xj (HY7.o.s6 h2 (.slice a2 n2 c2))
  have HF8:Xq (CF w gR gx gc v nn xs (G.app Fa) (set6 w7 gy (.int .i64 h2.k) (.int .i64 h2.op) (.int .i64 h2.v) (.int .i64 h2.ln) (.string (st h2.nm)) (.slice a2 n2 c2))):=Xj ⟨HF7.o.1.keep (λ b hb hlt=>⟨Yq b (by have:=hb.2;omega),hb.1⟩) (by rw[Zz];exact Nat.le_refl _),HF7.o.2⟩
  have hjp:Xq ((ok2=true/\∃ ar2,Ps .ex r6 (.ok (Xb h2 ar2) r7)/\Xk (set6 w7 gy (.int .i64 h2.k) (.int .i64 h2.op) (.int .i64 h2.v) (.int .i64 h2.ln) (.string (st h2.nm)) (.slice a2 n2 c2)) (λ b=>TBk w gR gx b/\b≠gc/\some b≠v.ownBlock) ar2 (.slice a2 n2 c2)/\r7.length<r6.length)\/(ok2=false/\Ps .ex r6 (.bad r7))):=Xj (by
   rcases hqz.o with⟨e1,ar2,e2,e3,e4⟩|hr
   ·exact .inl ⟨e1,ar2,e2,Xg (Yz e3 (λ b hb=>by omega)) (λ b hb _=>⟨⟨by omega,by omega,by omega⟩,by omega,λ e=>by have:=(HOB.o b e.symm).2;omega⟩),e4⟩
   exact .inr hr)
  obtain⟨w8,hw8⟩:∃ W,set6 w7 gy (.int .i64 h2.k) (.int .i64 h2.op) (.int .i64 h2.v) (.int .i64 h2.ln) (.string (st h2.nm)) (.slice a2 n2 c2)=W:=⟨_,rfl⟩
  have hqy:=hw8
  unfold set6 at hqy
  (try rw[hqy])
  rw[hw8] at HD8 HY8 HF8 hjp
  clear hw8 hqy HF7 HD7 HY7 hqz
  obtain⟨q0,q1,q2,q3,q4,q5⟩:=HY8.o.cells
  obtain⟨y0,y1,y2,y3,y4,y5⟩:=HD8.o.cc.cells
  have hlY:=HY8.o.lt
  have hlC:=HD8.o.cc.lt
  obtain⟨i0,hi0,hz0,hz1,hz2⟩:=info_parts Tryz.infoExpr
  have HIF:=Xj hi0
  have HZ0:=Xj hz0
  have HZ1:=Xj hz1
  have HZ2:=Xj hz2
  clear hi0 hz0 hz1 hz2
  have HOA:=Xj (HD8.o.own.alloc (.cells (ecs h2 (.slice a2 n2 c2)) 37))
  have hn6:=HN6.o
  go_wp2_with (at_builtin;refine wpList_append_lies _ rfl _ _ _ rfl w.heap.size 37 i0 _ 6 72 Tryz.underlying35 HIF.o HZ0.o HZ1.o HZ2.o rfl (by omega) _ _ _ rfl HOA.o ⟨w8.heap.size,0,none⟩ 1 1 (hdc h2 (.slice a2 n2 c2)) rfl rfl (World.news_of_block (cs:=(hdc h2 (.slice a2 n2 c2)).toArray) (t:=37) (fr:=(0,0)) (heap_alloc_new w8 _)) (by simp[Value.oneCell']) (by omega) (by unfold maxLen;omega) (by omega) (by simp;omega) _ rfl ?_;intro g9 c9 w9 hown9 hgrow9 hor9 hlt9;have HO9:=Xj hown9;have HG9:=Xj hgrow9;have HR9:=Xj hor9;have HCC:=Xj ((HD8.o.cc.al (.cells (ecs h2 (.slice a2 n2 c2)) 37)).grw hgrow9 HNE.o.2.2.2.2.2.2.2.2);obtain⟨t0,t1,t2,t3,t4,t5⟩:=HCC.o.cells;obtain⟨j0,j1,j2,j3,j4,j5⟩:=HCC.o.froz;have hlC9:=HCC.o.lt;clear hown9 hgrow9 hor9 hlt9)
  have HP:=Xj (HD8.o.push HG9.o HR9.o HO9.o)
  go_roundw
  case rel =>
   refine⟨ok2,false,_,nn+1,_,at7,r7,rfl,rfl,Xj ⟨HP.o,by have:=hvv.o;have:=hvx.o.1;omega,?_⟩⟩
   rcases hjp.o with⟨e1,ar2,e2,e3,e4⟩|⟨e1,e2⟩
   ·refine .inl ⟨e1,?_,Fa.app (Xb h2 ar2),?_,λ z hz=>HCX.o.1 _ _ z e2 hz⟩
    ·have h1:=HP.o.ms.pat.lt
     have h2:=HC6.o.1.ms.pat.lt
     have h3:=HK6.o
     omega
    rw[<- Fo.app_assoc2]
    exact HF8.o.push HD8.o e3 HG9.o HR9.o
   exact .inr ⟨e1,HCX.o.2 _ e2⟩
  have h1:=HP.o.ms.pat.natAt
  have h2:=HI.o.ci.ms.pat.natAt
  rw[h2]
  rw[h1]
  have h3:=HP.o.ms.pat.lt
  have h4:=HI.o.ci.ms.pat.lt
  have h5:=HC6.o.2.2.1
  rcases hjp.o with⟨e1,ar2,e2,e3,e4⟩|⟨e1,e2⟩
  ·rw[e1]
   simp only[Fl]
   omega
  rw[e1]
  have:=hvv.o
  simp only[Fl]
  omega
 have HB:Xq (Ps (.ag true .nil) r.tail (.bad r6)):=Xj (by
  rcases HC6.o.2.2.2 with⟨h1,_⟩|⟨_,h1⟩
  ·cases h1
  exact h1)
 obtain⟨sa,sc,hvs⟩:=HC6.o.1.shape
 subst hvs
 obtain⟨y0,y1,y2,y3,y4,y5⟩:=HC6.o.1.cc.cells
 obtain⟨g0,g1,g2,g3,g4,g5⟩:=HC6.o.1.rc.froz
 obtain⟨x0,x1,x2,x3,x4,x5⟩:=HC6.o.1.rc.cells
 have hlR:=HC6.o.1.rc.lt
 have hlC:=HC6.o.1.cc.lt
 have HNE:=Xj HC6.o.1.ne
 have HMZ:=Xj (HC6.o.1.ms.s6 (b:=gR) HNE.o.2.2.2.1 (.int .i64 hd.k) (.int .i64 hd.op) (.int .i64 hd.v) (.int .i64 hd.ln) (.string (st hd.nm)) (.slice sa nn sc))
 have HDZ:=Xj (HC6.o.1.rc.s6 hd (.slice sa nn sc))
 have hvx:Xq (r6.length<=rest.length):=Xj (by have h1:=HI.o.le;have h2:=HRT.o;have h3:=HLT.o;have h4:=HC6.o.2.2.1;omega)
 go_wp2_with fail
 obtain⟨wz,hwz⟩:∃ W,set6 wc gR (.int .i64 hd.k) (.int .i64 hd.op) (.int .i64 hd.v) (.int .i64 hd.ln) (.string (st hd.nm)) (.slice sa nn sc)=W:=⟨_,rfl⟩
 have hY:=hwz
 unfold set6 at hY
 (try rw[hY])
 rw[hwz] at HMZ HDZ
 obtain⟨d0,d1,d2,d3,d4,d5⟩:=HDZ.o.cells
 refine bodyPost_ret (v:=.tuple #[exv hd (.slice sa nn sc),.bool false]) (by simp[results,Tryz.results206,go_sem,d0,d1,d2,d3,d4,d5]) rfl ?_
 exact⟨hd,sa,nn,sc,false,at6,r6,rfl,HMZ.o.pat,hvx.o,HMZ.o.gr,Xj (.inr ⟨rfl,HCN.o.2 _ HB.o⟩)⟩
end
section
section
variable {P:Program} {md:Region.Mode} {ops:Array Oper} {Q:Exit->Act->World->Prop} {S:World->Prop} {d:Nat}
def Zm (P:Program) (md:Region.Mode) (ops:Array Oper) (Q:Exit->Act->World->Prop) (S:World->Prop) (d:Nat):Nat->Array Bool->Act->World->Prop
 | 0,listed,a,w=>Region.ready md ops listed=[]/\Q .normal a w
 | fuel+1,listed,a,w=>(Region.ready md ops listed=[]->Q .normal a w) /\
   ∀ i∈Region.ready md ops listed,wpOp P ops Q i (λ a' w'=>((listed.setIfInBounds i true).getD d false=false->S w')/\Zm P md ops Q S d fuel (listed.setIfInBounds i true) a' w') a w
theorem Pk (fuel:Nat):∀ (listed:Array Bool) (a:Act) (w:World),Zm P md ops Q S d fuel listed a w->wpAny P md ops Q fuel listed a w:=by
 induction fuel with
 | zero=>intro listed a w h;exact h
 | succ fuel ih=>intro listed a w h;exact⟨h.1,λ i hi=>wpOp_mono (λ a' w' h'=>ih _ a' w' h'.2) (h.2 i hi)⟩
theorem Dk {i:Nat} {oi od:Oper} {v:Value} {e0:Edge} (hi:ops[i]?=some oi) (hd:ops[d]?=some od) (he0:e0∈od.after) (hb0:Region.binds md e0=true) (hon:e0.on=i)
  (hyq:∀ (j:Nat) (o:Oper) cs b,ops[j]?=some o->o.op≠.select cs b) (hQ:∀ c a w,Q (.panic c) (a.put oi.dst v) w->Q (.panic c) a w) (fuel:Nat) :
  ∀ (listed:Array Bool) (a:Act) (w:World),
   (∀ j oj,ops[j]?=some oj->j≠i->listed.getD j true=false->(∀ e∈oj.after,Region.binds md e=true->e.on≠i)->oi.apart ops oj=true) ->
   i∈Region.ready md ops listed->listed.getD d false=false->YieldsIf P ops S oi v a->S w ->
   Zm P md ops Q S d fuel (listed.setIfInBounds i true) (a.put oi.dst v) w->Zm P md ops Q S d (fuel+1) listed a w:=by
 -- nothing that may come up now waits for i,as i has not come up
 have waits:∀ (listed:Array Bool) (j:Nat) (oj:Oper),i∈Region.ready md ops listed->ops[j]?=some oj->(∀ e∈oj.after,Region.binds md e=true->listed.getD e.on false=true)->∀ e∈oj.after,Region.binds md e=true->e.on≠i:=λ listed j oj hr hoj hqu e he hb heq=>by
  have h1:=hqu e he hb
  have h0:=(mem_ready.1 hr).1
  rw[heq] at h1
  by_cases hlt:i<listed.size
  ·simp[hlt] at h0 h1
   rw[h0] at h1
   cases h1
  simp[Array.getElem?_eq_none (Nat.le_of_not_lt hlt)] at h1
 induction fuel with
 | zero =>
  intro listed a w _ hr hdl hy hS H
  refine⟨λ h=>(by rw[h] at hr;cases hr),λ j hj=>?_⟩
  by_cases hji:j=i
  ·rw[hji]
   exact hy.wpOp hi hS ⟨λ _=>hS,H⟩
  have:=ready_mono hj hji
  rw[H.1] at this
  cases this
 | succ fuel ih =>
  intro listed a w hzw hr hdl hy hS H
  refine⟨λ h=>(by rw[h] at hr;cases hr),λ j hj=>?_⟩
  by_cases hji:j=i
  ·rw[hji]
   exact hy.wpOp hi hS ⟨λ _=>hS,H⟩
  obtain⟨hyz,oj,hoj,hqu⟩:=mem_ready.1 hj
  have hno:=waits listed j oj hr hoj hqu
  have hjd:j≠d:=λ e=>by
   rw[e,hd] at hoj
   injection hoj with hoj
   rw[<- hoj] at hno
   exact hno e0 he0 hb0 hon
  have hdl2:(listed.setIfInBounds j true).getD d false=false:=by rw[getD_set_ne false hjd];exact hdl
  have h2:=wpOp_putIf hoj (hzw j oj hoj hji hyz hno) (λ cs b=>hyq i oi cs b hi) (λ cs b=>hyq j oj cs b hoj) hQ hy (H.2 j (ready_mono hj hji))
  refine wpOp_mono (λ a' w' h3=>?_) h2
  have hid:i≠d:=λ e=>by
   have h0:=(mem_ready.1 hr)
   obtain⟨_,o,ho,hfk⟩:=h0
   rw[e,hd] at ho
   injection ho with ho
   exact waits listed i od hr (by rw[e];exact hd) (by rw[ho];exact hfk) e0 he0 hb0 hon
  have hS':S w':=h3.2.1 (by rw[getD_set_ne false hjd,getD_set_ne false hid];exact hdl)
  refine⟨λ _=>hS',ih (listed.setIfInBounds j true) a' w' (λ k ok hk hki hun hn=>hzw k ok hk hki ?_ hn) (ready_mono hr (Ne.symm hji)) hdl2 h3.1 hS' ?_⟩
  ·by_cases hjk:j=k
   ·rw[<- hjk];exact hyz
   rw[getD_set_ne true hjk] at hun;exact hun
  rw[Array.setIfInBounds_comm _ _ hji]
  exact h3.2.2
theorem Nb {i:Nat} {oi:Oper} {dd:Option Tmp} {v:Value} {fuel:Nat} {listed:Array Bool} {a:Act} {w:World} (hi:ops[i]?=some oi) (hdd:oi.dst=dd)
  (hw:(match ops[d]? with|some od=>od.after.any (λ e=>Region.binds md e&&e.on==i)|none=>false)=true) (hdl:listed.getD d false=false)
  (hs:Region.noSelect ops=true) (hf:Region.free md ops listed i=true) (hr:(Region.ready md ops listed).contains i=true)
  (hQ:∀ c a w,Q (.panic c) (a.put dd v) w->Q (.panic c) a w) (hy:YieldsIf P ops S oi v a) (hS:S w)
  (h:Zm P md ops Q S d fuel (listed.setIfInBounds i true) (a.put dd v) w):Zm P md ops Q S d (fuel+1) listed a w:=by
 subst hdd
 cases hd:ops[d]? with
 | none=>rw[hd] at hw;cases hw
 | some od =>
  rw[hd] at hw
  dsimp only at hw
  rw[Array.any_eq_true'] at hw
  obtain⟨e0,he0,hb⟩:=hw
  simp only[Bool.and_eq_true,beq_iff_eq] at hb
  exact Dk hi hd he0 hb.1 hb.2 (Region.noSelect_spec hs) hQ fuel listed a w (Region.free_spec hi hf) (by simpa using hr) hdl hy hS h
theorem Wp {rs:List Nat} {fuel:Nat} {listed:Array Bool} {a:Act} {w:World} (hr:Region.ready md ops listed=rs) (hne:rs≠[])
  (h:∀ i∈rs,wpOp P ops Q i (λ a' w'=>((listed.setIfInBounds i true).getD d false=false->S w')/\Zm P md ops Q S d fuel (listed.setIfInBounds i true) a' w') a w):Zm P md ops Q S d (fuel+1) listed a w :=
 ⟨λ h0=>absurd (hr▸h0) hne,hr▸h⟩
theorem Pu {i:Nat} {o:Oper} {fuel:Nat} {listed:Array Bool} {a:Act} {w:World} (hr:Region.ready md ops listed=[i]) (ho:ops[i]?=some o)
  (h:∀ K':Act->World->Prop,Shut (∀ a w,((listed.setIfInBounds i true).getD d false=false->S w)->Zm P md ops Q S d fuel (listed.setIfInBounds i true) a w->K' a w)->if Region.wanted o (yielded ops a.tmps)=true then Oper.wp P o a w K' Q else K' (a.put o.dst undef) w):Zm P md ops Q S d (fuel+1) listed a w :=
 Wp hr (by simp) λ j hj=>by
  have e:j=i:=by simpa using hj
  rw[e]
  exact wpOp_step ho λ K' hK=>h K' λ a w hS hW=>hK a w ⟨hS,hW⟩
theorem Hy {i:Nat} {oi:Oper} {v:Value} (hi:ops[i]?=some oi) (hid:i≠d)
  (hyq:∀ (j:Nat) (o:Oper) cs b,ops[j]?=some o->o.op≠.select cs b) (hQ:∀ c a w,Q (.panic c) (a.put oi.dst v) w->Q (.panic c) a w) (fuel:Nat) :
  ∀ (listed:Array Bool) (a:Act) (w:World),
   (∀ j oj,ops[j]?=some oj->j≠i->listed.getD j true=false->(∀ e∈oj.after,Region.binds md e=true->e.on≠i)->oi.apart ops oj=true) ->
   i∈Region.ready md ops listed->YieldsIf P ops (λ _=>True) oi v a->(listed.getD d false=false->S w) ->
   Zm P md ops Q S d fuel (listed.setIfInBounds i true) (a.put oi.dst v) w->Zm P md ops Q S d (fuel+1) listed a w:=by
 have waits:∀ (listed:Array Bool) (oj:Oper),i∈Region.ready md ops listed->(∀ e∈oj.after,Region.binds md e=true->listed.getD e.on false=true)->∀ e∈oj.after,Region.binds md e=true->e.on≠i:=λ listed oj hr hqu e he hb heq=>by
  have h1:=hqu e he hb
  have h0:=(mem_ready.1 hr).1
  rw[heq] at h1
  by_cases hlt:i<listed.size
  ·simp[hlt] at h0 h1
   rw[h0] at h1
   cases h1
  simp[Array.getElem?_eq_none (Nat.le_of_not_lt hlt)] at h1
 induction fuel with
 | zero =>
  intro listed a w _ hr hy hS H
  refine⟨λ h=>(by rw[h] at hr;cases hr),λ j hj=>?_⟩
  by_cases hji:j=i
  ·rw[hji]
   exact hy.wpOp hi trivial ⟨λ h=>hS (by rw[getD_set_ne false hid] at h;exact h),H⟩
  have:=ready_mono hj hji
  rw[H.1] at this
  cases this
 | succ fuel ih =>
  intro listed a w hzw hr hy hS H
  refine⟨λ h=>(by rw[h] at hr;cases hr),λ j hj=>?_⟩
  by_cases hji:j=i
  ·rw[hji]
   exact hy.wpOp hi trivial ⟨λ h=>hS (by rw[getD_set_ne false hid] at h;exact h),H⟩
  obtain⟨hyz,oj,hoj,hqu⟩:=mem_ready.1 hj
  have hno:=waits listed oj hr hqu
  have h2:=wpOp_putIf hoj (hzw j oj hoj hji hyz hno) (λ cs b=>hyq i oi cs b hi) (λ cs b=>hyq j oj cs b hoj) hQ hy (H.2 j (ready_mono hj hji))
  refine wpOp_mono (λ a' w' h3=>?_) h2
  have hS':(listed.setIfInBounds j true).getD d false=false->S w':=λ h=>h3.2.1 (by
   by_cases hjd:j=d
   ·rw[hjd] at h ⊢
    rw[Array.setIfInBounds_comm _ _ hid]
    rw[getD_set_ne false hid]
    exact h
   rw[getD_set_ne false hjd] at h ⊢
   rw[getD_set_ne false hid]
   exact h)
  refine⟨hS',ih (listed.setIfInBounds j true) a' w' (λ k ok hk hki hun hn=>hzw k ok hk hki ?_ hn) (ready_mono hr (Ne.symm hji)) h3.1 hS' ?_⟩
  ·by_cases hjk:j=k
   ·rw[<- hjk];exact hyz
   rw[getD_set_ne true hjk] at hun;exact hun
  rw[Array.setIfInBounds_comm _ _ hji]
  exact h3.2.2
theorem Vk {i:Nat} {oi:Oper} {dd:Option Tmp} {v:Value} {fuel:Nat} {listed:Array Bool} {a:Act} {w:World} (hi:ops[i]?=some oi) (hdd:oi.dst=dd) (hid:i≠d)
  (hs:Region.noSelect ops=true) (hf:Region.free md ops listed i=true) (hr:(Region.ready md ops listed).contains i=true)
  (hQ:∀ c a w,Q (.panic c) (a.put dd v) w->Q (.panic c) a w) (hy:YieldsIf P ops (λ _=>True) oi v a) (hS:listed.getD d false=false->S w)
  (h:Zm P md ops Q S d fuel (listed.setIfInBounds i true) (a.put dd v) w):Zm P md ops Q S d (fuel+1) listed a w:=by
 subst hdd
 exact Hy hi hid (Region.noSelect_spec hs) hQ fuel listed a w (Region.free_spec hi hf) (by simpa using hr) hy hS h
theorem Py {i j:Nat} {o o2:Oper} {fuel:Nat} {listed:Array Bool} {a:Act} {w:World} (hr:Region.ready md ops listed=[i,j]) (ho:ops[i]?=some o) (ho2:ops[j]?=some o2)
  (h:∀ K':Act->World->Prop,Shut (∀ a w,((listed.setIfInBounds i true).getD d false=false->S w)->Zm P md ops Q S d fuel (listed.setIfInBounds i true) a w->K' a w)->if Region.wanted o (yielded ops a.tmps)=true then Oper.wp P o a w K' Q else K' (a.put o.dst undef) w)
  (h2:∀ K':Act->World->Prop,Shut (∀ a w,((listed.setIfInBounds j true).getD d false=false->S w)->Zm P md ops Q S d fuel (listed.setIfInBounds j true) a w->K' a w)->if Region.wanted o2 (yielded ops a.tmps)=true then Oper.wp P o2 a w K' Q else K' (a.put o2.dst undef) w):Zm P md ops Q S d (fuel+1) listed a w :=
 Wp hr (by simp) λ k hk=>by
  have e:k=i\/k=j:=by simpa using hk
  rcases e with rfl|rfl
  ·exact wpOp_step ho λ K' hK=>h K' λ a w hS hW=>hK a w ⟨hS,hW⟩
  exact wpOp_step ho2 λ K' hK=>h2 K' λ a w hS hW=>hK a w ⟨hS,hW⟩
theorem Ek {listed:Array Bool} {a:Act} {w:World} (hr:Region.ready md ops listed=[]) (h:Q .normal a w):∀ fuel,Zm P md ops Q S d fuel listed a w
 | 0=>⟨hr,h⟩
 | _+1=>⟨λ _=>h,by rw[hr];simp⟩
theorem Nu {id:Nat} {a:Act} {w:World} (d:Nat) (S:World->Prop) (hm:P.follows .mixedOrders=true) (hS:S w.drew)
  (h:S w.drew->Zm P .any ops Q S d ops.size (Array.replicate ops.size false) a w.drew):(Code.region id ops true).wp P Q a w :=
 wp_region_any hm (Pk _ _ _ _ (h hS))
theorem tkK (i dd:Nat) {oi:Oper} {v:Value} {fuel:Nat} {listed:Array Bool} {a a2:Act} {w:World} (h:Zm P md ops Q S d fuel (listed.setIfInBounds i true) a2 w) (hi:ops[i]?=some oi:=by rfl) (hdd:oi.dst=some dd:=by kernel_rfl)
  (hw:(match ops[d]? with|some od=>od.after.any (λ e=>Region.binds md e&&e.on==i)|none=>false)=true:=by kernel_rfl) (hdl:listed.getD d false=false:=by kernel_rfl)
  (hs:Region.noSelect ops=true:=by kernel_rfl) (hf:Region.free md ops listed i=true:=by kernel_rfl) (hr:(Region.ready md ops listed).contains i=true:=by kernel_rfl)
  (hQ:∀ c a w,Q (.panic c) (a.put (some dd) v) w->Q (.panic c) a w:=by exact λ _ _ _ h=>h) (hwt:Region.wanted oi (yielded ops a.tmps)=true:=by kernel_rfl)
  (hy:∀ w,S w->(execOp a.eval oi).run P w=.ok (.value v) w:=by (intro w hSw;(try dsimp only at hSw);go_simp;try with_reducible rfl)) (hS:S w:=by assumption) (ha:a.put (some dd) v=a2:=by (first|(simp only[Act.put,List.setIfInBounds_toArray,List.set_cons_zero,List.set_cons_succ];done)|(simp only[Act.put,List.setIfInBounds_toArray,List.set_cons_zero,List.set_cons_succ];rfl)|rfl)):Zm P md ops Q S d (fuel+1) listed a w:=by
 subst ha;exact Nb hi hdd hw hdl hs hf hr hQ (Or.inl ⟨hwt,hy⟩) hS h
theorem rdK (i:Nat) {o:Oper} {fuel:Nat} {listed:Array Bool} {a:Act} {w:World}
  (h:∀ K':Act->World->Prop,Shut (∀ a w,((listed.setIfInBounds i true).getD d false=false->S w)->Zm P md ops Q S d fuel (listed.setIfInBounds i true) a w->K' a w)->if Region.wanted o (yielded ops a.tmps)=true then Oper.wp P o a w K' Q else K' (a.put o.dst undef) w)
  (hr:Region.ready md ops listed=[i]:=by kernel_rfl) (ho:ops[i]?=some o:=by rfl):Zm P md ops Q S d (fuel+1) listed a w:=Pu hr ho h
theorem goK {fuel:Nat} {listed:Array Bool} {C:Prop} {a a2:Act} {w:World} {K:Act->World->Prop} (hK:Shut (∀ a w,(C->S w)->Zm P md ops Q S d fuel listed a w->K a w)) (hs:C->S w) (h:Zm P md ops Q S d fuel listed a2 w) (ha:a=a2:=by (first|(simp only[Act.put,List.setIfInBounds_toArray,List.set_cons_zero,List.set_cons_succ];done)|(simp only[Act.put,List.setIfInBounds_toArray,List.set_cons_zero,List.set_cons_succ];rfl)|rfl)):K a w:=by
 subst ha;exact hK.out _ _ hs h
end
end
theorem Rf (m:Nat) (hA:CE 169 .su m):CE 145 .cm m:=by
 intro K at_ rest w hP hm
 have HM1:=Xj ((MS.init hP).al zex)
 have HR1:=Xj (Lc.zero w)
 have HA:=Xj hA
 have HMm:=Xj hm
 clear hA hP hm
 go_enter Tryz.func145,Tryz.ntmps145
 go_upto_region 1 with fail
 obtain⟨w1,hw1⟩:∃ W,w.alloc zex=W:=⟨_,rfl⟩
 obtain⟨gR,hgR⟩:∃ x,w.heap.size=x:=⟨_,rfl⟩
 (try rw[show w.alloc (.cells #[.int .i64 0,.int .i64 0,.int .i64 0,.int .i64 0,.string { data := #[] },.slice none 0 0] 37)=w1 from hw1])
 rw[hw1] at HM1 HR1
 rw[hgR] at HR1
 (try rw[hgR])
 have HGR:=Xj hgR
 have HS1:Xq (w1.heap.size=gR+1):=Xj (by rw[<- hw1,<- hgR];simp)
 clear hw1 hgR
 go_wp2_with fail
 refine(HA.o K at_ rest _ HM1.o.pat HMm.o).mono ?_
 rintro e w2 ⟨h,a,n,c,ok,at2,r,rfl,hp2,hjy,hg2,Ha⟩
 have HM2:=Xj (HM1.o.call hp2 hg2)
 have HR2:=Xj (HR1.o.gr hg2 (by have:=HM1.o.gl;have:=HGR.o;omega))
 have hs2:=hg2.size
 have HM3:=Xj (HM2.o.al (.cells (ecs h (.slice a n c)) 37))
 have HR3:=Xj (HR2.o.al (.cells (ecs h (.slice a n c)) 37))
 have HX3:=Xj (Lc.new w2 h (.slice a n c))
 have hjq:Xq ((ok=true/\∃ ar,Ps .su rest (.ok (Xb h ar) r)/\Xk (w2.alloc (.cells (ecs h (.slice a n c)) 37)) (TBk w gR w2.heap.size) ar (.slice a n c)/\r.length<rest.length)\/(ok=false/\Ps .su rest (.bad r))):=Xj (by
  rcases Ha.o with⟨h1,ar,h2,h3,h4⟩|⟨h1,h2⟩
  ·exact .inl ⟨h1,ar,h2,Xg (Yr _ h3) (λ b hb _=>⟨by have:=hb.1;have:=HS1.o;have:=HGR.o;omega,by have:=hb.1;have:=HS1.o;omega,hb.2⟩),h4⟩
  exact .inr ⟨h1,h2⟩)
 clear Ha hp2 hg2
 go_upto_region 2 with fail
 obtain⟨w3,hw3⟩:∃ W,w2.alloc (.cells (ecs h (.slice a n c)) 37)=W:=⟨_,rfl⟩
 obtain⟨gx,hgx⟩:∃ x,w2.heap.size=x:=⟨_,rfl⟩
 (try rw[show w2.alloc (.cells #[.int .i64 h.k,.int .i64 h.op,.int .i64 h.v,.int .i64 h.ln,.string (st h.nm),.slice a n c] 37)=w3 from hw3])
 rw[hw3] at HM3 HR3 HX3 hjq
 rw[hgx] at HX3 hjq
 (try rw[hgx])
 have HGX:Xq (gR<gx):=Xj (by have:=HS1.o;omega)
 have HLE:=Xj hjy
 have hgg:=HM3.o.gl
 have hzr:=HGR.o
 have hyj:=HGX.o
 clear hw3 hgx hs2 hjy HM2 HR2 HM1 HR1
 obtain⟨x0,x1,x2,x3,x4,x5⟩:=HX3.o.cells
 obtain⟨y0,y1,y2,y3,y4,y5⟩:=HR3.o.cells
 obtain⟨g0,g1,g2,g3,g4,g5⟩:=HR3.o.froz
 have hlR:=HR3.o.lt
 have hlX:=HX3.o.lt
 cases ok
 ·have HB:Xq (Ps .cm rest (.bad r)):=Xj (by
   rcases hjq.o with⟨h1,_⟩|⟨_,h1⟩
   ·cases h1
   exact Ps.cm_bad h1)
  have HRf:=HR3
  have HMf:=HM3
  go_wp2_with fail
  have HDZ:=Xj (HRf.o.s6 h (.slice a n c))
  have HMZ:=Xj (HMf.o.s6 (b:=gR) (by have:=HGR.o;omega) (.int .i64 (Hd.k h)) (.int .i64 (Hd.op h)) (.int .i64 (Hd.v h)) (.int .i64 (Hd.ln h)) (.string (st (Hd.nm h))) (.slice a n c))
  have HEZ:=Xj (show _ from (Or.inr ⟨rfl,HB.o⟩:(false=true/\∃ ar,Ps .cm rest (.ok (Xb h ar) r)/\Xk (set6 w3 gR (.int .i64 (Hd.k h)) (.int .i64 (Hd.op h)) (.int .i64 (Hd.v h)) (.int .i64 (Hd.ln h)) (.string (st (Hd.nm h))) (.slice a n c)) (λ b=>w.heap.size<=b) ar (.slice a n c)/\r.length<rest.length)\/(false=false/\Ps .cm rest (.bad r))))
  obtain⟨wz,hwz⟩:∃ W,set6 w3 gR (.int .i64 (Hd.k h)) (.int .i64 (Hd.op h)) (.int .i64 (Hd.v h)) (.int .i64 (Hd.ln h)) (.string (st (Hd.nm h))) (.slice a n c)=W:=⟨_,rfl⟩
  have hY:=hwz
  unfold set6 at hY
  (try rw[hY])
  rw[hwz] at HDZ HMZ HEZ
  obtain⟨d0,d1,d2,d3,d4,d5⟩:=HDZ.o.cells
  refine bodyPost_ret (v:=.tuple #[exv h (.slice a n c),.bool false]) (by simp[results,Tryz.results145,go_sem,d0,d1,d2,d3,d4,d5]) rfl ?_
  exact⟨h,_,_,_,false,at2,r,rfl,HMZ.o.pat,by exact HLE.o,HMZ.o.gr,Xj HEZ.o⟩
 obtain⟨ar,hps,har,hlt⟩:∃ ar,Ps .su rest (.ok (Xb h ar) r)/\Xk w3 (TBk w gR gx) ar (.slice a n c)/\r.length<rest.length:=by
  rcases hjq.o with⟨_,h1⟩|⟨h1,_⟩
  ·exact h1
  cases h1
 have HPS:=Xj hps
 have HAR:=Xj har
 have HLT:=Xj hlt
 have HOP:=Xj (Vg K 8 11 (by omega) at2 r w3 HM3.o.pat)
 clear hps har hlt hjq x0 x1 x2 x3 x4 x5 y0 y1 y2 y3 y4 y5 g0 g1 g2 g3 g4 g5
 go_wp2_with fail
 refine HOP.o.mono ?_
 rintro e w4 ⟨at4,r4,hp4,hg4,Ha⟩
 have HM4:=Xj (HM3.o.call hp4 hg4)
 have HR4:=Xj (HR3.o.gr hg4 (by omega))
 have HX4:=Xj (HX3.o.gr hg4 (by omega))
 have hqk:=Xj (Zu HAR.o hg4 (λ b hb=>by have:=hb.1;omega))
 obtain⟨x0,x1,x2,x3,x4,x5⟩:=HX4.o.cells
 obtain⟨y0,y1,y2,y3,y4,y5⟩:=HR4.o.cells
 obtain⟨g0,g1,g2,g3,g4,g5⟩:=HR4.o.froz
 have hus:=HR4.o.lt
 have hlX4:=HX4.o.lt
 clear hp4 hg4
 rcases Ha with⟨hT,rfl,rfl,rfl⟩|⟨hT,rfl,rfl,rfl⟩
 ·have HT:=Xj hT
  obtain⟨op,hop⟩:∃ o,Zv 8 11 r=o:=⟨_,rfl⟩
  obtain⟨tn,htn⟩:∃ o,Yb r=o:=⟨_,rfl⟩
  have HLN:=Xj (And.intro hop htn)
  have HRT:Xq (r.tail.length<r.length):=Xj (Uq (by intro e;rw[e] at hT;exact hT rfl))
  have dop:(op==0)=false:=by rw[beq_eq_false_iff_ne,<- hop];exact hT
  have dop2:(op != 0)=true:=by rw[bne_iff_ne,<- hop];exact hT
  (try rw[hop])
  (try rw[htn])
  clear hT hop htn x0 x1 x2 x3 x4 x5 y0 y1 y2 y3 y4 y5 g0 g1 g2 g3 g4 g5
  go_wp2_with fail
  refine(HA.o K (at2+1) r.tail _ HM4.o.pat (by have:=HRT.o;have:=HLE.o;have:=HMm.o;omega)).mono ?_
  rintro e w7 ⟨h2,a2,n2,c2,ok2,at7,r7,rfl,hp7,He,hg7,hI⟩
  have hs7:=hg7.size
  have HM7:=Xj ((HM4.o.call hp7 hg7).al (.cells (ecs h2 (.slice a2 n2 c2)) 37))
  have HR7:=Xj ((HR4.o.gr hg7 (by omega)).al (.cells (ecs h2 (.slice a2 n2 c2)) 37))
  have HX7:=Xj ((HX4.o.gr hg7 (by omega)).al (.cells (ecs h2 (.slice a2 n2 c2)) 37))
  have HY7:=Xj (Lc.new w7 h2 (.slice a2 n2 c2))
  have hqh:=Xj (Xg (Yr (.cells (ecs h2 (.slice a2 n2 c2)) 37) (Zu hqk.o hg7 (λ b hb=>by have:=hb.1;omega))) (λ b hb _=>hb.1))
  have hqz:Xq ((ok2=true/\∃ ar2,Ps .su r.tail (.ok (Xb h2 ar2) r7)/\Xk (w7.alloc (.cells (ecs h2 (.slice a2 n2 c2)) 37)) (TBk w gR gx) ar2 (.slice a2 n2 c2)/\r7.length<r.tail.length)\/(ok2=false/\Ps .su r.tail (.bad r7))):=Xj (by
   rcases hI.o with⟨h1,ar2,h2',h3,h4⟩|hr
   ·exact .inl ⟨h1,ar2,h2',Xg (Yr _ h3) (λ b hb _=>⟨by have:=hb.1;omega,by have:=hb.1;omega,by have:=hb.1;omega⟩),h4⟩
   exact .inr hr)
  clear hI hp7 hg7 HM4 HR4 HX4 hqk
  go_upto_region 7 with fail
  obtain⟨w8,hw8⟩:∃ W,w7.alloc (.cells (ecs h2 (.slice a2 n2 c2)) 37)=W:=⟨_,rfl⟩
  obtain⟨gy,hgy⟩:∃ x,w7.heap.size=x:=⟨_,rfl⟩
  (try rw[show w7.alloc (.cells #[.int .i64 h2.k,.int .i64 h2.op,.int .i64 h2.v,.int .i64 h2.ln,.string (st h2.nm),.slice a2 n2 c2] 37)=w8 from hw8])
  rw[hw8] at HM7 HR7 HX7 HY7 hqh hqz
  rw[hgy] at HY7 hs7
  (try rw[hgy])
  clear hw8 hgy
  obtain⟨q0,q1,q2,q3,q4,q5⟩:=HX7.o.cells
  obtain⟨v0,v1,v2,v3,v4,v5⟩:=HY7.o.cells
  obtain⟨k0,k1,k2,k3,k4,k5⟩:=HR7.o.froz
  obtain⟨u0,u1,u2,u3,u4,u5⟩:=HR7.o.cells
  have hwv:=HX7.o.lt
  have hwk:=HY7.o.lt
  have hfy:=HR7.o.lt
  have hZ:∀ W,W=(set6 w8 gR (.int .i64 6) (.int .i64 op) (.int .i64 0) (.int .i64 tn) (.string { data := #[] }) (.slice (some ⟨w8.heap.size,0,none⟩) 2 2)).alloc (.cells #[.int .i64 h.k,.int .i64 h.op,.int .i64 h.v,.int .i64 h.ln,.string (st h.nm),.slice a n c,.int .i64 h2.k,.int .i64 h2.op,.int .i64 h2.v,.int .i64 h2.ln,.string (st h2.nm),.slice a2 n2 c2] 37) ->
    Lc W gR ⟨6,op,0,tn,[]⟩ (.slice (some ⟨w8.heap.size,0,none⟩) 2 2)/\EP K .cm rest w (.returned (.tuple #[exv ⟨6,op,0,tn,[]⟩ (.slice (some ⟨w8.heap.size,0,none⟩) 2 2),.bool ok2])) W:=λ W hW=>by
   rw[<- Zx _ HR7.o.lt] at hW
   have hA:=HR7.o.al (.cells #[.int .i64 h.k,.int .i64 h.op,.int .i64 h.v,.int .i64 h.ln,.string (st h.nm),.slice a n c,.int .i64 h2.k,.int .i64 h2.op,.int .i64 h2.v,.int .i64 h2.ln,.string (st h2.nm),.slice a2 n2 c2] 37)
   subst hW
   have hms:=(HM7.o.al (.cells #[.int .i64 h.k,.int .i64 h.op,.int .i64 h.v,.int .i64 h.ln,.string (st h.nm),.slice a n c,.int .i64 h2.k,.int .i64 h2.op,.int .i64 h2.v,.int .i64 h2.ln,.string (st h2.nm),.slice a2 n2 c2] 37)).s6 (b:=gR) (by omega) (.int .i64 6) (.int .i64 op) (.int .i64 0) (.int .i64 tn) (.string { data := #[] }) (.slice (some ⟨w8.heap.size,0,none⟩) 2 2)
   refine⟨hA.s6 ⟨6,op,0,tn,[]⟩ (.slice (some ⟨w8.heap.size,0,none⟩) 2 2),⟨6,op,0,tn,[]⟩,_,_,_,ok2,at7,r7,rfl,hms.pat,by have:=HRT.o;have:=HLE.o;omega,hms.gr,Xj ?_⟩
   rcases hqz.o with⟨h1,ar2,h2',h3,h4⟩|⟨h1,h2'⟩
   ·refine .inl ⟨h1,(Xb h ar).app (Xb h2 ar2),?_,?_,by have:=HRT.o;have:=HLT.o;omega⟩
    ·have:=Ps.cm_two HPS.o HT.o h2'
     rw[HLN.o.1,HLN.o.2] at this
     exact this
    exact Xg (Yz (Vj (Q:=TBk w gR gx) hqh.o h3 (λ b hb _=>hb) ⟨by have:=HM7.o.gr.size;omega,by have:=HR7.o.lt;omega,by have:=HX7.o.lt;omega⟩) (λ b hb=>hb.2.1)) (λ b hb _=>hb.1)
   exact .inr ⟨h1,Ps.cm_two_bad HPS.o HT.o h2'⟩
  have hjg:=Xj hZ
  clear hZ
  go_wp2_with fail
  obtain⟨wz,hwz⟩:∃ W,(set6 w8 gR (.int .i64 6) (.int .i64 op) (.int .i64 0) (.int .i64 tn) (.string { data := #[] }) (.slice (some ⟨w8.heap.size,0,none⟩) 2 2)).alloc (.cells #[.int .i64 h.k,.int .i64 h.op,.int .i64 h.v,.int .i64 h.ln,.string (st h.nm),.slice a n c,.int .i64 h2.k,.int .i64 h2.op,.int .i64 h2.v,.int .i64 h2.ln,.string (st h2.nm),.slice a2 n2 c2] 37)=W:=⟨_,rfl⟩
  have hY:=hwz
  unfold set6 at hY
  (try rw[hY])
  obtain⟨hd,hep⟩:=hjg.o wz hwz.symm
  obtain⟨d0,d1,d2,d3,d4,d5⟩:=hd.cells
  refine bodyPost_ret (v:=.tuple #[exv ⟨6,op,0,tn,[]⟩ (.slice (some ⟨w8.heap.size,0,none⟩) 2 2),.bool ok2]) (by simp[results,Tryz.results145,go_sem,d0,d1,d2,d3,d4,d5]) rfl ?_
  exact hep
 have HZ:Xq (Ps .cm rest (.ok (Xb h ar) r4)):=Xj (Ps.cm_end HPS.o hT)
 have HRf:=HR4
 have HMf:=HM4
 clear hT
 go_wp2_with fail
 have HDZ:=Xj (HRf.o.s6 h (.slice a n c))
 have HMZ:=Xj (HMf.o.s6 (b:=gR) (by have:=HGR.o;omega) (.int .i64 (Hd.k h)) (.int .i64 (Hd.op h)) (.int .i64 (Hd.v h)) (.int .i64 (Hd.ln h)) (.string (st (Hd.nm h))) (.slice a n c))
 have HEZ:=Xj (Xg (Yz (v0:=.int .i64 (Hd.k h)) (v1:=.int .i64 (Hd.op h)) (v2:=.int .i64 (Hd.v h)) (v3:=.int .i64 (Hd.ln h)) (v4:=.string (st (Hd.nm h))) (v5:=.slice a n c) hqk.o (λ b hb=>hb.2.1)) (Q:=λ b=>w.heap.size<=b) (λ b hb _=>hb.1))
 obtain⟨wz,hwz⟩:∃ W,set6 w4 gR (.int .i64 (Hd.k h)) (.int .i64 (Hd.op h)) (.int .i64 (Hd.v h)) (.int .i64 (Hd.ln h)) (.string (st (Hd.nm h))) (.slice a n c)=W:=⟨_,rfl⟩
 have hY:=hwz
 unfold set6 at hY
 (try rw[hY])
 rw[hwz] at HDZ HMZ HEZ
 obtain⟨d0,d1,d2,d3,d4,d5⟩:=HDZ.o.cells
 refine bodyPost_ret (v:=.tuple #[exv h (.slice a n c),.bool true]) (by simp[results,Tryz.results145,go_sem,d0,d1,d2,d3,d4,d5]) rfl ?_
 exact⟨h,_,_,_,true,at4,r4,rfl,HMZ.o.pat,HLE.o,HMZ.o.gr,Xj (.inl ⟨rfl,ar,HZ.o,HEZ.o,HLT.o⟩)⟩
theorem Pg (m:Nat) (hC:CE 206 .ca m) (hU:∀ j,j<m->CE 202 .un j):CE 202 .un m:=by
 intro K at_ rest w hP hm
 have HM1:=Xj ((MS.init hP).al zex)
 have HR1:=Xj (Lc.zero w)
 have HC:=Xj hC
 have HMm:=Xj hm
 have HU:Xq (∀ (w2:World),PAt w2 K (at_+1) rest.tail->rest.tail.length<m->Calls Tryz.prog 202 #[.pointer (some ⟨K.g,0,none⟩)] w2 (EP K .un rest.tail w2)):=Xj (λ w2 hp hl=>hU _ hl K (at_+1) rest.tail w2 hp (Nat.le_refl _))
 obtain⟨⟨tk,tn,tv,tt⟩,r0,hr0⟩:=hP.en.cons
 have HRT:Xq (rest.tail.length<rest.length):=Xj (by rw[hr0];simp)
 have HLN:Xq (Yb rest=tn):=Xj (by rw[hr0];rfl)
 have HX0:=Xj hr0
 clear hC hU hP hm hr0
 go_enter Tryz.func202,Tryz.ntmps202
 go_upto_region 1 with fail
 obtain⟨w1,hw1⟩:∃ W,w.alloc zex=W:=⟨_,rfl⟩
 obtain⟨gR,hgR⟩:∃ x,w.heap.size=x:=⟨_,rfl⟩
 (try rw[show w.alloc (.cells #[.int .i64 0,.int .i64 0,.int .i64 0,.int .i64 0,.string { data := #[] },.slice none 0 0] 37)=w1 from hw1])
 rw[hw1] at HM1 HR1
 rw[hgR] at HR1
 (try rw[hgR])
 have HGR:=Xj hgR
 have HS1:Xq (w1.heap.size=gR+1):=Xj (by rw[<- hw1,<- hgR];simp)
 clear hw1 hgR
 have HLO:=Xj (Zn K at_ tk tn tv tt r0 w1 (HX0.o▸HM1.o.pat))
 have hfd:∀ W:World,(Instr.field 103 (.agg #[.int .i64 tk,.int .i64 tn,.int .i64 tv,.string (st tt)]) 1).run Tryz.prog W=.ok (.int .i64 tn) W:=λ _=>by kernel_rfl
 go_wp2_with fail
 refine HLO.o.mono ?_
 rintro e w2 ⟨rfl,hb2⟩
 have HM2:=Xj (HM1.o.be hb2)
 have HR2:=Xj (HR1.o.be hb2)
 clear hb2 HM1 HR1
 go_wp2_with fail
 refine(Xn K at_ rest [45] _ HM2.o.pat).mono ?_
 rintro e w3 ⟨at3,r3,rfl,hp3,hg3,hc3⟩
 have HM3:=Xj (HM2.o.call hp3 hg3)
 have HR3:=Xj (HR2.o.gr hg3 (by have:=HM2.o.gl;have:=HGR.o;omega))
 clear hp3 hg3 HM2 HR2
 rcases hc3 with⟨hT,rfl,rfl⟩|⟨hT,rfl,rfl⟩
 ·have HT:=Xj hT
  rw[hT]
  clear hT
  have hxj:=HM3
  have hyx:=HR3
  have hU:=HU.o
  go_wp2_with fail
  refine(hU _ hxj.o.pat (by have:=HRT.o;have:=HMm.o;omega)).mono ?_
  rintro e w7 ⟨h,a,n,c,ok,at7,r7,rfl,hp7,He,hg7,hI⟩
  have hs7:=hg7.size
  have hgl:=hxj.o.gl
  have hwb:=hxj.o.gr.size
  have HM7:=Xj ((hxj.o.call hp7 hg7).al (.cells (ecs h (.slice a n c)) 37))
  have HR7:=Xj ((hyx.o.gr hg7 (by have:=HGR.o;omega)).al (.cells (ecs h (.slice a n c)) 37))
  have HY7:=Xj (Lc.new w7 h (.slice a n c))
  have HWB:Xq (gR<w3.heap.size):=Xj hyx.o.lt
  have hqz:Xq ((ok=true/\∃ ar,Ps .un rest.tail (.ok (Xb h ar) r7)/\Xk (w7.alloc (.cells (ecs h (.slice a n c)) 37)) (TBk w gR w7.heap.size) ar (.slice a n c)/\r7.length<rest.tail.length)\/(ok=false/\Ps .un rest.tail (.bad r7))):=Xj (by
   rcases hI.o with⟨h1,ar2,h2',h3,h4⟩|hr
   ·exact .inl ⟨h1,ar2,h2',Xg (Yr _ h3) (λ b hb _=>⟨by have:=hb.1;omega,by have:=hb.1;have:=HWB.o;omega,hb.2⟩),h4⟩
   exact .inr hr)
  clear hI hp7 hg7
  go_upto_region 8 with fail
  obtain⟨w8,hw8⟩:∃ W,w7.alloc (.cells (ecs h (.slice a n c)) 37)=W:=⟨_,rfl⟩
  obtain⟨gx,hgx⟩:∃ x,w7.heap.size=x:=⟨_,rfl⟩
  (try rw[show w7.alloc (.cells #[.int .i64 h.k,.int .i64 h.op,.int .i64 h.v,.int .i64 h.ln,.string (st h.nm),.slice a n c] 37)=w8 from hw8])
  rw[hw8] at HM7 HR7 HY7 hqz
  rw[hgx] at HY7 hqz hs7
  (try rw[hgx])
  clear hw8 hgx
  obtain⟨v0,v1,v2,v3,v4,v5⟩:=HY7.o.cells
  obtain⟨k0,k1,k2,k3,k4,k5⟩:=HR7.o.froz
  obtain⟨u0,u1,u2,u3,u4,u5⟩:=HR7.o.cells
  have hwk:=HY7.o.lt
  have hfy:=HR7.o.lt
  have hzr:=HGR.o
  have hZ:∀ W,W=(set6 w8 gR (.int .i64 5) (.int .i64 1) (.int .i64 0) (.int .i64 tn) (.string { data := #[] }) (.slice (some ⟨w8.heap.size,0,none⟩) 1 1)).alloc (.cells #[.int .i64 h.k,.int .i64 h.op,.int .i64 h.v,.int .i64 h.ln,.string (st h.nm),.slice a n c] 37) ->
    Lc W gR ⟨5,1,0,tn,[]⟩ (.slice (some ⟨w8.heap.size,0,none⟩) 1 1)/\EP K .un rest w (.returned (.tuple #[exv ⟨5,1,0,tn,[]⟩ (.slice (some ⟨w8.heap.size,0,none⟩) 1 1),.bool ok])) W:=λ W hW=>by
   rw[<- Zx _ HR7.o.lt] at hW
   have hA:=HR7.o.al (.cells #[.int .i64 h.k,.int .i64 h.op,.int .i64 h.v,.int .i64 h.ln,.string (st h.nm),.slice a n c] 37)
   subst hW
   have hms:=(HM7.o.al (.cells #[.int .i64 h.k,.int .i64 h.op,.int .i64 h.v,.int .i64 h.ln,.string (st h.nm),.slice a n c] 37)).s6 (b:=gR) (by omega) (.int .i64 5) (.int .i64 1) (.int .i64 0) (.int .i64 tn) (.string { data := #[] }) (.slice (some ⟨w8.heap.size,0,none⟩) 1 1)
   refine⟨hA.s6 ⟨5,1,0,tn,[]⟩ (.slice (some ⟨w8.heap.size,0,none⟩) 1 1),⟨5,1,0,tn,[]⟩,_,_,_,ok,at7,r7,rfl,hms.pat,by have:=HRT.o;omega,hms.gr,Xj ?_⟩
   rcases hqz.o with⟨h1,ar,h2,h3,h4⟩|⟨h1,h2⟩
   ·refine .inl ⟨h1,Xb h ar,?_,?_,by have:=HRT.o;omega⟩
    ·have:=Ps.un_neg HT.o h2
     rw[HLN.o] at this
     exact this
    exact Xg (Yz (Vq (Q:=TBk w gR gx) h3 (λ b hb _=>hb) ⟨by have:=HM7.o.gr.size;omega,by have:=HR7.o.lt;omega,by have:=HY7.o.lt;omega⟩) (λ b hb=>hb.2.1)) (λ b hb _=>hb.1)
   exact .inr ⟨h1,Ps.un_neg_bad HT.o h2⟩
  have hjg:=Xj hZ
  clear hZ
  go_wp2_with fail
  obtain⟨wz,hwz⟩:∃ W,(set6 w8 gR (.int .i64 5) (.int .i64 1) (.int .i64 0) (.int .i64 tn) (.string { data := #[] }) (.slice (some ⟨w8.heap.size,0,none⟩) 1 1)).alloc (.cells #[.int .i64 h.k,.int .i64 h.op,.int .i64 h.v,.int .i64 h.ln,.string (st h.nm),.slice a n c] 37)=W:=⟨_,rfl⟩
  have hY:=hwz
  unfold set6 at hY
  (try rw[hY])
  obtain⟨hd,hep⟩:=hjg.o wz hwz.symm
  obtain⟨d0,d1,d2,d3,d4,d5⟩:=hd.cells
  refine bodyPost_ret (v:=.tuple #[exv ⟨5,1,0,tn,[]⟩ (.slice (some ⟨w8.heap.size,0,none⟩) 1 1),.bool ok]) (by simp[results,Tryz.results202,go_sem,d0,d1,d2,d3,d4,d5]) rfl ?_
  exact hep
 have HN0:=Xj hT
 rw[hT]
 clear hT
 go_wp2_with fail
 refine(Xn K at3 r3 [33] _ HM3.o.pat).mono ?_
 rintro e w4 ⟨at4,r4,rfl,hp4,hg4,hc4⟩
 have HM4:=Xj (HM3.o.call hp4 hg4)
 have HR4:=Xj (HR3.o.gr hg4 (by have:=HM3.o.gl;have:=HGR.o;omega))
 clear hp4 hg4 HM3 HR3
 rcases hc4 with⟨hT,rfl,rfl⟩|⟨hT,rfl,rfl⟩
 ·have HT:=Xj hT
  rw[hT]
  clear hT
  have hxj:=HM4
  have hyx:=HR4
  have hU:=HU.o
  go_wp2_with fail
  refine(hU _ hxj.o.pat (by have:=HRT.o;have:=HMm.o;omega)).mono ?_
  rintro e w7 ⟨h,a,n,c,ok,at7,r7,rfl,hp7,He,hg7,hI⟩
  have hs7:=hg7.size
  have hgl:=hxj.o.gl
  have hwb:=hxj.o.gr.size
  have HM7:=Xj ((hxj.o.call hp7 hg7).al (.cells (ecs h (.slice a n c)) 37))
  have HR7:=Xj ((hyx.o.gr hg7 (by have:=HGR.o;omega)).al (.cells (ecs h (.slice a n c)) 37))
  have HY7:=Xj (Lc.new w7 h (.slice a n c))
  have HWB:Xq (gR<w4.heap.size):=Xj hyx.o.lt
  have hqz:Xq ((ok=true/\∃ ar,Ps .un r3.tail (.ok (Xb h ar) r7)/\Xk (w7.alloc (.cells (ecs h (.slice a n c)) 37)) (TBk w gR w7.heap.size) ar (.slice a n c)/\r7.length<r3.tail.length)\/(ok=false/\Ps .un r3.tail (.bad r7))):=Xj (by
   rcases hI.o with⟨h1,ar2,h2',h3,h4⟩|hr
   ·exact .inl ⟨h1,ar2,h2',Xg (Yr _ h3) (λ b hb _=>⟨by have:=hb.1;omega,by have:=hb.1;have:=HWB.o;omega,hb.2⟩),h4⟩
   exact .inr hr)
  clear hI hp7 hg7
  go_upto_region 8 with fail
  obtain⟨w8,hw8⟩:∃ W,w7.alloc (.cells (ecs h (.slice a n c)) 37)=W:=⟨_,rfl⟩
  obtain⟨gx,hgx⟩:∃ x,w7.heap.size=x:=⟨_,rfl⟩
  (try rw[show w7.alloc (.cells #[.int .i64 h.k,.int .i64 h.op,.int .i64 h.v,.int .i64 h.ln,.string (st h.nm),.slice a n c] 37)=w8 from hw8])
  rw[hw8] at HM7 HR7 HY7 hqz
  rw[hgx] at HY7 hqz hs7
  (try rw[hgx])
  clear hw8 hgx
  obtain⟨v0,v1,v2,v3,v4,v5⟩:=HY7.o.cells
  obtain⟨k0,k1,k2,k3,k4,k5⟩:=HR7.o.froz
  obtain⟨u0,u1,u2,u3,u4,u5⟩:=HR7.o.cells
  have hwk:=HY7.o.lt
  have hfy:=HR7.o.lt
  have hzr:=HGR.o
  have hZ:∀ W,W=(set6 w8 gR (.int .i64 5) (.int .i64 2) (.int .i64 0) (.int .i64 tn) (.string { data := #[] }) (.slice (some ⟨w8.heap.size,0,none⟩) 1 1)).alloc (.cells #[.int .i64 h.k,.int .i64 h.op,.int .i64 h.v,.int .i64 h.ln,.string (st h.nm),.slice a n c] 37) ->
    Lc W gR ⟨5,2,0,tn,[]⟩ (.slice (some ⟨w8.heap.size,0,none⟩) 1 1)/\EP K .un r3 w (.returned (.tuple #[exv ⟨5,2,0,tn,[]⟩ (.slice (some ⟨w8.heap.size,0,none⟩) 1 1),.bool ok])) W:=λ W hW=>by
   rw[<- Zx _ HR7.o.lt] at hW
   have hA:=HR7.o.al (.cells #[.int .i64 h.k,.int .i64 h.op,.int .i64 h.v,.int .i64 h.ln,.string (st h.nm),.slice a n c] 37)
   subst hW
   have hms:=(HM7.o.al (.cells #[.int .i64 h.k,.int .i64 h.op,.int .i64 h.v,.int .i64 h.ln,.string (st h.nm),.slice a n c] 37)).s6 (b:=gR) (by omega) (.int .i64 5) (.int .i64 2) (.int .i64 0) (.int .i64 tn) (.string { data := #[] }) (.slice (some ⟨w8.heap.size,0,none⟩) 1 1)
   refine⟨hA.s6 ⟨5,2,0,tn,[]⟩ (.slice (some ⟨w8.heap.size,0,none⟩) 1 1),⟨5,2,0,tn,[]⟩,_,_,_,ok,at7,r7,rfl,hms.pat,by have:=HRT.o;omega,hms.gr,Xj ?_⟩
   rcases hqz.o with⟨h1,ar,h2,h3,h4⟩|⟨h1,h2⟩
   ·refine .inl ⟨h1,Xb h ar,?_,?_,by have:=HRT.o;omega⟩
    ·have:=Ps.un_not HN0.o HT.o h2
     rw[HLN.o] at this
     exact this
    exact Xg (Yz (Vq (Q:=TBk w gR gx) h3 (λ b hb _=>hb) ⟨by have:=HM7.o.gr.size;omega,by have:=HR7.o.lt;omega,by have:=HY7.o.lt;omega⟩) (λ b hb=>hb.2.1)) (λ b hb _=>hb.1)
   exact .inr ⟨h1,Ps.un_not_bad HN0.o HT.o h2⟩
  have hjg:=Xj hZ
  clear hZ
  go_wp2_with fail
  obtain⟨wz,hwz⟩:∃ W,(set6 w8 gR (.int .i64 5) (.int .i64 2) (.int .i64 0) (.int .i64 tn) (.string { data := #[] }) (.slice (some ⟨w8.heap.size,0,none⟩) 1 1)).alloc (.cells #[.int .i64 h.k,.int .i64 h.op,.int .i64 h.v,.int .i64 h.ln,.string (st h.nm),.slice a n c] 37)=W:=⟨_,rfl⟩
  have hY:=hwz
  unfold set6 at hY
  (try rw[hY])
  obtain⟨hd,hep⟩:=hjg.o wz hwz.symm
  obtain⟨d0,d1,d2,d3,d4,d5⟩:=hd.cells
  refine bodyPost_ret (v:=.tuple #[exv ⟨5,2,0,tn,[]⟩ (.slice (some ⟨w8.heap.size,0,none⟩) 1 1),.bool ok]) (by simp[results,Tryz.results202,go_sem,d0,d1,d2,d3,d4,d5]) rfl ?_
  exact hep
 have HN1:=Xj hT
 rw[hT]
 clear hT
 go_wp2_with fail
 refine(HC.o K _ _ _ HM4.o.pat HMm.o).mono ?_
 rintro e w7 ⟨h,a,n,c,ok,at7,r7,rfl,hp7,He,hg7,hI⟩
 have hwb:=HM4.o.gr.size
 have HWB:Xq (gR<w4.heap.size):=Xj HR4.o.lt
 have HMf:=Xj (HM4.o.call hp7 hg7)
 have HRf:=Xj (HR4.o.gr hg7 (by have:=HM4.o.gl;have:=HGR.o;omega))
 have HRS:=Xj hI.o
 have HL7:=Xj He
 clear hI hp7 hg7 He
 obtain⟨k0,k1,k2,k3,k4,k5⟩:=HRf.o.froz
 obtain⟨u0,u1,u2,u3,u4,u5⟩:=HRf.o.cells
 have hfy:=HRf.o.lt
 have hzr:=HGR.o
 go_wp2_with fail
 have HDZ:=Xj (HRf.o.s6 h (.slice a n c))
 have HMZ:=Xj (HMf.o.s6 (b:=gR) (by have:=HGR.o;omega) (.int .i64 (Hd.k h)) (.int .i64 (Hd.op h)) (.int .i64 (Hd.v h)) (.int .i64 (Hd.ln h)) (.string (st (Hd.nm h))) (.slice a n c))
 have HEZ:=Xj (show (ok=true/\∃ ar,Ps .un r4 (.ok (Xb h ar) r7)/\Xk (set6 w7 gR (.int .i64 (Hd.k h)) (.int .i64 (Hd.op h)) (.int .i64 (Hd.v h)) (.int .i64 (Hd.ln h)) (.string (st (Hd.nm h))) (.slice a n c)) (λ b=>w.heap.size<=b) ar (.slice a n c)/\r7.length<r4.length)\/(ok=false/\Ps .un r4 (.bad r7)) from by
     rcases HRS.o with⟨h1,ar,h2,h3,h4⟩|⟨h1,h2⟩
     ·exact .inl ⟨h1,ar,Ps.un_ca HN0.o HN1.o h2,Xg (Yz h3 (λ b hb=>by have:=HWB.o;omega)) (λ b hb _=>by omega),h4⟩
     exact .inr ⟨h1,Ps.un_ca HN0.o HN1.o h2⟩)
 obtain⟨wz,hwz⟩:∃ W,set6 w7 gR (.int .i64 (Hd.k h)) (.int .i64 (Hd.op h)) (.int .i64 (Hd.v h)) (.int .i64 (Hd.ln h)) (.string (st (Hd.nm h))) (.slice a n c)=W:=⟨_,rfl⟩
 have hY:=hwz
 unfold set6 at hY
 (try rw[hY])
 rw[hwz] at HDZ HMZ HEZ
 obtain⟨d0,d1,d2,d3,d4,d5⟩:=HDZ.o.cells
 refine bodyPost_ret (v:=.tuple #[exv h (.slice a n c),.bool ok]) (by simp[results,Tryz.results202,go_sem,d0,d1,d2,d3,d4,d5]) rfl ?_
 exact⟨h,_,_,_,ok,at7,r7,rfl,HMZ.o.pat,HL7.o,HMZ.o.gr,Xj HEZ.o⟩
end Go.Proofs.YtldgghnjminhiaaGreatDoor
