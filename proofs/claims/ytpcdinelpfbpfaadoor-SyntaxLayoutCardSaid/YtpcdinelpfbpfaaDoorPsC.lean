/-
  WALK of the implementation's parser: called. (Filled in from a template of this repo, printed by mk_psc.py.)
-/
import Derived.Test.YtpcdinelpfbpfaaDoorPsX
import Derived.OrdersHeld
import Derived.Deep.RegionLaw
namespace Go.Proofs.YtpcdinelpfbpfaaDoor
open Go.ChangeShapes Go.WideShapes Go.ChangeAt Go.RowKit
set_option linter.unusedVariables false
set_option linter.unusedSimpArgs false

structure D5 (K:PC) (w:World) (gR gx B at2:Nat) (r:List Tk) (h:Hd) (sl:Value) (ar:Fo) (wx:World):Prop where
 ms:MS K w wx at2 r
 rc:Lc wx gR zhd (.slice none 0 0)
 xc:Lc wx gx h sl
 ar:ArgsAt wx (fun b=>TBk w gR gx b/\b<B) ar sl
 bs:B<=wx.heap.size
section
variable {K:PC} {w wx wy:World} {gR gx B at2:Nat} {r:List Tk} {h:Hd} {sl:Value} {ar:Fo}
theorem D5.be (d:D5 K w gR gx B at2 r h sl ar wx) (hb:Below wx.heap.size wx wy):D5 K w gR gx B at2 r h sl ar wy :=
 ⟨d.ms.be hb,d.rc.be hb,d.xc.be hb,d.ar.keep (fun b hP hlt=>⟨hb.block b hlt,hP⟩) hb.size,Nat.le_trans d.bs hb.size⟩
end
structure CI (K:PC) (w:World) (gR gx gc:Nat) (h:Hd) (sl:Value) (hd:Hd) (v:Value) (nn:Nat) (xs:List Value) (at2:Nat) (r:List Tk) (wx:World):Prop where
 ms:MS K w wx at2 r
 rc:Lc wx gR zhd (.slice none 0 0)
 xc:Lc wx gx h sl
 cc:Lc wx gc hd v
 own:wx.ownsRow w.heap.size 40 6 v nn xs
 ne:gc≠gR/\gc≠gx/\w.heap.size<=gc/\w.heap.size<=gR/\w.heap.size<=gx/\gR≠gx/\v.ownBlock≠some gR/\v.ownBlock≠some gx/\v.ownBlock≠some gc
def CF (w:World) (gR gx gc:Nat) (v:Value) (nn:Nat) (xs:List Value) (F:Fo) (wx:World):Prop:=FoAt wx (fun b=>TBk w gR gx b/\b≠gc/\some b≠v.ownBlock) F xs/\F.len=nn
theorem D5.ci {K:PC} {w wx:World} {gR gx B gc gs at2:Nat} {r:List Tk} {h:Hd} {sl:Value} {ar:Fo} (d:D5 K w gR gx B at2 r h sl ar wx) (hs:Lc wx gs h sl) (hc:Lc wx gc zhd (.slice none 0 0)) (ln:Int)
  (hB1:B<=gc) (hB2:B<=gs) (h1:w.heap.size<=gR) (h2:gR<gx) (h3:gx<gs) (h4:gx<gc) (h5:gs≠gc) :
  CI K w gR gx gc h sl ⟨10,0,0,ln,[]⟩ (.slice (some ⟨gs,0,none⟩) 1 1) 1 (hdc h sl) at2 r (set6 wx gc (.int .i64 10) (.int .i64 0) (.int .i64 0) (.int .i64 ln) (.string { data := #[] }) (.slice (some ⟨gs,0,none⟩) 1 1)) /\
  CF w gR gx gc (.slice (some ⟨gs,0,none⟩) 1 1) 1 (hdc h sl) (one1 h ar) (set6 wx gc (.int .i64 10) (.int .i64 0) (.int .i64 0) (.int .i64 ln) (.string { data := #[] }) (.slice (some ⟨gs,0,none⟩) 1 1)):=by
 refine⟨⟨d.ms.s6 (by omega) _ _ _ _ _ _,d.rc.s6o (by omega),d.xc.s6o (by omega),hc.s6 ⟨10,0,0,ln,[]⟩ _,?_,by omega,by omega,by omega,h1,by omega,by omega,?_,?_,?_⟩,?_,rfl⟩
 ·exact⟨by simp [hdc],.inr ⟨gs,1,_,rfl,by omega,hs.s6o (by omega),Nat.le_refl _,by simp [maxLen],by simp,by simp [hdc]⟩⟩
 ·show some gs≠some gR;simp;omega
 ·show some gs≠some gx;simp;omega
 ·show some gs≠some gc;simp;omega
 ·exact ArgsAt.one (args_s6 (args_mono d.ar (fun b hb _=>⟨hb.1,by have:=hb.2;omega,by show some b≠some gs;simp;have:=hb.2;omega⟩)) (fun b hb=>hb.2.1))
section
variable {K:PC} {w wx wy:World} {gR gx gc at2 at3:Nat} {r r3:List Tk} {h:Hd} {sl:Value} {hd:Hd} {v:Value} {nn:Nat} {xs:List Value} {F:Fo}
theorem CI.call (k:CI K w gR gx gc h sl hd v nn xs at2 r wx) (ln:Int) (nm:Bt) :
  CI K w gR gx gc h sl ⟨9,0,0,ln,nm⟩ (.slice none 0 0) 0 [] at2 r (set6 wx gc (.int .i64 9) (.int .i64 0) (.int .i64 0) (.int .i64 ln) (.string (st nm)) (.slice none 0 0)) :=
 ⟨k.ms.s6 k.ne.2.2.1 _ _ _ _ _ _,k.rc.s6o (by have:=k.ne.1;omega),k.xc.s6o (by have:=k.ne.2.1;omega),k.cc.s6 ⟨9,0,0,ln,nm⟩ _,World.ownsRow_nil _ _ _ _,k.ne.1,k.ne.2.1,k.ne.2.2.1,k.ne.2.2.2.1,k.ne.2.2.2.2.1,k.ne.2.2.2.2.2.1,(fun e=>nomatch e),(fun e=>nomatch e),(fun e=>nomatch e)⟩
theorem CI.gr (k:CI K w gR gx gc h sl hd v nn xs at2 r wx) (hg:wx.grownBy wy (some K.g)) (hp:PAt wy K at3 r3):CI K w gR gx gc h sl hd v nn xs at3 r3 wy :=
 have hl:=k.ms.gl
 ⟨k.ms.call hp hg,k.rc.gr hg (by have:=k.ne.2.2.2.1;omega),k.xc.gr hg (by have:=k.ne.2.2.2.2.1;omega),k.cc.gr hg (by have:=k.ne.2.2.1;omega),own_grown k.own hg hl,k.ne⟩
theorem CI.al (k:CI K w gR gx gc h sl hd v nn xs at2 r wx) (o:Obj):CI K w gR gx gc h sl hd v nn xs at2 r (wx.alloc o) :=
 ⟨k.ms.al o,k.rc.al o,k.xc.al o,k.cc.al o,k.own.alloc o,k.ne⟩
theorem CI.s6n {g:Nat} {v0 v1 v2 v3 v4 v5:Value} (k:CI K w gR gx gc h sl hd v nn xs at2 r wx) (h0:w.heap.size<=g) (h1:gR≠g) (h2:gx≠g) (h3:gc≠g) (h4:v.ownBlock≠some g):CI K w gR gx gc h sl hd v nn xs at2 r (set6 wx g v0 v1 v2 v3 v4 v5) :=
 ⟨k.ms.s6 h0 _ _ _ _ _ _,k.rc.s6o h1,k.xc.s6o h2,k.cc.s6o h3,⟨k.own.1,by
  rcases k.own.2 with h | ⟨g9,cap,cur,e1,e2,e3,e4⟩
  ·exact .inl h
  ·exact .inr ⟨g9,cap,cur,e1,e2,(other_set6 g9 (fun e=>h4 (by rw [e1,<- e];rfl))).trans e3,e4⟩⟩,k.ne⟩
theorem CF.gr (k:CF w gR gx gc v nn xs F wx) {g:Nat} (hg:wx.grownBy wy (some g)) (h0:g<w.heap.size):CF w gR gx gc v nn xs F wy :=
 ⟨k.1.keep (fun b hb hlt=>⟨hg.block b hlt (fun e=>by injection e with e;have:=hb.1.1;omega),hb⟩) hg.size,k.2⟩
theorem CF.call (w:World) (gR gx gc:Nat) (wx:World):CF w gR gx gc (.slice none 0 0) 0 [] .nil wx:=⟨rfl,rfl⟩
theorem CF.kp (k:CF w gR gx gc v nn xs F wx) {P:Nat->Prop} (hk : ∀ b,TBk w gR gx b->b≠gc->some b≠v.ownBlock->b<wx.heap.size->wy.heap[b]?=wx.heap[b]?) (hs:wx.heap.size<=wy.heap.size):CF w gR gx gc v nn xs F wy :=
 ⟨k.1.keep (fun b hb hlt=>⟨hk b hb.1 hb.2.1 hb.2.2 hlt,hb⟩) hs,k.2⟩
end
theorem MS.own {K:PC} {w wx wy:World} {at2:Nat} {r:List Tk} {row:Option Nat} (h:MS K w wx at2 r) (hg:wx.grownBy wy row) (hrow : ∀ k,row=some k->w.heap.size<=k):MS K w wy at2 r :=
 ⟨h.pat.grown hg (fun k e=>⟨by have:=hrow k e;have:=h.gl;omega,fun x hx=>by have:=hrow k e;have:=h.tl x hx;omega⟩),
  ⟨hg.os.trans h.gr.os,hg.tape.trans h.gr.tape,hg.output.trans h.gr.output,Nat.le_trans h.gr.size hg.size,fun k hk hn=>(hg.block k (by have:=h.gr.size;omega) (fun e=>by have:=hrow k e.symm;omega)).trans (h.gr.block k hk hn)⟩,h.gl,h.tl⟩
theorem Lc.grw {wx wy:World} {b:Nat} {h:Hd} {sl:Value} {row:Option Nat} (k:Lc wx b h sl) (hg:wx.grownBy wy row) (hn:row≠some b):Lc wy b h sl:=(hg.block b k.lt (fun e=>hn e.symm)).trans k
section
variable {K:PC} {w wx wy:World} {gR gx gc at2 at3:Nat} {r r3:List Tk} {h:Hd} {sl:Value} {hd:Hd} {v:Value} {nn:Nat} {xs:List Value} {F:Fo}
theorem CI.push (k:CI K w gR gx gc h sl hd v nn xs at2 r wx) {ob:Obj} {g9 c9:Nat} {w9:World} {xs9:List Value} (hg9:(wx.alloc ob).grownBy w9 v.ownBlock) (h9:v.ownBlock=some g9\/g9=(wx.alloc ob).heap.size)
  (ho:w9.ownsRow w.heap.size 40 6 (.slice (some ⟨g9,0,none⟩) (nn+1) c9) (nn+1) xs9) :
  CI K w gR gx gc h sl hd (.slice (some ⟨g9,0,none⟩) (nn+1) c9) (nn+1) xs9 at2 r (w9.setCell ⟨gc,5,none⟩ (.slice (some ⟨g9,0,none⟩) (nn+1) c9)):=by
 have ka:=k.al ob
 obtain⟨n1,n2,n3,n4,n5,n6,n7,n8,n9⟩:=k.ne
 have l1:=ka.rc.lt
 have l2:=ka.xc.lt
 have l3:=ka.cc.lt
 have q7:g9≠gR:=by rcases h9 with e | e;(intro e2;rw [e,e2] at n7;exact n7 rfl);omega
 have q8:g9≠gx:=by rcases h9 with e | e;(intro e2;rw [e,e2] at n8;exact n8 rfl);omega
 have q9:g9≠gc:=by rcases h9 with e | e;(intro e2;rw [e,e2] at n9;exact n9 rfl);omega
 refine⟨(ka.ms.own hg9 (fun k2 e=>(k.own.lt k2 e).1)).sc (p:=⟨gc,5,none⟩) n3 _,(ka.rc.grw hg9 n7).s1 (p:=⟨gc,5,none⟩) (fun e=>n1 e.symm),(ka.xc.grw hg9 n8).s1 (p:=⟨gc,5,none⟩) (fun e=>n2 e.symm),heap_setCell_same w9 gc 5 _ _ _ (ka.cc.grw hg9 n9),?_,n1,n2,n3,n4,n5,n6,?_,?_,?_⟩
 ·exact ho.kept (grownBy_set w9 gc 5 _) (.inr (by show some g9≠some gc;simp;exact q9))
 ·show some g9≠some gR;simp;exact q7
 ·show some g9≠some gx;simp;exact q8
 ·show some g9≠some gc;simp;exact q9
theorem CF.push (f:CF w gR gx gc v nn xs F wx) (k:CI K w gR gx gc h sl hd v nn xs at2 r wx) {h2:Hd} {s2:Value} {ar2:Fo} (ha:ArgsAt wx (fun b=>TBk w gR gx b/\b≠gc/\some b≠v.ownBlock) ar2 s2) {ob:Obj} {g9 c9:Nat} {w9:World} {u:Value} (hg9:(wx.alloc ob).grownBy w9 v.ownBlock) (h9:v.ownBlock=some g9\/g9=(wx.alloc ob).heap.size) :
  CF w gR gx gc (.slice (some ⟨g9,0,none⟩) (nn+1) c9) (nn+1) (xs++hdc h2 s2) (F.app (one1 h2 ar2)) (w9.setCell ⟨gc,5,none⟩ u):=by
 have hsA:(wx.alloc ob).heap.size=wx.heap.size+1:=by simp
 have hs9:=hg9.size
 have key : ∀ b,(TBk w gR gx b/\b≠gc/\some b≠v.ownBlock)->b<wx.heap.size->(w9.setCell ⟨gc,5,none⟩ u).heap[b]?=wx.heap[b]?/\(TBk w gR gx b/\b≠gc/\some b≠(Value.slice (some ⟨g9,0,none⟩) (nn+1) c9).ownBlock):=fun b hb hlt =>
  ⟨((heap_setCell_other w9 ⟨gc,5,none⟩ b u hb.2.1).trans (hg9.block b (by omega) hb.2.2)).trans (Below.heap_alloc wx ob b hlt),hb.1,hb.2.1,by
   show some b≠some g9
   rcases h9 with e | e
   ·rw [<- e];exact hb.2.2
   ·simp;omega⟩
 have hsz:wx.heap.size<=(w9.setCell ⟨gc,5,none⟩ u).heap.size:=by simp [World.setCell];omega
 exact⟨FoAt.app (f.1.keep key hsz) (ArgsAt.one (ha.keep key hsz)),by rw [Fo.len_app,f.2];rfl⟩
theorem CI.args (k:CI K w gR gx gc h sl hd v nn xs at2 r wx) (f:CF w gR gx gc v nn xs F wx):ArgsAt wx (TBk w gR gx) F v :=
 ArgsAt.of_own (e:=40) (size:=6) (base:=w.heap.size) (by rw [f.2];exact k.own) (f.1.keep (fun b hb _=>⟨rfl,hb.1⟩) (Nat.le_refl _)) (fun b hb=>⟨(k.own.lt b hb).1,fun e=>k.ne.2.2.2.2.2.2.1 (by rw [hb,e]),fun e=>k.ne.2.2.2.2.2.2.2.1 (by rw [hb,e])⟩)
theorem CI.shape (k:CI K w gR gx gc h sl hd v nn xs at2 r wx) : ∃ a c,v=.slice a nn c:=by
 rcases k.own.2 with⟨e,e2⟩ | ⟨g9,cap,cur,e,_⟩
 ·exact⟨none,0,by rw [e,e2]⟩
 ·exact⟨_,_,e⟩
end
theorem Fo.app_nil2 (F:Fo):F.app .nil=F:=by
 induction F with
 | nil=>rfl
 | cons h ar r _ ih=>show Fo.cons h ar (r.app .nil)=_;rw [ih]
theorem Fo.app_assoc2 (F G H:Fo):(F.app G).app H=F.app (G.app H):=by
 induction F with
 | nil=>rfl
 | cons h ar r _ ih=>show Fo.cons h ar ((r.app G).app H)=Fo.cons h ar (r.app (G.app H));rw [ih]
def oneIf:Value->Nat
 | .bool true=>1
 | _=>0
structure AI (K:PC) (w:World) (gR gx gc:Nat) (r0:List Tk) (h:Hd) (sl:Value) (hd:Hd) (G:Fo) (first ok:Bool) (v:Value) (nn:Nat) (xs:List Value) (at2:Nat) (r:List Tk) (wx:World):Prop where
 ci:CI K w gR gx gc h sl hd v nn xs at2 r wx
 le:r.length<=r0.tail.length
 res:(ok=true/\nn<=at2 /\ ∃ Fa,CF w gR gx gc v nn xs (G.app Fa) wx /\ ∀ z,Ps (.ag first Fa) r z->Ps (.ag true .nil) r0.tail z)\/(ok=false/\Ps (.ag true .nil) r0.tail (.bad r))
set_option maxRecDepth 100000 in
set_option maxHeartbeats 16000000 in
theorem called_of (m:Nat) (hE : ∀ j,j<m->CE 17 .ex j) (hPr:CE 91 .pr m):CE 88 .ca m:=by
 intro K at_ rest w hP hm
 have HM1:=Lib.hid ((MS.init hP).al zex)
 have HR1:=Lib.hid (Lc.zero w)
 have HMm:=Lib.hid hm
 have HE:Hid (∀ (w2:World) (at2:Nat) (r:List Tk),PAt w2 K at2 r->r.length<rest.length->Calls Tryd.prog 17 #[.pointer (some ⟨K.g,0,none⟩)] w2 (EP K .ex r w2)):=Lib.hid (fun w2 at2 r hp hl=>hE r.length (by omega) K at2 r w2 hp (Nat.le_refl _))
 have HA:=Lib.hid hPr
 obtain⟨⟨tk,tn,tv,tt⟩,r0,hr0⟩:=hP.en.cons
 have HX0:=Lib.hid hr0
 clear hE hPr hP hm hr0
 have hfd0 : ∀ W:World,(Instr.field 56 (.agg #[.int .i64 tk,.int .i64 tn,.int .i64 tv,.string (st tt)]) 0).run Tryd.prog W=.ok (.int .i64 tk) W:=fun _=>by kernel_rfl
 go_enter Tryd.func88,Tryd.ntmps88
 go_upto_region 1 with fail
 obtain⟨w1,hw1⟩ : ∃ W,w.alloc zex=W:=⟨_,rfl⟩
 obtain⟨gR,hgR⟩ : ∃ x,w.heap.size=x:=⟨_,rfl⟩
 (try rw [show w.alloc (.cells #[.int .i64 0,.int .i64 0,.int .i64 0,.int .i64 0,.string { data := #[] },.slice none 0 0] 40)=w1 from hw1])
 rw [hw1] at HM1 HR1
 rw [hgR] at HR1
 (try rw [hgR])
 have HGR:=Lib.hid hgR
 have HS1:Hid (w1.heap.size=gR+1):=Lib.hid (by rw [<- hw1,<- hgR];simp)
 clear hw1 hgR
 go_wp2_with fail
 refine(look_at K at_ tk tn tv tt r0 w1 (HX0.out▸HM1.out.pat)).mono ?_
 rintro e w0 ⟨rfl,hb2⟩
 have HM0:=Lib.hid (HM1.out.be hb2)
 have HR0:=Lib.hid (HR1.out.be hb2)
 have HS0:Hid (gR<w0.heap.size):=Lib.hid (by have:=HS1.out;have:=hb2.size;omega)
 clear hb2 HM1 HR1
 go_wp2_with fail
 refine(HA.out K at_ rest _ HM0.out.pat HMm.out).mono ?_
 rintro e w2 ⟨h,a,n,c,ok,at2,r,rfl,hp2,hle2,hg2,hres⟩
 have HM3:=Lib.hid ((HM0.out.call hp2 hg2).al (.cells (ecs h (.slice a n c)) 40))
 have HR3:=Lib.hid ((HR0.out.gr hg2 (by have:=HM0.out.gl;have:=HGR.out;omega)).al (.cells (ecs h (.slice a n c)) 40))
 have HX3:=Lib.hid (Lc.new w2 h (.slice a n c))
 have hs2:=hg2.size
 have HRES3:Hid ((ok=true /\ ∃ ar,(∀ z,Ps (.caL (kOf rest==1&&h.k==13) (one1 h ar)) r z->Ps .ca rest z)/\ArgsAt (w2.alloc (.cells (ecs h (.slice a n c)) 40)) (TBk w gR w2.heap.size) ar (.slice a n c)/\r.length<rest.length)\/(ok=false/\Ps .ca rest (.bad r))):=Lib.hid (by
  rcases hres.out with⟨h1,ar,h2,h3,h4⟩ | ⟨h1,h2⟩
  ·exact .inl ⟨h1,ar,fun z hz=>Ps.ca_ok h2 rfl hz,args_mono (args_al _ h3) (fun b hb _=>⟨by have:=hb.1;have:=HS0.out;have:=HGR.out;omega,by have:=hb.1;have:=HS0.out;omega,hb.2⟩),h4⟩
  ·exact .inr ⟨h1,Ps.ca_bad h2⟩)
 clear hres hp2 hg2
 go_upto_region 3 with fail
 obtain⟨w3,hw3⟩ : ∃ W,w2.alloc (.cells (ecs h (.slice a n c)) 40)=W:=⟨_,rfl⟩
 obtain⟨gx,hgx⟩ : ∃ x,w2.heap.size=x:=⟨_,rfl⟩
 (try rw [show w2.alloc (.cells #[.int .i64 h.k,.int .i64 h.op,.int .i64 h.v,.int .i64 h.ln,.string (st h.nm),.slice a n c] 40)=w3 from hw3])
 rw [hw3] at HM3 HR3 HX3 HRES3
 rw [hgx] at HX3 HRES3
 (try rw [hgx])
 have HGX:Hid (gR<gx):=Lib.hid (by have:=HS0.out;omega)
 have HLE:=Lib.hid hle2
 clear hw3 hgx hs2 hle2 HM0 HR0
 obtain⟨b1,hb1⟩ : ∃ b,(tk==1)=b:=⟨_,rfl⟩
 have HB1:Hid ((kOf rest==1)=b1):=Lib.hid (by rw [HX0.out];exact hb1)
 (try rw [hb1])
 clear hb1
 go_cut [4] from 19 to 24 (fun v4 wx=>v4=.bool (b1&&(h.k==13))/\wx=w3)
 case first =>
  obtain⟨x0,x1,x2,x3,x4,x5⟩:=HX3.out.cells
  cases b1
  ·go_wp2_with fail
   go_meet
   exact⟨rfl,rfl⟩
  ·go_wp2_with fail
   go_meet
   exact⟨rfl,rfl⟩
 case rest =>
 obtain⟨rfl,rfl⟩:=hcut
 obtain⟨pl,hpl⟩ : ∃ b,(b1&&(h.k==13))=b:=⟨_,rfl⟩
 rw [HB1.out,hpl] at HRES3
 (try rw [hpl])
 clear hpl
 clear HB1
 go_upto_block 0 with fail
 go_wp2_with fail
 go_loopw [4,6] (fun v4 v6 wr => ∃ (h:Hd) (a:Option Addr) (n c:Nat) (pl ok:Bool) (at2:Nat) (r:List Tk),v4=.bool pl/\v6=.bool ok/\Hid (LI K w gR gx .ca (.caL pl) rest h a n c ok at2 r wr)) (fun _ _ wr=>K.ts.length - natAt wr K.g)
 case atStart=>exact⟨h,a,n,c,pl,ok,at2,r,rfl,rfl,Lib.hid ⟨HM3.out,HR3.out,HX3.out,HLE.out,HRES3.out⟩⟩
 case round =>
  rename World=>wa
  obtain⟨h,a,n,c,pl,ok,at2,r,rfl,rfl,HL⟩:=hrel
  have hgg:=HL.out.ms.gl
  have HGRo:=HGR.out
  have HGXo:=HGX.out
  cases ok
  ·have HB:Hid (Ps .ca rest (.bad r)):=Lib.hid (by
    rcases HL.out.res with⟨h1,_⟩ | ⟨_,h1⟩
    ·cases h1
    ·exact h1)
   obtain⟨x0,x1,x2,x3,x4,x5⟩:=HL.out.xc.cells
   obtain⟨g0,g1,g2,g3,g4,g5⟩:=HL.out.rc.froz
   obtain⟨y0,y1,y2,y3,y4,y5⟩:=HL.out.rc.cells
   have hlR:=HL.out.rc.lt
   have hlX:=HL.out.xc.lt
   go_wp2_with fail
   obtain⟨wz,hwz⟩ : ∃ W,set6 wa gR (.int .i64 h.k) (.int .i64 h.op) (.int .i64 h.v) (.int .i64 h.ln) (.string (st h.nm)) (.slice a n c)=W:=⟨_,rfl⟩
   have HMZ:=Lib.hid (HL.out.ms.s6 (b:=gR) (by omega) (.int .i64 h.k) (.int .i64 h.op) (.int .i64 h.v) (.int .i64 h.ln) (.string (st h.nm)) (.slice a n c))
   have HDZ:=Lib.hid (HL.out.rc.s6 h (.slice a n c))
   have hwz2:=hwz
   unfold set6 at hwz2
   (try rw [hwz2])
   skip
   rw [hwz] at HMZ HDZ
   obtain⟨d0,d1,d2,d3,d4,d5⟩:=HDZ.out.cells
   refine bodyPost_ret (v:=.tuple #[exv h (.slice a n c),.bool false]) (by simp [results,Tryd.results88,go_sem,d0,d1,d2,d3,d4,d5]) rfl ?_
   exact⟨h,a,n,c,false,at2,r,rfl,HMZ.out.pat,HL.out.le,HMZ.out.gr,Lib.hid (.inr ⟨rfl,HB.out⟩)⟩
  ·obtain⟨ar,hcont,har,hlt⟩ : ∃ ar,(∀ z,Ps (.caL pl (one1 h ar)) r z->Ps .ca rest z)/\ArgsAt wa (TBk w gR gx) ar (.slice a n c)/\r.length<rest.length:=by
    rcases HL.out.res with⟨_,h1⟩ | ⟨h1,_⟩
    ·exact h1
    ·cases h1
   have HCO:=Lib.hid hcont
   have HAR:=Lib.hid har
   have HLT:=Lib.hid hlt
   clear hcont har hlt
   have HIS:=Lib.hid (is_any K at2 r [40] wa HL.out.ms.pat)
   go_wp2_with fail
   refine HIS.out.mono ?_
   rintro e w4 ⟨rfl,hb4⟩
   have HD:Hid (D5 K w gR gx wa.heap.size at2 r h (.slice a n c) ar w4):=Lib.hid (D5.be ⟨HL.out.ms,HL.out.rc,HL.out.xc,HAR.out.keep (fun b hb hlt=>⟨rfl,hb,hlt⟩) (Nat.le_refl _),Nat.le_refl _⟩ hb4)
   clear hb4 HIS
   cases hT:isT [40] r
   ·have HZ:Hid (Ps .ca rest (.ok (one1 h ar) r)):=Lib.hid (HCO.out _ (Ps.caL_end hT))
    clear hT
    obtain⟨x0,x1,x2,x3,x4,x5⟩:=HD.out.xc.cells
    obtain⟨g0,g1,g2,g3,g4,g5⟩:=HD.out.rc.froz
    obtain⟨y0,y1,y2,y3,y4,y5⟩:=HD.out.rc.cells
    have hlR:=HD.out.rc.lt
    have HAZ:=Lib.hid (args_s6 (v0:=.int .i64 h.k) (v1:=.int .i64 h.op) (v2:=.int .i64 h.v) (v3:=.int .i64 h.ln) (v4:=.string (st h.nm)) (v5:=.slice a n c) HD.out.ar (fun b hb=>hb.1.2.1))
    go_wp2_with fail
    obtain⟨wz,hwz⟩ : ∃ W,set6 w4 gR (.int .i64 h.k) (.int .i64 h.op) (.int .i64 h.v) (.int .i64 h.ln) (.string (st h.nm)) (.slice a n c)=W:=⟨_,rfl⟩
    have HMZ:=Lib.hid (HD.out.ms.s6 (b:=gR) (by omega) (.int .i64 h.k) (.int .i64 h.op) (.int .i64 h.v) (.int .i64 h.ln) (.string (st h.nm)) (.slice a n c))
    have HDZ:=Lib.hid (HD.out.rc.s6 h (.slice a n c))
    have hwz2:=hwz
    unfold set6 at hwz2
    (try rw [hwz2])
    skip
    rw [hwz] at HMZ HDZ HAZ
    obtain⟨d0,d1,d2,d3,d4,d5⟩:=HDZ.out.cells
    refine bodyPost_ret (v:=.tuple #[exv h (.slice a n c),.bool true]) (by simp [results,Tryd.results88,go_sem,d0,d1,d2,d3,d4,d5]) rfl ?_
    exact⟨h,a,n,c,true,at2,r,rfl,HMZ.out.pat,HL.out.le,HMZ.out.gr,Lib.hid (.inl ⟨rfl,ar,HZ.out,args_mono HAZ.out (fun b hb _=>hb.1.1),HLT.out⟩)⟩
   ·have HT:=Lib.hid hT
    have HK0:Hid (kOf r≠0):=Lib.hid (isT_k hT).2.2.1
    clear hT
    go_upto_region 5 with fail
    go_cut [7] from 30 to 35 (fun v7 wx => ∃ gc gs,v7=.pointer (some ⟨gc,0,none⟩)/\Hid (CI K w gR gx gc h (.slice a n c) ⟨10,0,0,lnOf r,[]⟩ (.slice (some ⟨gs,0,none⟩) 1 1) 1 (hdc h (.slice a n c)) at2 r wx/\CF w gR gx gc (.slice (some ⟨gs,0,none⟩) 1 1) 1 (hdc h (.slice a n c)) (one1 h ar) wx))
    case first =>
     obtain⟨⟨tk,tn,tv,tt⟩,r1,hr1⟩:=HD.out.ms.pat.en.cons
     have HLN:Hid (lnOf r=tn):=Lib.hid (by rw [hr1];rfl)
     have HR1:=Lib.hid hr1
     clear hr1
     have hfd : ∀ W:World,(Instr.field 56 (.agg #[.int .i64 tk,.int .i64 tn,.int .i64 tv,.string (st tt)]) 1).run Tryd.prog W=.ok (.int .i64 tn) W:=fun _=>by kernel_rfl
     obtain⟨q0,q1,q2,q3,q4,q5⟩:=HD.out.xc.cells
     have hlx0:=HD.out.xc.lt
     refine wp_region_held_drew (S:=(fun w'=>w'.cell? ⟨gx,0,none⟩=some (.int .i64 h.k)/\w'.cell? ⟨gx,1,none⟩=some (.int .i64 h.op)/\w'.cell? ⟨gx,2,none⟩=some (.int .i64 h.v)/\w'.cell? ⟨gx,3,none⟩=some (.int .i64 h.ln)/\w'.cell? ⟨gx,4,none⟩=some (.string (st h.nm))/\w'.cell? ⟨gx,5,none⟩=some (.slice a n c))) (by kernel_rfl) ⟨q0,q1,q2,q3,q4,q5⟩ (fun hHeld=>?_)
     obtain⟨wd,hwd⟩ : ∃ W,w4.drew=W:=⟨_,rfl⟩
     have HDd:Hid (D5 K w gR gx wa.heap.size at2 r h (.slice a n c) ar wd):=Lib.hid (by rw [<- hwd];exact HD.out.be (Below.refl _ _).drew)
     rw [hwd] at hHeld ⊢
     clear hwd HD q0 q1 q2 q3 q4 q5 hlx0
     refine wpAnyH_takeD (i:=0) (d:=some 30) (v:=?_) rfl (by kernel_rfl) (by kernel_rfl) (by kernel_rfl) (by kernel_rfl) (fun _ _ _ h=>h) (Or.inl ⟨by kernel_rfl,?_⟩) (by assumption) ?_
     rotate_left
     ·(intro w hSw;(try dsimp only at hSw);go_simp;(try simp only [hfd]);try with_reducible rfl)
     (try simp only [Act.put,List.setIfInBounds_toArray,List.set_cons_zero,List.set_cons_succ])
     refine wpAnyH_takeD (i:=3) (d:=some 33) (v:=?_) rfl (by kernel_rfl) (by kernel_rfl) (by kernel_rfl) (by kernel_rfl) (fun _ _ _ h=>h) (Or.inl ⟨by kernel_rfl,?_⟩) (by assumption) ?_
     rotate_left
     ·(intro w hSw;(try dsimp only at hSw);go_simp;(try simp only [hfd]);try with_reducible rfl)
     (try simp only [Act.put,List.setIfInBounds_toArray,List.set_cons_zero,List.set_cons_succ])
     refine wpAnyH_ready (rs:=[1,4,6]) (by kernel_rfl) (by simp) ?_
     refine AllReadyH.cons rfl (fun K0 hK=>?_) (AllReadyH.cons rfl (fun K0 hK=>?_) (AllReadyH.cons rfl (fun K0 hK=>?_) AllReadyH.nil))
     ·go_simp
      refine(look_at K at2 tk tn tv tt r1 wd (HR1.out▸HDd.out.ms.pat)).mono ?_
      rintro e w_1 ⟨rfl,hb⟩
      have hlx:=HDd.out.xc.lt
      refine goH hK ⟨(World.cell?_of_block (a:=⟨gx,0,none⟩) (hb.block gx hlx)).trans hHeld.1,(World.cell?_of_block (a:=⟨gx,1,none⟩) (hb.block gx hlx)).trans hHeld.2.1,(World.cell?_of_block (a:=⟨gx,2,none⟩) (hb.block gx hlx)).trans hHeld.2.2.1,(World.cell?_of_block (a:=⟨gx,3,none⟩) (hb.block gx hlx)).trans hHeld.2.2.2.1,(World.cell?_of_block (a:=⟨gx,4,none⟩) (hb.block gx hlx)).trans hHeld.2.2.2.2.1,(World.cell?_of_block (a:=⟨gx,5,none⟩) (hb.block gx hlx)).trans hHeld.2.2.2.2.2⟩ fun hHeld=>?_
      clear hK K0
      have HD1:=Lib.hid (HDd.out.be hb)
      have hsz1:=hb.size
      clear hb hlx
      refine wpAnyH_takeD (i:=2) (d:=some 32) (v:=?_) rfl (by kernel_rfl) (by kernel_rfl) (by kernel_rfl) (by kernel_rfl) (fun _ _ _ h=>h) (Or.inl ⟨by kernel_rfl,?_⟩) (by assumption) ?_
      rotate_left
      ·(intro w hSw;(try dsimp only at hSw);go_simp;(try simp only [hfd]);try with_reducible rfl)
      (try simp only [Act.put,List.setIfInBounds_toArray,List.set_cons_zero,List.set_cons_succ])
      refine wpAnyH_ready (rs:=[4,6]) (by kernel_rfl) (by simp) ?_
      refine AllReadyH.cons rfl (fun K0 hK=>?_) (AllReadyH.cons rfl (fun K0 hK=>?_) AllReadyH.nil)
      ·go_simp
       refine goH hK ⟨cell_ml _ hHeld.1,cell_ml _ hHeld.2.1,cell_ml _ hHeld.2.2.1,cell_ml _ hHeld.2.2.2.1,cell_ml _ hHeld.2.2.2.2.1,cell_ml _ hHeld.2.2.2.2.2⟩ fun hHeld=>?_
       clear hK K0
       obtain⟨w_2,hwn⟩ : ∃ W,w_1.alloc (.cells #[.int .i64 h.k,.int .i64 h.op,.int .i64 h.v,.int .i64 h.ln,.string (st h.nm),.slice a n c] 40)=W:=⟨_,rfl⟩
       obtain⟨gs,hgn⟩ : ∃ x,w_1.heap.size=x:=⟨_,rfl⟩
       have HD2:Hid (D5 K w gR gx wa.heap.size at2 r h (.slice a n c) ar w_2):=Lib.hid (by rw [<- hwn];exact HD1.out.be (below_alloc _ _))
       have hx2:gx<gs/\wa.heap.size<=gs:=by rw [<- hgn];exact⟨HD1.out.xc.lt,HD1.out.bs⟩
       have HS:Hid (Lc w_2 gs h (.slice a n c)):=Lib.hid (by rw [<- hwn,<- hgn];exact Lc.new w_1 h (.slice a n c))
       rw [hwn] at hHeld ⊢
       (try rw [hgn])
       clear hwn hgn
       refine wpAnyH_takeD (i:=5) (d:=some 35) (v:=?_) rfl (by kernel_rfl) (by kernel_rfl) (by kernel_rfl) (by kernel_rfl) (fun _ _ _ h=>h) (Or.inl ⟨by kernel_rfl,?_⟩) (by assumption) ?_
       rotate_left
       ·(intro w hSw;(try dsimp only at hSw);go_simp;(try simp only [hfd]);try with_reducible rfl)
       (try simp only [Act.put,List.setIfInBounds_toArray,List.set_cons_zero,List.set_cons_succ])
       refine rdH 6 fun K0 hK=>?_
       ·go_simp
        refine goH hK ⟨cell_ml _ hHeld.1,cell_ml _ hHeld.2.1,cell_ml _ hHeld.2.2.1,cell_ml _ hHeld.2.2.2.1,cell_ml _ hHeld.2.2.2.2.1,cell_ml _ hHeld.2.2.2.2.2⟩ fun hHeld=>?_
        clear hK K0
        obtain⟨w_3,hwn⟩ : ∃ W,w_2.alloc (.cells #[.int .i64 0,.int .i64 0,.int .i64 0,.int .i64 0,.string { data := #[] },.slice none 0 0] 40)=W:=⟨_,rfl⟩
        obtain⟨gc,hgn⟩ : ∃ x,w_2.heap.size=x:=⟨_,rfl⟩
        have HD3:Hid (D5 K w gR gx wa.heap.size at2 r h (.slice a n c) ar w_3):=Lib.hid (by rw [<- hwn];exact HD2.out.be (below_alloc _ _))
        have hx3:gx<gc/\wa.heap.size<=gc:=by rw [<- hgn];exact⟨HD2.out.xc.lt,HD2.out.bs⟩
        have HC:Hid (Lc w_3 gc zhd (.slice none 0 0)):=Lib.hid (by rw [<- hwn,<- hgn];exact Lc.zero w_2)
        have hne:gs≠gc:=by have:=HS.out.lt;omega
        have HS_:Hid (Lc w_3 gs h (.slice a n c)):=Lib.hid (by rw [<- hwn];exact HS.out.al _)
        clear HS
        have HS:=HS_
        clear HS_
        rw [hwn] at hHeld ⊢
        (try rw [hgn])
        clear hwn hgn
        have HD:=HD3
        obtain⟨g0,g1,g2,g3,g4,g5⟩:=HC.out.froz
        obtain⟨y0,y1,y2,y3,y4,y5⟩:=HC.out.cells
        have hlC:=HC.out.lt
        have HF:=Lib.hid (D5.ci HD.out HS.out HC.out tn (by omega) (by omega) (by omega) (by omega) (by omega) (by omega) (by omega))
        refine rdH 7 fun K0 hK=>?_
        go_simp
        refine goH hK ⟨cell_set6 (by omega) hHeld.1,cell_set6 (by omega) hHeld.2.1,cell_set6 (by omega) hHeld.2.2.1,cell_set6 (by omega) hHeld.2.2.2.1,cell_set6 (by omega) hHeld.2.2.2.2.1,cell_set6 (by omega) hHeld.2.2.2.2.2⟩ fun hHeld=>?_
        clear hK K0
        refine wpAnyH_done (by kernel_rfl) ?_ _
        (try simp only [Act.put,List.setIfInBounds_toArray,List.set_cons_zero,List.set_cons_succ])
        go_wp2_with fail
        go_meet
        exact⟨gc,gs,rfl,Lib.hid (by rw [HLN.out];exact HF.out)⟩
      ·go_simp
       refine goH hK ⟨cell_ml _ hHeld.1,cell_ml _ hHeld.2.1,cell_ml _ hHeld.2.2.1,cell_ml _ hHeld.2.2.2.1,cell_ml _ hHeld.2.2.2.2.1,cell_ml _ hHeld.2.2.2.2.2⟩ fun hHeld=>?_
       clear hK K0
       obtain⟨w_2,hwn⟩ : ∃ W,w_1.alloc (.cells #[.int .i64 0,.int .i64 0,.int .i64 0,.int .i64 0,.string { data := #[] },.slice none 0 0] 40)=W:=⟨_,rfl⟩
       obtain⟨gc,hgn⟩ : ∃ x,w_1.heap.size=x:=⟨_,rfl⟩
       have HD2:Hid (D5 K w gR gx wa.heap.size at2 r h (.slice a n c) ar w_2):=Lib.hid (by rw [<- hwn];exact HD1.out.be (below_alloc _ _))
       have hx2:gx<gc/\wa.heap.size<=gc:=by rw [<- hgn];exact⟨HD1.out.xc.lt,HD1.out.bs⟩
       have HC:Hid (Lc w_2 gc zhd (.slice none 0 0)):=Lib.hid (by rw [<- hwn,<- hgn];exact Lc.zero w_1)
       rw [hwn] at hHeld ⊢
       (try rw [hgn])
       clear hwn hgn
       refine rdH 4 fun K0 hK=>?_
       ·go_simp
        refine goH hK ⟨cell_ml _ hHeld.1,cell_ml _ hHeld.2.1,cell_ml _ hHeld.2.2.1,cell_ml _ hHeld.2.2.2.1,cell_ml _ hHeld.2.2.2.2.1,cell_ml _ hHeld.2.2.2.2.2⟩ fun hHeld=>?_
        clear hK K0
        obtain⟨w_3,hwn⟩ : ∃ W,w_2.alloc (.cells #[.int .i64 h.k,.int .i64 h.op,.int .i64 h.v,.int .i64 h.ln,.string (st h.nm),.slice a n c] 40)=W:=⟨_,rfl⟩
        obtain⟨gs,hgn⟩ : ∃ x,w_2.heap.size=x:=⟨_,rfl⟩
        have HD3:Hid (D5 K w gR gx wa.heap.size at2 r h (.slice a n c) ar w_3):=Lib.hid (by rw [<- hwn];exact HD2.out.be (below_alloc _ _))
        have hx3:gx<gs/\wa.heap.size<=gs:=by rw [<- hgn];exact⟨HD2.out.xc.lt,HD2.out.bs⟩
        have HS:Hid (Lc w_3 gs h (.slice a n c)):=Lib.hid (by rw [<- hwn,<- hgn];exact Lc.new w_2 h (.slice a n c))
        have hne:gs≠gc:=by have:=HC.out.lt;omega
        have HC_:Hid (Lc w_3 gc zhd (.slice none 0 0)):=Lib.hid (by rw [<- hwn];exact HC.out.al _)
        clear HC
        have HC:=HC_
        clear HC_
        rw [hwn] at hHeld ⊢
        (try rw [hgn])
        clear hwn hgn
        refine wpAnyH_takeD (i:=5) (d:=some 35) (v:=?_) rfl (by kernel_rfl) (by kernel_rfl) (by kernel_rfl) (by kernel_rfl) (fun _ _ _ h=>h) (Or.inl ⟨by kernel_rfl,?_⟩) (by assumption) ?_
        rotate_left
        ·(intro w hSw;(try dsimp only at hSw);go_simp;(try simp only [hfd]);try with_reducible rfl)
        (try simp only [Act.put,List.setIfInBounds_toArray,List.set_cons_zero,List.set_cons_succ])
        have HD:=HD3
        obtain⟨g0,g1,g2,g3,g4,g5⟩:=HC.out.froz
        obtain⟨y0,y1,y2,y3,y4,y5⟩:=HC.out.cells
        have hlC:=HC.out.lt
        have HF:=Lib.hid (D5.ci HD.out HS.out HC.out tn (by omega) (by omega) (by omega) (by omega) (by omega) (by omega) (by omega))
        refine rdH 7 fun K0 hK=>?_
        go_simp
        refine goH hK ⟨cell_set6 (by omega) hHeld.1,cell_set6 (by omega) hHeld.2.1,cell_set6 (by omega) hHeld.2.2.1,cell_set6 (by omega) hHeld.2.2.2.1,cell_set6 (by omega) hHeld.2.2.2.2.1,cell_set6 (by omega) hHeld.2.2.2.2.2⟩ fun hHeld=>?_
        clear hK K0
        refine wpAnyH_done (by kernel_rfl) ?_ _
        (try simp only [Act.put,List.setIfInBounds_toArray,List.set_cons_zero,List.set_cons_succ])
        go_wp2_with fail
        go_meet
        exact⟨gc,gs,rfl,Lib.hid (by rw [HLN.out];exact HF.out)⟩
     ·go_simp
      refine goH hK ⟨cell_ml _ hHeld.1,cell_ml _ hHeld.2.1,cell_ml _ hHeld.2.2.1,cell_ml _ hHeld.2.2.2.1,cell_ml _ hHeld.2.2.2.2.1,cell_ml _ hHeld.2.2.2.2.2⟩ fun hHeld=>?_
      clear hK K0
      obtain⟨w_1,hwn⟩ : ∃ W,wd.alloc (.cells #[.int .i64 h.k,.int .i64 h.op,.int .i64 h.v,.int .i64 h.ln,.string (st h.nm),.slice a n c] 40)=W:=⟨_,rfl⟩
      obtain⟨gs,hgn⟩ : ∃ x,wd.heap.size=x:=⟨_,rfl⟩
      have HD1:Hid (D5 K w gR gx wa.heap.size at2 r h (.slice a n c) ar w_1):=Lib.hid (by rw [<- hwn];exact HDd.out.be (below_alloc _ _))
      have hx1:gx<gs/\wa.heap.size<=gs:=by rw [<- hgn];exact⟨HDd.out.xc.lt,HDd.out.bs⟩
      have HS:Hid (Lc w_1 gs h (.slice a n c)):=Lib.hid (by rw [<- hwn,<- hgn];exact Lc.new wd h (.slice a n c))
      rw [hwn] at hHeld ⊢
      (try rw [hgn])
      clear hwn hgn
      refine wpAnyH_ready (rs:=[1,6]) (by kernel_rfl) (by simp) ?_
      refine AllReadyH.cons rfl (fun K0 hK=>?_) (AllReadyH.cons rfl (fun K0 hK=>?_) AllReadyH.nil)
      ·go_simp
       refine(look_at K at2 tk tn tv tt r1 w_1 (HR1.out▸HD1.out.ms.pat)).mono ?_
       rintro e w_2 ⟨rfl,hb⟩
       have hlx:=HD1.out.xc.lt
       refine goH hK ⟨(World.cell?_of_block (a:=⟨gx,0,none⟩) (hb.block gx hlx)).trans hHeld.1,(World.cell?_of_block (a:=⟨gx,1,none⟩) (hb.block gx hlx)).trans hHeld.2.1,(World.cell?_of_block (a:=⟨gx,2,none⟩) (hb.block gx hlx)).trans hHeld.2.2.1,(World.cell?_of_block (a:=⟨gx,3,none⟩) (hb.block gx hlx)).trans hHeld.2.2.2.1,(World.cell?_of_block (a:=⟨gx,4,none⟩) (hb.block gx hlx)).trans hHeld.2.2.2.2.1,(World.cell?_of_block (a:=⟨gx,5,none⟩) (hb.block gx hlx)).trans hHeld.2.2.2.2.2⟩ fun hHeld=>?_
       clear hK K0
       have HD2:=Lib.hid (HD1.out.be hb)
       have HS_:=Lib.hid (HS.out.be hb)
       clear HS
       have HS:=HS_
       clear HS_
       have hsz2:=hb.size
       clear hb hlx
       refine wpAnyH_takeD (i:=2) (d:=some 32) (v:=?_) rfl (by kernel_rfl) (by kernel_rfl) (by kernel_rfl) (by kernel_rfl) (fun _ _ _ h=>h) (Or.inl ⟨by kernel_rfl,?_⟩) (by assumption) ?_
       rotate_left
       ·(intro w hSw;(try dsimp only at hSw);go_simp;(try simp only [hfd]);try with_reducible rfl)
       (try simp only [Act.put,List.setIfInBounds_toArray,List.set_cons_zero,List.set_cons_succ])
       refine wpAnyH_takeD (i:=5) (d:=some 35) (v:=?_) rfl (by kernel_rfl) (by kernel_rfl) (by kernel_rfl) (by kernel_rfl) (fun _ _ _ h=>h) (Or.inl ⟨by kernel_rfl,?_⟩) (by assumption) ?_
       rotate_left
       ·(intro w hSw;(try dsimp only at hSw);go_simp;(try simp only [hfd]);try with_reducible rfl)
       (try simp only [Act.put,List.setIfInBounds_toArray,List.set_cons_zero,List.set_cons_succ])
       refine rdH 6 fun K0 hK=>?_
       ·go_simp
        refine goH hK ⟨cell_ml _ hHeld.1,cell_ml _ hHeld.2.1,cell_ml _ hHeld.2.2.1,cell_ml _ hHeld.2.2.2.1,cell_ml _ hHeld.2.2.2.2.1,cell_ml _ hHeld.2.2.2.2.2⟩ fun hHeld=>?_
        clear hK K0
        obtain⟨w_3,hwn⟩ : ∃ W,w_2.alloc (.cells #[.int .i64 0,.int .i64 0,.int .i64 0,.int .i64 0,.string { data := #[] },.slice none 0 0] 40)=W:=⟨_,rfl⟩
        obtain⟨gc,hgn⟩ : ∃ x,w_2.heap.size=x:=⟨_,rfl⟩
        have HD3:Hid (D5 K w gR gx wa.heap.size at2 r h (.slice a n c) ar w_3):=Lib.hid (by rw [<- hwn];exact HD2.out.be (below_alloc _ _))
        have hx3:gx<gc/\wa.heap.size<=gc:=by rw [<- hgn];exact⟨HD2.out.xc.lt,HD2.out.bs⟩
        have HC:Hid (Lc w_3 gc zhd (.slice none 0 0)):=Lib.hid (by rw [<- hwn,<- hgn];exact Lc.zero w_2)
        have hne:gs≠gc:=by have:=HS.out.lt;omega
        have HS_:Hid (Lc w_3 gs h (.slice a n c)):=Lib.hid (by rw [<- hwn];exact HS.out.al _)
        clear HS
        have HS:=HS_
        clear HS_
        rw [hwn] at hHeld ⊢
        (try rw [hgn])
        clear hwn hgn
        have HD:=HD3
        obtain⟨g0,g1,g2,g3,g4,g5⟩:=HC.out.froz
        obtain⟨y0,y1,y2,y3,y4,y5⟩:=HC.out.cells
        have hlC:=HC.out.lt
        have HF:=Lib.hid (D5.ci HD.out HS.out HC.out tn (by omega) (by omega) (by omega) (by omega) (by omega) (by omega) (by omega))
        refine rdH 7 fun K0 hK=>?_
        go_simp
        refine goH hK ⟨cell_set6 (by omega) hHeld.1,cell_set6 (by omega) hHeld.2.1,cell_set6 (by omega) hHeld.2.2.1,cell_set6 (by omega) hHeld.2.2.2.1,cell_set6 (by omega) hHeld.2.2.2.2.1,cell_set6 (by omega) hHeld.2.2.2.2.2⟩ fun hHeld=>?_
        clear hK K0
        refine wpAnyH_done (by kernel_rfl) ?_ _
        (try simp only [Act.put,List.setIfInBounds_toArray,List.set_cons_zero,List.set_cons_succ])
        go_wp2_with fail
        go_meet
        exact⟨gc,gs,rfl,Lib.hid (by rw [HLN.out];exact HF.out)⟩
      ·go_simp
       refine goH hK ⟨cell_ml _ hHeld.1,cell_ml _ hHeld.2.1,cell_ml _ hHeld.2.2.1,cell_ml _ hHeld.2.2.2.1,cell_ml _ hHeld.2.2.2.2.1,cell_ml _ hHeld.2.2.2.2.2⟩ fun hHeld=>?_
       clear hK K0
       obtain⟨w_2,hwn⟩ : ∃ W,w_1.alloc (.cells #[.int .i64 0,.int .i64 0,.int .i64 0,.int .i64 0,.string { data := #[] },.slice none 0 0] 40)=W:=⟨_,rfl⟩
       obtain⟨gc,hgn⟩ : ∃ x,w_1.heap.size=x:=⟨_,rfl⟩
       have HD2:Hid (D5 K w gR gx wa.heap.size at2 r h (.slice a n c) ar w_2):=Lib.hid (by rw [<- hwn];exact HD1.out.be (below_alloc _ _))
       have hx2:gx<gc/\wa.heap.size<=gc:=by rw [<- hgn];exact⟨HD1.out.xc.lt,HD1.out.bs⟩
       have HC:Hid (Lc w_2 gc zhd (.slice none 0 0)):=Lib.hid (by rw [<- hwn,<- hgn];exact Lc.zero w_1)
       have hne:gs≠gc:=by have:=HS.out.lt;omega
       have HS_:Hid (Lc w_2 gs h (.slice a n c)):=Lib.hid (by rw [<- hwn];exact HS.out.al _)
       clear HS
       have HS:=HS_
       clear HS_
       rw [hwn] at hHeld ⊢
       (try rw [hgn])
       clear hwn hgn
       refine rdH 1 fun K0 hK=>?_
       ·go_simp
        refine(look_at K at2 tk tn tv tt r1 w_2 (HR1.out▸HD2.out.ms.pat)).mono ?_
        rintro e w_3 ⟨rfl,hb⟩
        have hlx:=HD2.out.xc.lt
        refine goH hK ⟨(World.cell?_of_block (a:=⟨gx,0,none⟩) (hb.block gx hlx)).trans hHeld.1,(World.cell?_of_block (a:=⟨gx,1,none⟩) (hb.block gx hlx)).trans hHeld.2.1,(World.cell?_of_block (a:=⟨gx,2,none⟩) (hb.block gx hlx)).trans hHeld.2.2.1,(World.cell?_of_block (a:=⟨gx,3,none⟩) (hb.block gx hlx)).trans hHeld.2.2.2.1,(World.cell?_of_block (a:=⟨gx,4,none⟩) (hb.block gx hlx)).trans hHeld.2.2.2.2.1,(World.cell?_of_block (a:=⟨gx,5,none⟩) (hb.block gx hlx)).trans hHeld.2.2.2.2.2⟩ fun hHeld=>?_
        clear hK K0
        have HD3:=Lib.hid (HD2.out.be hb)
        have HS_:=Lib.hid (HS.out.be hb)
        clear HS
        have HS:=HS_
        clear HS_
        have HC_:=Lib.hid (HC.out.be hb)
        clear HC
        have HC:=HC_
        clear HC_
        have hsz3:=hb.size
        clear hb hlx
        refine wpAnyH_takeD (i:=2) (d:=some 32) (v:=?_) rfl (by kernel_rfl) (by kernel_rfl) (by kernel_rfl) (by kernel_rfl) (fun _ _ _ h=>h) (Or.inl ⟨by kernel_rfl,?_⟩) (by assumption) ?_
        rotate_left
        ·(intro w hSw;(try dsimp only at hSw);go_simp;(try simp only [hfd]);try with_reducible rfl)
        (try simp only [Act.put,List.setIfInBounds_toArray,List.set_cons_zero,List.set_cons_succ])
        refine wpAnyH_takeD (i:=5) (d:=some 35) (v:=?_) rfl (by kernel_rfl) (by kernel_rfl) (by kernel_rfl) (by kernel_rfl) (fun _ _ _ h=>h) (Or.inl ⟨by kernel_rfl,?_⟩) (by assumption) ?_
        rotate_left
        ·(intro w hSw;(try dsimp only at hSw);go_simp;(try simp only [hfd]);try with_reducible rfl)
        (try simp only [Act.put,List.setIfInBounds_toArray,List.set_cons_zero,List.set_cons_succ])
        have HD:=HD3
        obtain⟨g0,g1,g2,g3,g4,g5⟩:=HC.out.froz
        obtain⟨y0,y1,y2,y3,y4,y5⟩:=HC.out.cells
        have hlC:=HC.out.lt
        have HF:=Lib.hid (D5.ci HD.out HS.out HC.out tn (by omega) (by omega) (by omega) (by omega) (by omega) (by omega) (by omega))
        refine rdH 7 fun K0 hK=>?_
        go_simp
        refine goH hK ⟨cell_set6 (by omega) hHeld.1,cell_set6 (by omega) hHeld.2.1,cell_set6 (by omega) hHeld.2.2.1,cell_set6 (by omega) hHeld.2.2.2.1,cell_set6 (by omega) hHeld.2.2.2.2.1,cell_set6 (by omega) hHeld.2.2.2.2.2⟩ fun hHeld=>?_
        clear hK K0
        refine wpAnyH_done (by kernel_rfl) ?_ _
        (try simp only [Act.put,List.setIfInBounds_toArray,List.set_cons_zero,List.set_cons_succ])
        go_wp2_with fail
        go_meet
        exact⟨gc,gs,rfl,Lib.hid (by rw [HLN.out];exact HF.out)⟩
     ·go_simp
      refine goH hK ⟨cell_ml _ hHeld.1,cell_ml _ hHeld.2.1,cell_ml _ hHeld.2.2.1,cell_ml _ hHeld.2.2.2.1,cell_ml _ hHeld.2.2.2.2.1,cell_ml _ hHeld.2.2.2.2.2⟩ fun hHeld=>?_
      clear hK K0
      obtain⟨w_1,hwn⟩ : ∃ W,wd.alloc (.cells #[.int .i64 0,.int .i64 0,.int .i64 0,.int .i64 0,.string { data := #[] },.slice none 0 0] 40)=W:=⟨_,rfl⟩
      obtain⟨gc,hgn⟩ : ∃ x,wd.heap.size=x:=⟨_,rfl⟩
      have HD1:Hid (D5 K w gR gx wa.heap.size at2 r h (.slice a n c) ar w_1):=Lib.hid (by rw [<- hwn];exact HDd.out.be (below_alloc _ _))
      have hx1:gx<gc/\wa.heap.size<=gc:=by rw [<- hgn];exact⟨HDd.out.xc.lt,HDd.out.bs⟩
      have HC:Hid (Lc w_1 gc zhd (.slice none 0 0)):=Lib.hid (by rw [<- hwn,<- hgn];exact Lc.zero wd)
      rw [hwn] at hHeld ⊢
      (try rw [hgn])
      clear hwn hgn
      refine wpAnyH_ready (rs:=[1,4]) (by kernel_rfl) (by simp) ?_
      refine AllReadyH.cons rfl (fun K0 hK=>?_) (AllReadyH.cons rfl (fun K0 hK=>?_) AllReadyH.nil)
      ·go_simp
       refine(look_at K at2 tk tn tv tt r1 w_1 (HR1.out▸HD1.out.ms.pat)).mono ?_
       rintro e w_2 ⟨rfl,hb⟩
       have hlx:=HD1.out.xc.lt
       refine goH hK ⟨(World.cell?_of_block (a:=⟨gx,0,none⟩) (hb.block gx hlx)).trans hHeld.1,(World.cell?_of_block (a:=⟨gx,1,none⟩) (hb.block gx hlx)).trans hHeld.2.1,(World.cell?_of_block (a:=⟨gx,2,none⟩) (hb.block gx hlx)).trans hHeld.2.2.1,(World.cell?_of_block (a:=⟨gx,3,none⟩) (hb.block gx hlx)).trans hHeld.2.2.2.1,(World.cell?_of_block (a:=⟨gx,4,none⟩) (hb.block gx hlx)).trans hHeld.2.2.2.2.1,(World.cell?_of_block (a:=⟨gx,5,none⟩) (hb.block gx hlx)).trans hHeld.2.2.2.2.2⟩ fun hHeld=>?_
       clear hK K0
       have HD2:=Lib.hid (HD1.out.be hb)
       have HC_:=Lib.hid (HC.out.be hb)
       clear HC
       have HC:=HC_
       clear HC_
       have hsz2:=hb.size
       clear hb hlx
       refine wpAnyH_takeD (i:=2) (d:=some 32) (v:=?_) rfl (by kernel_rfl) (by kernel_rfl) (by kernel_rfl) (by kernel_rfl) (fun _ _ _ h=>h) (Or.inl ⟨by kernel_rfl,?_⟩) (by assumption) ?_
       rotate_left
       ·(intro w hSw;(try dsimp only at hSw);go_simp;(try simp only [hfd]);try with_reducible rfl)
       (try simp only [Act.put,List.setIfInBounds_toArray,List.set_cons_zero,List.set_cons_succ])
       refine rdH 4 fun K0 hK=>?_
       ·go_simp
        refine goH hK ⟨cell_ml _ hHeld.1,cell_ml _ hHeld.2.1,cell_ml _ hHeld.2.2.1,cell_ml _ hHeld.2.2.2.1,cell_ml _ hHeld.2.2.2.2.1,cell_ml _ hHeld.2.2.2.2.2⟩ fun hHeld=>?_
        clear hK K0
        obtain⟨w_3,hwn⟩ : ∃ W,w_2.alloc (.cells #[.int .i64 h.k,.int .i64 h.op,.int .i64 h.v,.int .i64 h.ln,.string (st h.nm),.slice a n c] 40)=W:=⟨_,rfl⟩
        obtain⟨gs,hgn⟩ : ∃ x,w_2.heap.size=x:=⟨_,rfl⟩
        have HD3:Hid (D5 K w gR gx wa.heap.size at2 r h (.slice a n c) ar w_3):=Lib.hid (by rw [<- hwn];exact HD2.out.be (below_alloc _ _))
        have hx3:gx<gs/\wa.heap.size<=gs:=by rw [<- hgn];exact⟨HD2.out.xc.lt,HD2.out.bs⟩
        have HS:Hid (Lc w_3 gs h (.slice a n c)):=Lib.hid (by rw [<- hwn,<- hgn];exact Lc.new w_2 h (.slice a n c))
        have hne:gs≠gc:=by have:=HC.out.lt;omega
        have HC_:Hid (Lc w_3 gc zhd (.slice none 0 0)):=Lib.hid (by rw [<- hwn];exact HC.out.al _)
        clear HC
        have HC:=HC_
        clear HC_
        rw [hwn] at hHeld ⊢
        (try rw [hgn])
        clear hwn hgn
        refine wpAnyH_takeD (i:=5) (d:=some 35) (v:=?_) rfl (by kernel_rfl) (by kernel_rfl) (by kernel_rfl) (by kernel_rfl) (fun _ _ _ h=>h) (Or.inl ⟨by kernel_rfl,?_⟩) (by assumption) ?_
        rotate_left
        ·(intro w hSw;(try dsimp only at hSw);go_simp;(try simp only [hfd]);try with_reducible rfl)
        (try simp only [Act.put,List.setIfInBounds_toArray,List.set_cons_zero,List.set_cons_succ])
        have HD:=HD3
        obtain⟨g0,g1,g2,g3,g4,g5⟩:=HC.out.froz
        obtain⟨y0,y1,y2,y3,y4,y5⟩:=HC.out.cells
        have hlC:=HC.out.lt
        have HF:=Lib.hid (D5.ci HD.out HS.out HC.out tn (by omega) (by omega) (by omega) (by omega) (by omega) (by omega) (by omega))
        refine rdH 7 fun K0 hK=>?_
        go_simp
        refine goH hK ⟨cell_set6 (by omega) hHeld.1,cell_set6 (by omega) hHeld.2.1,cell_set6 (by omega) hHeld.2.2.1,cell_set6 (by omega) hHeld.2.2.2.1,cell_set6 (by omega) hHeld.2.2.2.2.1,cell_set6 (by omega) hHeld.2.2.2.2.2⟩ fun hHeld=>?_
        clear hK K0
        refine wpAnyH_done (by kernel_rfl) ?_ _
        (try simp only [Act.put,List.setIfInBounds_toArray,List.set_cons_zero,List.set_cons_succ])
        go_wp2_with fail
        go_meet
        exact⟨gc,gs,rfl,Lib.hid (by rw [HLN.out];exact HF.out)⟩
      ·go_simp
       refine goH hK ⟨cell_ml _ hHeld.1,cell_ml _ hHeld.2.1,cell_ml _ hHeld.2.2.1,cell_ml _ hHeld.2.2.2.1,cell_ml _ hHeld.2.2.2.2.1,cell_ml _ hHeld.2.2.2.2.2⟩ fun hHeld=>?_
       clear hK K0
       obtain⟨w_2,hwn⟩ : ∃ W,w_1.alloc (.cells #[.int .i64 h.k,.int .i64 h.op,.int .i64 h.v,.int .i64 h.ln,.string (st h.nm),.slice a n c] 40)=W:=⟨_,rfl⟩
       obtain⟨gs,hgn⟩ : ∃ x,w_1.heap.size=x:=⟨_,rfl⟩
       have HD2:Hid (D5 K w gR gx wa.heap.size at2 r h (.slice a n c) ar w_2):=Lib.hid (by rw [<- hwn];exact HD1.out.be (below_alloc _ _))
       have hx2:gx<gs/\wa.heap.size<=gs:=by rw [<- hgn];exact⟨HD1.out.xc.lt,HD1.out.bs⟩
       have HS:Hid (Lc w_2 gs h (.slice a n c)):=Lib.hid (by rw [<- hwn,<- hgn];exact Lc.new w_1 h (.slice a n c))
       have hne:gs≠gc:=by have:=HC.out.lt;omega
       have HC_:Hid (Lc w_2 gc zhd (.slice none 0 0)):=Lib.hid (by rw [<- hwn];exact HC.out.al _)
       clear HC
       have HC:=HC_
       clear HC_
       rw [hwn] at hHeld ⊢
       (try rw [hgn])
       clear hwn hgn
       refine rdH 1 fun K0 hK=>?_
       ·go_simp
        refine(look_at K at2 tk tn tv tt r1 w_2 (HR1.out▸HD2.out.ms.pat)).mono ?_
        rintro e w_3 ⟨rfl,hb⟩
        have hlx:=HD2.out.xc.lt
        refine goH hK ⟨(World.cell?_of_block (a:=⟨gx,0,none⟩) (hb.block gx hlx)).trans hHeld.1,(World.cell?_of_block (a:=⟨gx,1,none⟩) (hb.block gx hlx)).trans hHeld.2.1,(World.cell?_of_block (a:=⟨gx,2,none⟩) (hb.block gx hlx)).trans hHeld.2.2.1,(World.cell?_of_block (a:=⟨gx,3,none⟩) (hb.block gx hlx)).trans hHeld.2.2.2.1,(World.cell?_of_block (a:=⟨gx,4,none⟩) (hb.block gx hlx)).trans hHeld.2.2.2.2.1,(World.cell?_of_block (a:=⟨gx,5,none⟩) (hb.block gx hlx)).trans hHeld.2.2.2.2.2⟩ fun hHeld=>?_
        clear hK K0
        have HD3:=Lib.hid (HD2.out.be hb)
        have HS_:=Lib.hid (HS.out.be hb)
        clear HS
        have HS:=HS_
        clear HS_
        have HC_:=Lib.hid (HC.out.be hb)
        clear HC
        have HC:=HC_
        clear HC_
        have hsz3:=hb.size
        clear hb hlx
        refine wpAnyH_takeD (i:=2) (d:=some 32) (v:=?_) rfl (by kernel_rfl) (by kernel_rfl) (by kernel_rfl) (by kernel_rfl) (fun _ _ _ h=>h) (Or.inl ⟨by kernel_rfl,?_⟩) (by assumption) ?_
        rotate_left
        ·(intro w hSw;(try dsimp only at hSw);go_simp;(try simp only [hfd]);try with_reducible rfl)
        (try simp only [Act.put,List.setIfInBounds_toArray,List.set_cons_zero,List.set_cons_succ])
        refine wpAnyH_takeD (i:=5) (d:=some 35) (v:=?_) rfl (by kernel_rfl) (by kernel_rfl) (by kernel_rfl) (by kernel_rfl) (fun _ _ _ h=>h) (Or.inl ⟨by kernel_rfl,?_⟩) (by assumption) ?_
        rotate_left
        ·(intro w hSw;(try dsimp only at hSw);go_simp;(try simp only [hfd]);try with_reducible rfl)
        (try simp only [Act.put,List.setIfInBounds_toArray,List.set_cons_zero,List.set_cons_succ])
        have HD:=HD3
        obtain⟨g0,g1,g2,g3,g4,g5⟩:=HC.out.froz
        obtain⟨y0,y1,y2,y3,y4,y5⟩:=HC.out.cells
        have hlC:=HC.out.lt
        have HF:=Lib.hid (D5.ci HD.out HS.out HC.out tn (by omega) (by omega) (by omega) (by omega) (by omega) (by omega) (by omega))
        refine rdH 7 fun K0 hK=>?_
        go_simp
        refine goH hK ⟨cell_set6 (by omega) hHeld.1,cell_set6 (by omega) hHeld.2.1,cell_set6 (by omega) hHeld.2.2.1,cell_set6 (by omega) hHeld.2.2.2.1,cell_set6 (by omega) hHeld.2.2.2.2.1,cell_set6 (by omega) hHeld.2.2.2.2.2⟩ fun hHeld=>?_
        clear hK K0
        refine wpAnyH_done (by kernel_rfl) ?_ _
        (try simp only [Act.put,List.setIfInBounds_toArray,List.set_cons_zero,List.set_cons_succ])
        go_wp2_with fail
        go_meet
        exact⟨gc,gs,rfl,Lib.hid (by rw [HLN.out];exact HF.out)⟩
    case rest =>
    obtain⟨gc,gs,rfl,HC⟩:=hcut
    clear HD
    have HLT2:=HLT.out
    have HRT:Hid (r.tail.length<r.length):=Lib.hid (tail_lt (by intro e;have:=HK0.out;rw [e] at this;exact this rfl))
    go_upto_if 36 with fail
    go_cut [] from 37 to 41 (fun wx => ∃ (hd:Hd) (v:Value) (nn:Nat) (xs:List Value) (G:Fo),Hid (nn<=1/\CI K w gR gx gc h (.slice a n c) hd v nn xs at2 r wx/\CF w gR gx gc v nn xs G wx/\(∀ y r2 z,Ps (.ag true .nil) r.tail (.ok y r2)->Ps (.caL false (one1 hd (G.app y))) r2 z->Ps .ca rest z)/\(∀ r2,Ps (.ag true .nil) r.tail (.bad r2)->Ps .ca rest (.bad r2))))
    case first =>
     obtain⟨x0,x1,x2,x3,x4,x5⟩:=HC.out.1.xc.cells
     obtain⟨y0,y1,y2,y3,y4,y5⟩:=HC.out.1.cc.cells
     obtain⟨g0,g1,g2,g3,g4,g5⟩:=HC.out.1.cc.froz
     have hlC:=HC.out.1.cc.lt
     have HBAD:Hid (∀ r2,Ps (.ag true .nil) r.tail (.bad r2)->Ps .ca rest (.bad r2)):=Lib.hid (fun r2 h1=>HCO.out _ (Ps.caL_bad HT.out h1))
     cases pl
     ·go_wp2_with fail
      go_meet
      exact⟨_,_,_,_,_,Lib.hid ⟨Nat.le_refl _,HC.out.1,HC.out.2,fun y r2 z h1 h2=>HCO.out z (Ps.caL_value HT.out h1 h2),HBAD.out⟩⟩
     ·go_wp2_with fail
      go_meet
      exact⟨_,_,_,_,_,Lib.hid ⟨Nat.zero_le _,HC.out.1.call (lnOf r) h.nm,CF.call _ _ _ _ _,fun y r2 z h1 h2=>HCO.out z (Ps.caL_call HT.out h1 h2),HBAD.out⟩⟩
    case rest =>
    clear HC
    obtain⟨hd,v,nn,xs,G,HC⟩:=hcut
    have HCN:=Lib.hid (And.intro HC.out.2.2.2.1 HC.out.2.2.2.2)
    obtain⟨-,p1,-,f1,-,hlp⟩:=HC.out.2.1.ms.pat.cells
    have hw1:=HC.out.2.1.ms.w1
    have hgg2:=HC.out.2.1.ms.gl
    have HC2:=Lib.hid (HC.out.2.1.gr (grownBy_set wc K.g 1 (.int .i64 ((at2:Int)+1))) (HC.out.2.1.ms.pat.step HK0.out))
    have HF2:=Lib.hid (HC.out.2.2.1.gr (grownBy_set wc K.g 1 (.int .i64 ((at2:Int)+1))) hgg2)
    have HN1:=Lib.hid HC.out.1
    go_upto_block 2 with fail
    clear p1 f1 hlp hw1
    obtain⟨w5,hw5⟩ : ∃ W,wc.setCell ⟨K.g,1,none⟩ (.int .i64 ((at2:Int)+1))=W:=⟨_,rfl⟩
    rw [hw5] at HC2 HF2 ⊢
    clear hw5
    go_wp2_with fail
    go_loopw [6,8] (fun v6 v8 wr => ∃ (ok first:Bool) (v:Value) (nn:Nat) (xs:List Value) (at3:Nat) (r3:List Tk),v6=.bool ok/\v8=.bool first/\Hid (AI K w gR gx gc r h (.slice a n c) hd G first ok v nn xs at3 r3 wr)) (fun v6 _ wr=>2 * (K.ts.length - natAt wr K.g)+oneIf v6)
    case atStart=>exact⟨true,true,v,nn,xs,at2+1,r.tail,rfl,rfl,Lib.hid ⟨HC2.out,Nat.le_refl _,.inl ⟨rfl,by have:=HN1.out;omega,.nil,by rw [Fo.app_nil2];exact HF2.out,fun z h=>h⟩⟩⟩
    case round =>
     rename World=>wb
     obtain⟨ok,first,v,nn,xs,at3,r3,rfl,rfl,HI⟩:=hrel
     cases ok
     ·have HB:Hid (Ps (.ag true .nil) r.tail (.bad r3)):=Lib.hid (by
       rcases HI.out.res with⟨h1,_⟩ | ⟨_,h1⟩
       ·cases h1
       ·exact h1)
      obtain⟨sa,sc,hvs⟩:=HI.out.ci.shape
      subst hvs
      obtain⟨y0,y1,y2,y3,y4,y5⟩:=HI.out.ci.cc.cells
      obtain⟨g0,g1,g2,g3,g4,g5⟩:=HI.out.ci.xc.froz
      obtain⟨x0,x1,x2,x3,x4,x5⟩:=HI.out.ci.xc.cells
      have hlX:=HI.out.ci.xc.lt
      have hlC:=HI.out.ci.cc.lt
      have HNE:=Lib.hid HI.out.ci.ne
      have HL2:Hid (LI K w gR gx .ca (.caL false) rest hd sa nn sc false (at3) (r3) (set6 wb gx (.int .i64 hd.k) (.int .i64 hd.op) (.int .i64 hd.v) (.int .i64 hd.ln) (.string (st hd.nm)) (.slice sa nn sc))):=Lib.hid ⟨HI.out.ci.ms.s6 HNE.out.2.2.2.2.1 _ _ _ _ _ _,HI.out.ci.rc.s6o HNE.out.2.2.2.2.2.1,HI.out.ci.xc.s6 hd _,by have h1:=HI.out.le;have h2:=HRT.out;have h3:=HLT.out;omega,.inr ⟨rfl,HCN.out.2 r3 HB.out⟩⟩
      have HM2:Hid (K.ts.length - natAt (set6 wb gx (.int .i64 hd.k) (.int .i64 hd.op) (.int .i64 hd.v) (.int .i64 hd.ln) (.string (st hd.nm)) (.slice sa nn sc)) K.g<K.ts.length - natAt wa K.g):=Lib.hid (by
       rw [HL2.out.ms.pat.natAt,HL.out.ms.pat.natAt]
       have h1:=HL2.out.ms.pat.lt
       have h2:=HL.out.ms.pat.lt
       have h3:=HRT.out
       have h4:=HI.out.le
       (try simp only [List.length_tail] at h1 h3 h4)
       omega)
      go_wp2_with fail
      go_roundw
      case rel=>exact⟨hd,sa,nn,sc,false,false,at3,r3,rfl,rfl,HL2⟩
      case measure=>exact HM2.out
     ·obtain⟨hnn,Fa,hcf,hco⟩:nn<=at3 /\ ∃ Fa,CF w gR gx gc v nn xs (G.app Fa) wb /\ ∀ z,Ps (.ag first Fa) r3 z->Ps (.ag true .nil) r.tail z:=by
       rcases HI.out.res with⟨_,h1⟩ | ⟨h1,_⟩
       ·exact h1
       ·cases h1
      have HNN:=Lib.hid hnn
      have HCF:=Lib.hid hcf
      have HAC:=Lib.hid hco
      clear hnn hcf hco
      go_wp2_with fail
      refine(accept_any K at3 r3 [41] _ HI.out.ci.ms.pat).mono ?_
      rintro e w5 ⟨at5,r5,rfl,hp5,hg5,hc5⟩
      have HC5:=Lib.hid (HI.out.ci.gr hg5 hp5)
      have HF5:=Lib.hid (HCF.out.gr hg5 HI.out.ci.ms.gl)
      clear hp5 hg5
      rcases hc5 with⟨h41,rfl,rfl⟩ | ⟨h41,rfl,rfl⟩
      ·have H41:=Lib.hid h41
       (try rw [h41])
       clear h41
       obtain⟨sa,sc,hvs⟩:=HC5.out.shape
       subst hvs
       obtain⟨y0,y1,y2,y3,y4,y5⟩:=HC5.out.cc.cells
       obtain⟨g0,g1,g2,g3,g4,g5⟩:=HC5.out.xc.froz
       obtain⟨x0,x1,x2,x3,x4,x5⟩:=HC5.out.xc.cells
       have hlX:=HC5.out.xc.lt
       have hlC:=HC5.out.cc.lt
       have HNE:=Lib.hid HC5.out.ne
       have HL2:Hid (LI K w gR gx .ca (.caL false) rest hd sa nn sc true (at3+1) (r3.tail) (set6 w5 gx (.int .i64 hd.k) (.int .i64 hd.op) (.int .i64 hd.v) (.int .i64 hd.ln) (.string (st hd.nm)) (.slice sa nn sc))):=Lib.hid ⟨HC5.out.ms.s6 HNE.out.2.2.2.2.1 _ _ _ _ _ _,HC5.out.rc.s6o HNE.out.2.2.2.2.2.1,HC5.out.xc.s6 hd _,by have h1:=HI.out.le;have h2:=HRT.out;have h3:=HLT.out;simp only [List.length_tail] at *;omega,(by
         have HARS:=args_s6 (v0:=.int .i64 hd.k) (v1:=.int .i64 hd.op) (v2:=.int .i64 hd.v) (v3:=.int .i64 hd.ln) (v4:=.string (st hd.nm)) (v5:=.slice sa nn sc) (HC5.out.args HF5.out) (fun b hb=>hb.2.2)
         exact .inl ⟨rfl,_,fun z hz=>HCN.out.1 Fa _ z (HAC.out _ (Ps.ag_end H41.out)) hz,HARS,by have h1:=HI.out.le;have h2:=HRT.out;have h3:=HLT.out;simp only [List.length_tail] at *;omega⟩)⟩
       have HM2:Hid (K.ts.length - natAt (set6 w5 gx (.int .i64 hd.k) (.int .i64 hd.op) (.int .i64 hd.v) (.int .i64 hd.ln) (.string (st hd.nm)) (.slice sa nn sc)) K.g<K.ts.length - natAt wa K.g):=Lib.hid (by
        rw [HL2.out.ms.pat.natAt,HL.out.ms.pat.natAt]
        have h1:=HL2.out.ms.pat.lt
        have h2:=HL.out.ms.pat.lt
        have h3:=HRT.out
        have h4:=HI.out.le
        (try simp only [List.length_tail] at h1 h3 h4)
        omega)
       go_wp2_with fail
       go_roundw
       case rel=>exact⟨hd,sa,nn,sc,false,true,at3+1,r3.tail,rfl,rfl,HL2⟩
       case measure=>exact HM2.out
      ·have H41:=Lib.hid h41
       (try rw [h41])
       clear h41
       go_upto_region 12 with fail
       go_cut [61] from 55 to 61 (fun v61 wx => ∃ (b:Bool) (at6:Nat) (r6:List Tk),v61=.bool b/\Hid (CI K w gR gx gc h (.slice a n c) hd v nn xs at6 r6 wx/\CF w gR gx gc v nn xs (G.app Fa) wx/\r6.length<=r5.length/\((b=false/\(∀ x r2 z,Ps .ex r6 (.ok x r2)->Ps (.ag false (Fa.app x)) r2 z->Ps (.ag true .nil) r.tail z)/\(∀ r2,Ps .ex r6 (.bad r2)->Ps (.ag true .nil) r.tail (.bad r2)))\/(b=true/\Ps (.ag true .nil) r.tail (.bad r6)))))
       case first =>
        cases first
        ·go_wp2_with fail
         refine(accept_any K _ _ [44] _ HC5.out.ms.pat).mono ?_
         rintro e w6 ⟨at6,r6,rfl,hp6,hg6,hc6⟩
         have HC6:=Lib.hid (HC5.out.gr hg6 hp6)
         have HF6:=Lib.hid (HF5.out.gr hg6 HC5.out.ms.gl)
         clear hp6 hg6
         rcases hc6 with⟨h44,rfl,rfl⟩ | ⟨h44,rfl,rfl⟩
         ·have H44:=Lib.hid h44
          (try rw [h44])
          clear h44
          go_wp2_with fail
          go_meet
          exact⟨false,_,_,rfl,Lib.hid ⟨HC6.out,HF6.out,by simp,.inl ⟨rfl,fun x r2 z h1 h2=>HAC.out z (Ps.ag_next H41.out H44.out h1 h2),fun r2 h1=>HAC.out _ (Ps.ag_next_bad H41.out H44.out h1)⟩⟩⟩
         ·have H44:=Lib.hid h44
          (try rw [h44])
          clear h44
          go_wp2_with fail
          go_meet
          exact⟨true,_,_,rfl,Lib.hid ⟨HC6.out,HF6.out,Nat.le_refl _,.inr ⟨rfl,HAC.out _ (Ps.ag_bad H41.out H44.out)⟩⟩⟩
        ·go_wp2_with fail
         go_meet
         exact⟨false,_,_,rfl,Lib.hid ⟨HC5.out,HF5.out,Nat.le_refl _,.inl ⟨rfl,fun x r2 z h1 h2=>HAC.out z (Ps.ag_first H41.out h1 h2),fun r2 h1=>HAC.out _ (Ps.ag_first_bad H41.out h1)⟩⟩⟩
       case rest =>
       clear HC5 HF5
       obtain⟨b,at6,r6,rfl,HC6⟩:=hcut
       cases b
       ·have hcx:(∀ x r2 z,Ps .ex r6 (.ok x r2)->Ps (.ag false (Fa.app x)) r2 z->Ps (.ag true .nil) r.tail z)/\(∀ r2,Ps .ex r6 (.bad r2)->Ps (.ag true .nil) r.tail (.bad r2)):=by
         rcases HC6.out.2.2.2 with⟨_,h1⟩ | ⟨h1,_⟩
         ·exact h1
         ·cases h1
        have HCX:=Lib.hid hcx
        clear hcx
        have HLE6:Hid (r6.length<=r.tail.length/\r6.length<rest.length):=Lib.hid (by have h1:=HI.out.le;have h2:=HRT.out;have h3:=HLT.out;have h4:=HC6.out.2.2.1;exact⟨by omega,by omega⟩)
        have HN6:Hid (nn<100000):=Lib.hid (by have h1:=HC6.out.1.ms.pat.lt;have h2:=HI.out.ci.ms.pat.lt;have h3:=HC6.out.2.2.1;have h4:=HNN.out;have h5:=HC6.out.1.ms.pat.n;omega)
        have HK6:Hid (nn<=at6):=Lib.hid (by have h1:=HC6.out.1.ms.pat.lt;have h2:=HI.out.ci.ms.pat.lt;have h3:=HC6.out.2.2.1;have h4:=HNN.out;omega)
        have HD6:=Lib.hid (HC6.out.1.al zex)
        have HY6:=Lib.hid (Lc.zero wc)
        have HNE:=Lib.hid HC6.out.1.ne
        have HL6:=Lib.hid (And.intro HC6.out.1.rc.lt (And.intro HC6.out.1.xc.lt HC6.out.1.cc.lt))
        have HO6:Hid (v.ownBlock≠some wc.heap.size):=Lib.hid (fun e=>by have:=(HC6.out.1.own.lt _ e).2;omega)
        go_upto_region 15 with fail
        obtain⟨w6,hw6⟩ : ∃ W,wc.alloc zex=W:=⟨_,rfl⟩
        obtain⟨gy,hgy⟩ : ∃ x,wc.heap.size=x:=⟨_,rfl⟩
        (try rw [show wc.alloc (.cells #[.int .i64 0,.int .i64 0,.int .i64 0,.int .i64 0,.string { data := #[] },.slice none 0 0] 40)=w6 from hw6])
        rw [hw6] at HD6 HY6
        rw [hgy] at HY6 HO6 HL6
        (try rw [hgy])
        have HS6:Hid (w6.heap.size=gy+1):=Lib.hid (by rw [<- hw6,<- hgy];simp)
        have HF6:Hid (FoAt w6 (fun b=>(TBk w gR gx b/\b≠gc/\some b≠v.ownBlock)/\b<gy) (G.app Fa) xs/\(G.app Fa).len=nn):=Lib.hid ⟨HC6.out.2.1.1.keep (fun b hb hlt=>⟨by rw [<- hw6];exact Below.heap_alloc wc zex b hlt,hb,by omega⟩) (by rw [<- hw6];simp),HC6.out.2.1.2⟩
        clear hw6 hgy
        go_wp2_with fail
        refine(HE.out _ _ _ HD6.out.ms.pat HLE6.out.2).mono ?_
        rintro e w7 ⟨h2,a2,n2,c2,ok2,at7,r7,rfl,hp7,hle7,hg7,hres7⟩
        have HD7:=Lib.hid (HD6.out.gr hg7 hp7)
        have hl6:=HL6.out
        have hne:=HNE.out
        have hs7:=hg7.size
        have hS6:=HS6.out
        have HY7:=Lib.hid (HY6.out.gr hg7 (by omega))
        have HF7:Hid (FoAt w7 (fun b=>(TBk w gR gx b/\b≠gc/\some b≠v.ownBlock)/\b<gy) (G.app Fa) xs/\(G.app Fa).len=nn):=Lib.hid ⟨HF6.out.1.keep (fun b hb hlt=>⟨hg7.block b hlt (fun e=>by injection e with e;have:=hb.1.1.1;omega),hb⟩) hg7.size,HF6.out.2⟩
        have HLE7:=Lib.hid hle7
        have HRS7:=hres7
        obtain⟨v0,v1,v2,v3,v4,v5⟩:=HY7.out.froz
        obtain⟨u0,u1,u2,u3,u4,u5⟩:=HY7.out.cells
        have hlY7:=HY7.out.lt
        clear hp7 hg7 hle7 hres7
        go_upto_region 16 with fail
        clear v0 v1 v2 v3 v4 v5 u0 u1 u2 u3 u4 u5 hlY7
        have HOB:Hid (∀ k,v.ownBlock=some k->w.heap.size<=k/\k<gy):=Lib.hid (fun k hk=>⟨(HC6.out.1.own.lt k hk).1,by have h1:=(HC6.out.1.own.lt k hk).2;have h2:=HO6.out;have h3:=HS6.out;have h4:=(HD6.out.own.lt k hk).2;rcases Nat.lt_or_ge k gy with h | h;exact h;exact absurd (show v.ownBlock=some gy by rw [hk,show k=gy by omega]) h2⟩)
        have HD8:=Lib.hid (HD7.out.s6n (g:=gy) (v0:=.int .i64 h2.k) (v1:=.int .i64 h2.op) (v2:=.int .i64 h2.v) (v3:=.int .i64 h2.ln) (v4:=.string (st h2.nm)) (v5:=.slice a2 n2 c2) (by omega) (by omega) (by omega) (by omega) HO6.out)
        have HY8:=Lib.hid (HY7.out.s6 h2 (.slice a2 n2 c2))
        have HF8:Hid (CF w gR gx gc v nn xs (G.app Fa) (set6 w7 gy (.int .i64 h2.k) (.int .i64 h2.op) (.int .i64 h2.v) (.int .i64 h2.ln) (.string (st h2.nm)) (.slice a2 n2 c2))):=Lib.hid ⟨HF7.out.1.keep (fun b hb hlt=>⟨other_set6 b (by have:=hb.2;omega),hb.1⟩) (by rw [size_set6];exact Nat.le_refl _),HF7.out.2⟩
        have HRS8:Hid ((ok2=true /\ ∃ ar2,Ps .ex r6 (.ok (one1 h2 ar2) r7)/\ArgsAt (set6 w7 gy (.int .i64 h2.k) (.int .i64 h2.op) (.int .i64 h2.v) (.int .i64 h2.ln) (.string (st h2.nm)) (.slice a2 n2 c2)) (fun b=>TBk w gR gx b/\b≠gc/\some b≠v.ownBlock) ar2 (.slice a2 n2 c2)/\r7.length<r6.length)\/(ok2=false/\Ps .ex r6 (.bad r7))):=Lib.hid (by
         rcases HRS7.out with⟨e1,ar2,e2,e3,e4⟩ | hr
         ·exact .inl ⟨e1,ar2,e2,args_mono (args_s6 e3 (fun b hb=>by omega)) (fun b hb _=>⟨⟨by omega,by omega,by omega⟩,by omega,fun e=>by have:=(HOB.out b e.symm).2;omega⟩),e4⟩
         ·exact .inr hr)
        obtain⟨w8,hw8⟩ : ∃ W,set6 w7 gy (.int .i64 h2.k) (.int .i64 h2.op) (.int .i64 h2.v) (.int .i64 h2.ln) (.string (st h2.nm)) (.slice a2 n2 c2)=W:=⟨_,rfl⟩
        have hw82:=hw8
        unfold set6 at hw82
        (try rw [hw82])
        rw [hw8] at HD8 HY8 HF8 HRS8
        clear hw8 hw82 HF7 HD7 HY7 HRS7
        obtain⟨q0,q1,q2,q3,q4,q5⟩:=HY8.out.cells
        obtain⟨y0,y1,y2,y3,y4,y5⟩:=HD8.out.cc.cells
        have hlY:=HY8.out.lt
        have hlC:=HD8.out.cc.lt
        obtain⟨i0,hi0,hz0,hz1,hz2⟩:=info_parts Tryd.infoExpr
        have HIF:=Lib.hid hi0
        have HZ0:=Lib.hid hz0
        have HZ1:=Lib.hid hz1
        have HZ2:=Lib.hid hz2
        clear hi0 hz0 hz1 hz2
        have HOA:=Lib.hid (HD8.out.own.alloc (.cells (ecs h2 (.slice a2 n2 c2)) 40))
        have hn6:=HN6.out
        go_wp2_with (at_builtin;refine wpList_append_lies _ rfl _ _ _ rfl w.heap.size 40 i0 _ 6 72 Tryd.underlying38 HIF.out HZ0.out HZ1.out HZ2.out rfl (by omega) _ _ _ rfl HOA.out ⟨w8.heap.size,0,none⟩ 1 1 (hdc h2 (.slice a2 n2 c2)) rfl rfl (World.news_of_block (cs:=(hdc h2 (.slice a2 n2 c2)).toArray) (t:=40) (fr:=(0,0)) (heap_alloc_new w8 _)) (by simp [Value.oneCell']) (by omega) (by unfold maxLen;omega) (by omega) (by simp;omega) _ rfl ?_;intro g9 c9 w9 hown9 hgrow9 hor9 hlt9;have HO9:=Lib.hid hown9;have HG9:=Lib.hid hgrow9;have HR9:=Lib.hid hor9;have HCC:=Lib.hid ((HD8.out.cc.al (.cells (ecs h2 (.slice a2 n2 c2)) 40)).grw hgrow9 HNE.out.2.2.2.2.2.2.2.2);obtain⟨t0,t1,t2,t3,t4,t5⟩:=HCC.out.cells;obtain⟨j0,j1,j2,j3,j4,j5⟩:=HCC.out.froz;have hlC9:=HCC.out.lt;clear hown9 hgrow9 hor9 hlt9)
        have HP:=Lib.hid (HD8.out.push HG9.out HR9.out HO9.out)
        go_roundw
        case rel =>
         refine⟨ok2,false,_,nn+1,_,at7,r7,rfl,rfl,Lib.hid ⟨HP.out,by have:=HLE7.out;have:=HLE6.out.1;omega,?_⟩⟩
         rcases HRS8.out with⟨e1,ar2,e2,e3,e4⟩ | ⟨e1,e2⟩
         ·refine .inl ⟨e1,?_,Fa.app (one1 h2 ar2),?_,fun z hz=>HCX.out.1 _ _ z e2 hz⟩
          ·have h1:=HP.out.ms.pat.lt
           have h2:=HC6.out.1.ms.pat.lt
           have h3:=HK6.out
           omega
          ·rw [<- Fo.app_assoc2]
           exact HF8.out.push HD8.out e3 HG9.out HR9.out
         ·exact .inr ⟨e1,HCX.out.2 _ e2⟩
        case measure =>
         have h1:=HP.out.ms.pat.natAt
         have h2:=HI.out.ci.ms.pat.natAt
         rw [h2]
         rw [h1]
         have h3:=HP.out.ms.pat.lt
         have h4:=HI.out.ci.ms.pat.lt
         have h5:=HC6.out.2.2.1
         rcases HRS8.out with⟨e1,ar2,e2,e3,e4⟩ | ⟨e1,e2⟩
         ·rw [e1]
          simp only [oneIf]
          omega
         ·rw [e1]
          have:=HLE7.out
          simp only [oneIf]
          omega
       ·have HB:Hid (Ps (.ag true .nil) r.tail (.bad r6)):=Lib.hid (by
         rcases HC6.out.2.2.2 with⟨h1,_⟩ | ⟨_,h1⟩
         ·cases h1
         ·exact h1)
        obtain⟨sa,sc,hvs⟩:=HC6.out.1.shape
        subst hvs
        obtain⟨y0,y1,y2,y3,y4,y5⟩:=HC6.out.1.cc.cells
        obtain⟨g0,g1,g2,g3,g4,g5⟩:=HC6.out.1.rc.froz
        obtain⟨x0,x1,x2,x3,x4,x5⟩:=HC6.out.1.rc.cells
        have hlR:=HC6.out.1.rc.lt
        have hlC:=HC6.out.1.cc.lt
        have HNE:=Lib.hid HC6.out.1.ne
        have HMZ:=Lib.hid (HC6.out.1.ms.s6 (b:=gR) HNE.out.2.2.2.1 (.int .i64 hd.k) (.int .i64 hd.op) (.int .i64 hd.v) (.int .i64 hd.ln) (.string (st hd.nm)) (.slice sa nn sc))
        have HDZ:=Lib.hid (HC6.out.1.rc.s6 hd (.slice sa nn sc))
        have HLE6:Hid (r6.length<=rest.length):=Lib.hid (by have h1:=HI.out.le;have h2:=HRT.out;have h3:=HLT.out;have h4:=HC6.out.2.2.1;omega)
        go_wp2_with fail
        obtain⟨wz,hwz⟩ : ∃ W,set6 wc gR (.int .i64 hd.k) (.int .i64 hd.op) (.int .i64 hd.v) (.int .i64 hd.ln) (.string (st hd.nm)) (.slice sa nn sc)=W:=⟨_,rfl⟩
        have hwz2:=hwz
        unfold set6 at hwz2
        (try rw [hwz2])
        rw [hwz] at HMZ HDZ
        obtain⟨d0,d1,d2,d3,d4,d5⟩:=HDZ.out.cells
        refine bodyPost_ret (v:=.tuple #[exv hd (.slice sa nn sc),.bool false]) (by simp [results,Tryd.results88,go_sem,d0,d1,d2,d3,d4,d5]) rfl ?_
        exact⟨hd,sa,nn,sc,false,at6,r6,rfl,HMZ.out.pat,HLE6.out,HMZ.out.gr,Lib.hid (.inr ⟨rfl,HCN.out.2 _ HB.out⟩)⟩
end Go.Proofs.YtpcdinelpfbpfaaDoor
