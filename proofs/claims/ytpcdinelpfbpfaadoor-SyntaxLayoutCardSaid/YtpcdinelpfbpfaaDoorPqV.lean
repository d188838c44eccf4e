/-
  WORDS of statements in blocks of their own; WALK of the implementation's parser's value. (Filled in from a template of this repo, printed by mk_pqv.py.)
-/
import Derived.Test.YtpcdinelpfbpfaaDoorPqZ
import Derived.Test.YtpcdinelpfbpfaaDoorOrk
import Derived.Test.YtpcdinelpfbpfaaDoorPsJ
namespace Go.Proofs.YtpcdinelpfbpfaaDoor
open Go.ChangeShapes Go.WideShapes Go.ChangeAt Go.RowKit
set_option linter.unusedVariables false
set_option linter.unusedSimpArgs false

abbrev scs (k ln:Int) (nm:Bt) (vx vt ve:Value):Array Value := #[.int .i64 k,.int .i64 ln,.string (st nm),vx,vt,ve]
def Ls (wx:World) (b:Nat) (k ln:Int) (nm:Bt) (vx vt ve:Value):Prop:=wx.heap[b]?=some (.cells (scs k ln nm vx vt ve) 83 (0,0))
section
variable {wx wy:World} {b:Nat} {k ln:Int} {nm:Bt} {vx vt ve:Value}
theorem Ls.lt (h:Ls wx b k ln nm vx vt ve):b<wx.heap.size:=heap_lt h
theorem Ls.al (h:Ls wx b k ln nm vx vt ve) (o:Obj):Ls (wx.alloc o) b k ln nm vx vt ve:=(Below.heap_alloc wx o b h.lt).trans h
theorem Ls.be (h:Ls wx b k ln nm vx vt ve) (hb:Below wx.heap.size wx wy):Ls wy b k ln nm vx vt ve:=(hb.block b h.lt).trans h
theorem Ls.grw {row:Option Nat} (h:Ls wx b k ln nm vx vt ve) (hg:wx.grownBy wy row) (hn:row≠some b):Ls wy b k ln nm vx vt ve:=(hg.block b h.lt (fun e=>hn e.symm)).trans h
theorem Ls.s1 (h:Ls wx b k ln nm vx vt ve) {p:Addr} {v:Value} (hn:b≠p.block):Ls (wx.setCell p v) b k ln nm vx vt ve:=(heap_setCell_other wx p b v hn).trans h
theorem Ls.s6o {g:Nat} {v0 v1 v2 v3 v4 v5:Value} (h:Ls wx b k ln nm vx vt ve) (hn:b≠g):Ls (set6 wx g v0 v1 v2 v3 v4 v5) b k ln nm vx vt ve:=(other_set6 b hn).trans h
theorem Ls.sk (h:Ls wx b k ln nm vx vt ve) (k2:Int):Ls (wx.setCell ⟨b,0,none⟩ (.int .i64 k2)) b k2 ln nm vx vt ve:=heap_setCell_same wx b 0 _ _ _ h
theorem Ls.sn (h:Ls wx b k ln nm vx vt ve) (n2:Bt):Ls (wx.setCell ⟨b,2,none⟩ (.string (st n2))) b k ln n2 vx vt ve:=heap_setCell_same wx b 2 _ _ _ h
theorem Ls.sx (h:Ls wx b k ln nm vx vt ve) (v2:Value):Ls (wx.setCell ⟨b,3,none⟩ v2) b k ln nm v2 vt ve:=heap_setCell_same wx b 3 _ _ _ h
theorem Ls.sth (h:Ls wx b k ln nm vx vt ve) (v2:Value):Ls (wx.setCell ⟨b,4,none⟩ v2) b k ln nm vx v2 ve:=heap_setCell_same wx b 4 _ _ _ h
theorem Ls.sel (h:Ls wx b k ln nm vx vt ve) (v2:Value):Ls (wx.setCell ⟨b,5,none⟩ v2) b k ln nm vx vt v2:=heap_setCell_same wx b 5 _ _ _ h
theorem Ls.cells (h:Ls wx b k ln nm vx vt ve):wx.cell? ⟨b,0,none⟩=some (.int .i64 k)/\wx.cell? ⟨b,1,none⟩=some (.int .i64 ln)/\wx.cell? ⟨b,2,none⟩=some (.string (st nm))/\wx.cell? ⟨b,3,none⟩=some vx/\wx.cell? ⟨b,4,none⟩=some vt/\wx.cell? ⟨b,5,none⟩=some ve :=
 ⟨cell_of_row _ b 0 _ _ _ h,cell_of_row _ b 1 _ _ _ h,cell_of_row _ b 2 _ _ _ h,cell_of_row _ b 3 _ _ _ h,cell_of_row _ b 4 _ _ _ h,cell_of_row _ b 5 _ _ _ h⟩
theorem Ls.froz (h:Ls wx b k ln nm vx vt ve):wx.frozen? ⟨b,0,none⟩=false/\wx.frozen? ⟨b,1,none⟩=false/\wx.frozen? ⟨b,2,none⟩=false/\wx.frozen? ⟨b,3,none⟩=false/\wx.frozen? ⟨b,4,none⟩=false/\wx.frozen? ⟨b,5,none⟩=false :=
 ⟨frozen_of_row _ b 0 _ _ h,frozen_of_row _ b 1 _ _ h,frozen_of_row _ b 2 _ _ h,frozen_of_row _ b 3 _ _ h,frozen_of_row _ b 4 _ _ h,frozen_of_row _ b 5 _ _ h⟩
theorem Ls.new (w:World) (k ln:Int) (nm:Bt) (vx vt ve:Value):Ls (w.alloc (.cells (scs k ln nm vx vt ve) 83)) w.heap.size k ln nm vx vt ve:=heap_alloc_new w _
end
abbrev setO (w:World) (b o:Nat) (v0 v1 v2 v3 v4 v5:Value):World:=(((((w.setCell ⟨b,o,none⟩ v0).setCell ⟨b,o+1,none⟩ v1).setCell ⟨b,o+2,none⟩ v2).setCell ⟨b,o+3,none⟩ v3).setCell ⟨b,o+4,none⟩ v4).setCell ⟨b,o+5,none⟩ v5
theorem setO_other {w:World} {b o:Nat} {v0 v1 v2 v3 v4 v5:Value} (k:Nat) (h:k≠b):(setO w b o v0 v1 v2 v3 v4 v5).heap[k]?=w.heap[k]?:=by
 unfold setO
 rw [heap_setCell_other _ _ k _ h,heap_setCell_other _ _ k _ h,heap_setCell_other _ _ k _ h,heap_setCell_other _ _ k _ h,heap_setCell_other _ _ k _ h,heap_setCell_other _ _ k _ h]
theorem setO_size (w:World) (b o:Nat) (v0 v1 v2 v3 v4 v5:Value):(setO w b o v0 v1 v2 v3 v4 v5).heap.size=w.heap.size:=by simp [setO,World.setCell]
theorem cell_setO {w:World} {b b' o o':Nat} {v0 v1 v2 v3 v4 v5 u:Value} (hne:b≠b') (h:w.cell? ⟨b',o',none⟩=some u):(setO w b o v0 v1 v2 v3 v4 v5).cell? ⟨b',o',none⟩=some u :=
 (World.cell?_of_block (a:=⟨b',o',none⟩) (setO_other b' (fun e=>hne e.symm))).trans h
theorem MS.sO {K:PC} {w wx:World} {at_:Nat} {r:List Tk} (h:MS K w wx at_ r) {b o:Nat} (hb:w.heap.size<=b) (v0 v1 v2 v3 v4 v5:Value):MS K w (setO wx b o v0 v1 v2 v3 v4 v5) at_ r :=
 (((((h.sc (p:=⟨b,o,none⟩) hb v0).sc (p:=⟨b,o+1,none⟩) hb v1).sc (p:=⟨b,o+2,none⟩) hb v2).sc (p:=⟨b,o+3,none⟩) hb v3).sc (p:=⟨b,o+4,none⟩) hb v4).sc (p:=⟨b,o+5,none⟩) hb v5
theorem heap_lt_of_own {w:World} {base e size n cap g:Nat} {xs:List Value} (h:w.ownsRow base e size (.slice (some ⟨g,0,none⟩) n cap) n xs):g<w.heap.size:=(h.lt g rfl).2
theorem own_setO {w:World} {base g n cap:Nat} {xs:List Value} {z0 z1 z2 z3 z4 z5:Value} (h:w.ownsRow base 40 6 (.slice (some ⟨g,0,none⟩) (n+1) cap) (n+1) (xs++[z0,z1,z2,z3,z4,z5])) (hx:xs.length=n * 6) (v0 v1 v2 v3 v4 v5:Value) :
  (setO w g (n * 6) v0 v1 v2 v3 v4 v5).ownsRow base 40 6 (.slice (some ⟨g,0,none⟩) (n+1) cap) (n+1) (xs++[v0,v1,v2,v3,v4,v5]):=by
 have e:xs++[v0,v1,v2,v3,v4,v5]=((((((xs++[z0,z1,z2,z3,z4,z5]).set (n * 6) v0).set (n * 6+1) v1).set (n * 6+2) v2).set (n * 6+3) v3).set (n * 6+4) v4).set (n * 6+5) v5:=by
  rw [<- hx]
  simp
 rw [e]
 exact((((((h.stored (n * 6) v0).1.stored (n * 6+1) v1).1.stored (n * 6+2) v2).1.stored (n * 6+3) v3).1.stored (n * 6+4) v4).1.stored (n * 6+5) v5).1
def VlPost (K:PC) (wS:World) (gs:Nat) (k ln:Int) (nm:Bt) (vx vt ve:Value) (nn:Nat) (xs:List Value) (rest:List Tk) (w:World) (e:Ending) (w':World):Prop :=
 ∃ (ok:Bool) (at2:Nat) (r:List Tk) (g9 c9:Nat) (h:Hd) (a:Option Addr) (n c:Nat),e=.returned (.bool ok)/\MS K wS w' at2 r/\r.length<=rest.length/\Ls w' gs k ln nm (.slice (some ⟨g9,0,none⟩) (nn+1) c9) vt ve /\
  w'.ownsRow wS.heap.size 40 6 (.slice (some ⟨g9,0,none⟩) (nn+1) c9) (nn+1) (xs++hdc h (.slice a n c))/\(vx.ownBlock=some g9\/w.heap.size<=g9)/\w.heap.size<=w'.heap.size /\
  Hid ((∀ b,b<w.heap.size->b≠K.g->b≠gs->some b≠vx.ownBlock->w'.heap[b]?=w.heap[b]?)/\((ok=true /\ ∃ ar,Ps .ex rest (.ok (one1 h ar) r)/\ArgsAt w' (fun b=>w.heap.size<=b/\b≠g9) ar (.slice a n c)/\r.length<rest.length)\/(ok=false/\Ps .ex rest (.bad r))))
set_option maxRecDepth 100000 in
set_option maxHeartbeats 16000000 in
theorem pvalue_any (K:PC) (wS:World) (at_ gs:Nat) (rest:List Tk) (k ln:Int) (nm:Bt) (vx vt ve:Value) (nn:Nat) (xs:List Value) (w:World) (hM:MS K wS w at_ rest) (hL:Ls w gs k ln nm vx vt ve) (ho:w.ownsRow wS.heap.size 40 6 vx nn xs) (hgs:wS.heap.size<=gs) (hne:vx.ownBlock≠some gs) (hnn:nn<=1) :
  Calls Tryd.prog 69 #[.pointer (some ⟨K.g,0,none⟩),.pointer (some ⟨gs,0,none⟩)] w (VlPost K wS gs k ln nm vx vt ve nn xs rest w):=by
 have HM:=Lib.hid hM
 have HL:=Lib.hid hL
 have HO:=Lib.hid ho
 have HGS:=Lib.hid hgs
 have HNE:=Lib.hid hne
 have HNN:=Lib.hid hnn
 clear hM hL ho hgs hne hnn
 go_enter Tryd.func69,Tryd.ntmps69
 go_wp2_with fail
 refine(pexpr_any K at_ rest _ HM.out.pat).mono ?_
 rintro e w2 ⟨h,a,n,c,ok,at2,r,rfl,hp2,hle2,hg2,hres⟩
 have HM3:=Lib.hid ((HM.out.call hp2 hg2).al (.cells (ecs h (.slice a n c)) 40))
 have HL3:=Lib.hid ((HL.out.grw hg2 (by have:=HM.out.gl;have:=HGS.out;intro e;injection e with e;omega)).al (.cells (ecs h (.slice a n c)) 40))
 have HO3:=Lib.hid ((own_grown HO.out hg2 HM.out.gl).alloc (.cells (ecs h (.slice a n c)) 40))
 have HX3:=Lib.hid (Lc.new w2 h (.slice a n c))
 have HKP:Hid (w.heap.size<=w2.heap.size/\(∀ b,b<w.heap.size->b≠K.g->(w2.alloc (.cells (ecs h (.slice a n c)) 40)).heap[b]?=w.heap[b]?)/\(w2.alloc (.cells (ecs h (.slice a n c)) 40)).heap.size=w2.heap.size+1):=Lib.hid ⟨hg2.size,fun b hb hn=>(Below.heap_alloc w2 _ b (by have:=hg2.size;omega)).trans (hg2.block b hb (fun e=>by injection e with e;exact hn e)),by simp⟩
 have HRS:Hid (r.length<=rest.length/\((ok=true /\ ∃ ar,Ps .ex rest (.ok (one1 h ar) r)/\ArgsAt (w2.alloc (.cells (ecs h (.slice a n c)) 40)) (fun b=>w.heap.size<=b/\b<w2.heap.size) ar (.slice a n c)/\r.length<rest.length)\/(ok=false/\Ps .ex rest (.bad r)))):=Lib.hid (by
  refine⟨hle2,?_⟩
  rcases hres.out with⟨h1,ar,h2,h3,h4⟩ | hr
  ·exact .inl ⟨h1,ar,h2,args_mono (args_al _ (args_mono h3 (Q:=fun b=>w.heap.size<=b/\b<w2.heap.size) (fun b hb hlt=>⟨hb,hlt⟩))) (fun b hb _=>hb.1),h4⟩
  ·exact .inr hr)
 clear hres hp2 hg2 hle2
 go_upto_region 2 with fail
 obtain⟨w3,hw3⟩ : ∃ W,w2.alloc (.cells (ecs h (.slice a n c)) 40)=W:=⟨_,rfl⟩
 obtain⟨gx,hgx⟩ : ∃ x,w2.heap.size=x:=⟨_,rfl⟩
 (try rw [show w2.alloc (.cells #[.int .i64 h.k,.int .i64 h.op,.int .i64 h.v,.int .i64 h.ln,.string (st h.nm),.slice a n c] 40)=w3 from hw3])
 rw [hw3,hgx] at HX3 HKP HRS
 rw [hw3] at HM3 HL3 HO3
 (try rw [hgx])
 clear hw3 hgx
 obtain⟨wd,hwd⟩ : ∃ W,w3.drew=W:=⟨_,rfl⟩
 have HB:=Lib.hid (show Below w3.heap.size w3 wd by rw [<- hwd];exact(Below.refl _ _).drew)
 have HMd:=Lib.hid (HM3.out.be HB.out)
 have HLd:=Lib.hid (HL3.out.be HB.out)
 have HOd:=Lib.hid (HO3.out.kept (grownBy_of_below HB.out none) (by cases vx.ownBlock with | none=>exact .inl rfl | some k=>exact .inr (by simp)))
 have HXd:=Lib.hid (HX3.out.be HB.out)
 have HNG:Hid (gs≠gx):=Lib.hid (by have:=HL.out.lt;have:=HKP.out.1;omega)
 obtain⟨q0,q1,q2,q3,q4,q5⟩:=HLd.out.cells
 obtain⟨x0,x1,x2,x3,x4,x5⟩:=HXd.out.cells
 obtain⟨av,cv,hshape⟩ : ∃ a c,vx=.slice a nn c:=by
  rcases HOd.out.2 with⟨e,e2⟩ | ⟨g9,cap,cur,e,_⟩
  ·exact⟨none,0,by rw [e,e2]⟩
  ·exact⟨_,_,e⟩
 subst hshape
 refine wp_region_K 12 (fun w'=>w'.cell? ⟨gs,3,none⟩=some (.slice av nn cv)/\w'.cell? ⟨gx,0,none⟩=some (.int .i64 h.k)/\w'.cell? ⟨gx,1,none⟩=some (.int .i64 h.op)/\w'.cell? ⟨gx,2,none⟩=some (.int .i64 h.v)/\w'.cell? ⟨gx,3,none⟩=some (.int .i64 h.ln)/\w'.cell? ⟨gx,4,none⟩=some (.string (st h.nm))/\w'.cell? ⟨gx,5,none⟩=some (.slice a n c)) (by kernel_rfl) (by rw [hwd];exact⟨q3,x0,x1,x2,x3,x4,x5⟩) (fun hHeld=>?_)
 rw [hwd] at hHeld ⊢
 clear hwd q0 q1 q2 q3 q4 q5 x0 x1 x2 x3 x4 x5
 refine tkK 0 12 ?_
 refine tkK 1 13 ?_
 refine tkK 2 14 ?_
 refine tkK 3 15 ?_
 refine tkK 4 16 ?_
 refine tkK 5 17 ?_
 refine rdK 6 fun K0 hK=>?_
 go_simp
 refine goK hK (fun _=>⟨cell_ml _ hHeld.1,cell_ml _ hHeld.2.1,cell_ml _ hHeld.2.2.1,cell_ml _ hHeld.2.2.2.1,cell_ml _ hHeld.2.2.2.2.1,cell_ml _ hHeld.2.2.2.2.2.1,cell_ml _ hHeld.2.2.2.2.2.2⟩) ?_
 clear hK K0
 have HM5:=Lib.hid (HMd.out.al (.cells #[.int .i64 0,.int .i64 0,.int .i64 0,.int .i64 0,.string { data := #[] },.slice none 0 0] 40))
 have HL5:=Lib.hid (HLd.out.al (.cells #[.int .i64 0,.int .i64 0,.int .i64 0,.int .i64 0,.string { data := #[] },.slice none 0 0] 40))
 have HX5:=Lib.hid (HXd.out.al (.cells #[.int .i64 0,.int .i64 0,.int .i64 0,.int .i64 0,.string { data := #[] },.slice none 0 0] 40))
 have HO5:=Lib.hid (HOd.out.alloc (.cells #[.int .i64 0,.int .i64 0,.int .i64 0,.int .i64 0,.string { data := #[] },.slice none 0 0] 40))
 have hszw:=HMd.out.gr.size
 have hnn:=HNN.out
 obtain⟨i0,hi0,hz0,hz1,hz2⟩:=info_parts Tryd.infoExpr
 have HIF:=Lib.hid hi0
 have HZ0:=Lib.hid hz0
 have HZ1:=Lib.hid hz1
 have HZ2:=Lib.hid hz2
 clear hi0 hz0 hz1 hz2 hHeld
 refine rdK 7 fun K0 hK=>?_
 refine step_append_lies _ rfl _ _ _ rfl wS.heap.size 40 i0 _ 6 72 Tryd.underlying38 HIF.out HZ0.out HZ1.out HZ2.out rfl (by omega) (.slice av nn cv) nn xs rfl HO5.out ⟨wd.heap.size,0,none⟩ 1 1 [.int .i64 0,.int .i64 0,.int .i64 0,.int .i64 0,.string { data := #[] },.slice none 0 0] rfl rfl (World.news_of_block (cs := #[.int .i64 0,.int .i64 0,.int .i64 0,.int .i64 0,.string { data := #[] },.slice none 0 0]) (t:=40) (fr:=(0,0)) (heap_alloc_new wd _)) (by simp [Value.oneCell']) (by omega) (by unfold maxLen;omega) (by omega) (by simp;omega) _ rfl ?_
 intro g9 c9 w9 hown9 hgrow9 hor9 hlt9
 have HO9:=Lib.hid hown9
 have HG9:=Lib.hid hgrow9
 have HLT:Hid (g9≠gs/\g9≠gx/\wS.heap.size<=g9/\(Value.slice av nn cv).ownBlock≠some gx/\((Value.slice av nn cv).ownBlock=some g9\/w.heap.size<=g9)/\g9≠K.g):=Lib.hid (by
  have h1:=HL.out.lt
  have h2:=HKP.out
  have h3:=HX3.out.lt
  have h4:=HB.out.size
  have h5:=HM.out.gl
  have h6:=HM.out.gr.size
  have h7:(wd.alloc (.cells #[.int .i64 0,.int .i64 0,.int .i64 0,.int .i64 0,.string { data := #[] },.slice none 0 0] 40)).heap.size=wd.heap.size+1:=by simp
  rcases hor9 with e | e
  ·have h8:=HO.out.lt g9 e
   refine⟨fun e2=>?_,by omega,h8.1,fun e2=>?_,.inl e,by omega⟩
   ·have:=HNE.out;rw [e,e2] at this;exact this rfl
   ·rw [e] at e2;injection e2 with e2;omega
  ·refine⟨by omega,by omega,by omega,fun e2=>?_,.inr (by omega),by omega⟩
   have h8:=HO.out.lt gx e2
   omega)
 have HNEW:Hid ((Value.slice av nn cv).ownBlock=some g9\/gx<g9):=Lib.hid (by
  have h3:=HX3.out.lt
  have h4:=HB.out.size
  have h7:(wd.alloc (.cells #[.int .i64 0,.int .i64 0,.int .i64 0,.int .i64 0,.string { data := #[] },.slice none 0 0] 40)).heap.size=wd.heap.size+1:=by simp
  rcases hor9 with e | e
  ·exact .inl e
  ·exact .inr (by omega))
 have HM9:=Lib.hid (HM5.out.own hgrow9 (fun k2 e=>(HO.out.lt k2 e).1))
 have HL9:=Lib.hid (HL5.out.grw hgrow9 HNE.out)
 have HX9:=Lib.hid (HX5.out.grw hgrow9 HLT.out.2.2.2.1)
 obtain⟨q0,q1,q2,q3,q4,q5⟩:=HL9.out.cells
 obtain⟨x0,x1,x2,x3,x4,x5⟩:=HX9.out.cells
 have hHeld:(fun w'=>w'.cell? ⟨gs,3,none⟩=some (.slice av nn cv)/\w'.cell? ⟨gx,0,none⟩=some (.int .i64 h.k)/\w'.cell? ⟨gx,1,none⟩=some (.int .i64 h.op)/\w'.cell? ⟨gx,2,none⟩=some (.int .i64 h.v)/\w'.cell? ⟨gx,3,none⟩=some (.int .i64 h.ln)/\w'.cell? ⟨gx,4,none⟩=some (.string (st h.nm))/\w'.cell? ⟨gx,5,none⟩=some (.slice a n c)) w9:=⟨q3,x0,x1,x2,x3,x4,x5⟩
 change K0 (Act.put _ (some 19) (.slice (some ⟨g9,0,none⟩) (nn+1) c9)) w9
 refine goK hK (fun _=>hHeld) ?_
 clear hK K0 hown9 hgrow9 hor9 q0 q1 q2 q3 q4 q5 x0 x1 x2 x3 x4 x5
 have hin:(nn:Int)<((nn+1:Nat):Int):=by omega
 have hi0:(0:Int)<=(nn:Int):=by omega
 refine wpAnyK_takeY (i:=8) (dd:=some 20) (v:=?_) rfl (by kernel_rfl) (by decide) (by kernel_rfl) (by kernel_rfl) (by kernel_rfl) (fun _ _ _ h=>h) (Or.inl ⟨by kernel_rfl,?_⟩) (fun _=>hHeld) ?_
 rotate_left
 ·(intro w hSw;go_simp;try (first | with_reducible rfl | (split <;> first | (exfalso;omega) | with_reducible rfl)))
 (try simp only [Act.put,List.setIfInBounds_toArray,List.set_cons_zero,List.set_cons_succ])
 refine wpAnyK_takeY (i:=10) (dd:=some 21) (v:=?_) rfl (by kernel_rfl) (by decide) (by kernel_rfl) (by kernel_rfl) (by kernel_rfl) (fun _ _ _ h=>h) (Or.inl ⟨by kernel_rfl,?_⟩) (fun _=>hHeld) ?_
 rotate_left
 ·(intro w hSw;go_simp;try (first | with_reducible rfl | (split <;> first | (exfalso;omega) | with_reducible rfl)))
 (try simp only [Act.put,List.setIfInBounds_toArray,List.set_cons_zero,List.set_cons_succ])
 refine wpAnyK_takeY (i:=11) (dd:=some 22) (v:=?_) rfl (by kernel_rfl) (by decide) (by kernel_rfl) (by kernel_rfl) (by kernel_rfl) (fun _ _ _ h=>h) (Or.inl ⟨by kernel_rfl,?_⟩) (fun _=>hHeld) ?_
 rotate_left
 ·(intro w hSw;go_simp;try (first | with_reducible rfl | (split <;> first | (exfalso;omega) | with_reducible rfl)))
 (try simp only [Act.put,List.setIfInBounds_toArray,List.set_cons_zero,List.set_cons_succ])
 have HC9:=Lib.hid (own_setO (n:=nn) (xs:=xs) HO9.out HO3.out.1 (.int .i64 h.k) (.int .i64 h.op) (.int .i64 h.v) (.int .i64 h.ln) (.string (st h.nm)) (.slice a n c))
 have hco : ∀ j,j<6->w9.cell? ⟨g9,nn * 6+j,none⟩=[Value.int .i64 0,.int .i64 0,.int .i64 0,.int .i64 0,.string { data := #[] },.slice none 0 0][j]?:=fun j hj=>by
  have h1:=HO9.out.cellAt (nn * 6+j) (by omega)
  rw [h1]
  have hx:xs.length=nn * 6:=HO3.out.1
  rw [List.getElem?_append_right (by omega),hx,Nat.add_sub_cancel_left]
 have hfo : ∀ j,w9.frozen? ⟨g9,j,none⟩=false:=fun j=>HO9.out.frozenAt j
 have e0:w9.cell? ⟨g9,nn * 6,none⟩=some (.int .i64 0):=hco 0 (by omega)
 have e1:w9.cell? ⟨g9,nn * 6+1,none⟩=some (.int .i64 0):=hco 1 (by omega)
 have e2:w9.cell? ⟨g9,nn * 6+2,none⟩=some (.int .i64 0):=hco 2 (by omega)
 have e3:w9.cell? ⟨g9,nn * 6+3,none⟩=some (.int .i64 0):=hco 3 (by omega)
 have e4:w9.cell? ⟨g9,nn * 6+4,none⟩=some (.string { data := #[] }):=hco 4 (by omega)
 have e5:w9.cell? ⟨g9,nn * 6+5,none⟩=some (.slice none 0 0):=hco 5 (by omega)
 have f0:=hfo (nn * 6)
 have f1:=hfo (nn * 6+1)
 have f2:=hfo (nn * 6+2)
 have f3:=hfo (nn * 6+3)
 have f4:=hfo (nn * 6+4)
 have f5:=hfo (nn * 6+5)
 have hlg:g9<w9.heap.size:=heap_lt_of_own HO9.out
 obtain⟨q0,q1,q2,q3,q4,q5⟩:=HL9.out.cells
 obtain⟨g0,g1,g2,g3,g4,g5⟩:=HL9.out.froz
 have hls:=HL9.out.lt
 clear hco hfo
 have HPOST:Hid (∀ W,MS K wS W at2 r->Ls W gs k ln nm (.slice (some ⟨g9,0,none⟩) (nn+1) c9) vt ve->W.ownsRow wS.heap.size 40 6 (.slice (some ⟨g9,0,none⟩) (nn+1) c9) (nn+1) (xs++hdc h (.slice a n c))->(∀ b,b≠g9->b≠gs->W.heap[b]?=w9.heap[b]?)->W.heap.size=w9.heap.size->VlPost K wS gs k ln nm (.slice av nn cv) vt ve nn xs rest w (.returned (.bool ok)) W):=Lib.hid (fun W h1 h2 h3 h4 h5=>by
  have k1:=HL.out.lt
  have k2:=HKP.out
  have k3:=HB.out.size
  have k4:(wd.alloc (.cells #[.int .i64 0,.int .i64 0,.int .i64 0,.int .i64 0,.string { data := #[] },.slice none 0 0] 40)).heap.size=wd.heap.size+1:=by simp
  have k5:=HG9.out.size
  have k6 : ∀ b,b<w3.heap.size->some b≠(Value.slice av nn cv).ownBlock->w9.heap[b]?=w3.heap[b]?:=fun b hb hn=>(HG9.out.block b (by omega) hn).trans ((Below.heap_alloc wd (.cells #[.int .i64 0,.int .i64 0,.int .i64 0,.int .i64 0,.string { data := #[] },.slice none 0 0] 40) b (by omega)).trans (HB.out.block b hb))
  have k7:=HLT.out
  refine⟨ok,at2,r,g9,c9,h,a,n,c,rfl,h1,HRS.out.1,h2,h3,k7.2.2.2.2.1,by omega,Lib.hid ⟨fun b hb n1 n2 n3=>?_,?_⟩⟩
  ·have n4:b≠g9:=fun e=>by
    rcases k7.2.2.2.2.1 with e2 | e2
    ·exact n3 (by rw [e2,e])
    ·omega
   exact((h4 b n4 n2).trans (k6 b (by omega) n3)).trans (k2.2.1 b hb n1)
  ·rcases HRS.out.2 with⟨q1,ar,q2,q3,q4⟩ | hr
   ·refine .inl ⟨q1,ar,q2,q3.keep (fun b hb hlt=>?_) (by omega),q4⟩
    have n3:some b≠(Value.slice av nn cv).ownBlock:=fun e=>by have:=(HO.out.lt b e.symm).2;omega
    have n4:b≠g9:=fun e=>by
     rcases HNEW.out with e2 | e2
     ·exact n3 (by rw [e2,e])
     ·omega
    exact⟨(h4 b n4 (by omega)).trans (k6 b hlt n3),hb.1,n4⟩
   ·exact .inr hr)
 refine wpAnyK_two (i:=9) (j:=12) (by kernel_rfl) rfl rfl (fun K0 hK=>?_) (fun K0 hK=>?_)
 ·go_simp
  refine goK hK (fun _=>⟨cell_setO HLT.out.1 hHeld.1,cell_setO HLT.out.2.1 hHeld.2.1,cell_setO HLT.out.2.1 hHeld.2.2.1,cell_setO HLT.out.2.1 hHeld.2.2.2.1,cell_setO HLT.out.2.1 hHeld.2.2.2.2.1,cell_setO HLT.out.2.1 hHeld.2.2.2.2.2.1,cell_setO HLT.out.2.1 hHeld.2.2.2.2.2.2⟩) ?_
  clear hK K0
  have HLA:=Lib.hid (show Ls (setO w9 g9 (nn * 6) (.int .i64 h.k) (.int .i64 h.op) (.int .i64 h.v) (.int .i64 h.ln) (.string (st h.nm)) (.slice a n c)) gs k ln nm (.slice av nn cv) vt ve from (setO_other gs (fun e=>HLT.out.1 e.symm)).trans HL9.out)
  have HFIN:Hid (∀ W,W=(setO w9 g9 (nn * 6) (.int .i64 h.k) (.int .i64 h.op) (.int .i64 h.v) (.int .i64 h.ln) (.string (st h.nm)) (.slice a n c)).setCell ⟨gs,3,none⟩ (.slice (some ⟨g9,0,none⟩) (nn+1) c9)->VlPost K wS gs k ln nm (.slice av nn cv) vt ve nn xs rest w (.returned (.bool ok)) W):=Lib.hid (fun W hW=>by
   subst hW
   refine HPOST.out _ ((HM9.out.sO HLT.out.2.2.1 _ _ _ _ _ _).sc (p:=⟨gs,3,none⟩) HGS.out _) (HLA.out.sx _) (HC9.out.kept (grownBy_set _ gs 3 _) (.inr (by show some g9≠some gs;have:=HLT.out.1;simp;exact this))) (fun b n1 n2=>(heap_setCell_other _ _ b _ n2).trans (setO_other b n1)) (by simp [World.setCell]))
  obtain⟨p0,p1,p2,p3,p4,p5⟩:=HLA.out.cells
  obtain⟨j0,j1,j2,j3,j4,j5⟩:=HLA.out.froz
  have hlA:=HLA.out.lt
  refine rdK 12 fun K0 hK=>?_
  go_simp
  refine hK.out _ _ (fun h=>absurd h (by decide)) ?_
  clear hK K0
  (try simp only [Act.put,List.setIfInBounds_toArray,List.set_cons_zero,List.set_cons_succ])
  refine wpAnyK_done (by kernel_rfl) ?_ _
  (try simp only [Act.put,List.setIfInBounds_toArray,List.set_cons_zero,List.set_cons_succ])
  have hfin:=HFIN.out _ rfl
  clear HFIN
  go_wp2_with fail
  refine bodyPost_ret (v:=.bool ok) (by simp [results,Tryd.results69,go_sem]) rfl ?_
  exact hfin
 ·go_simp
  refine hK.out _ _ (fun h=>absurd h (by decide)) ?_
  clear hK K0
  (try simp only [Act.put,List.setIfInBounds_toArray,List.set_cons_zero,List.set_cons_succ])
  obtain⟨wq,hwq⟩ : ∃ W,w9.setCell ⟨gs,3,none⟩ (.slice (some ⟨g9,0,none⟩) (nn+1) c9)=W:=⟨_,rfl⟩
  have hng : ∀ b,b≠gs->wq.heap[b]?=w9.heap[b]?:=fun b hb=>by rw [<- hwq];exact heap_setCell_other _ _ b _ hb
  have HMQ:Hid (MS K wS wq at2 r):=Lib.hid (by rw [<- hwq];exact HM9.out.sc (p:=⟨gs,3,none⟩) HGS.out _)
  have HLQ:Hid (Ls wq gs k ln nm (.slice (some ⟨g9,0,none⟩) (nn+1) c9) vt ve):=Lib.hid (by rw [<- hwq];exact HL9.out.sx _)
  have HOQ:Hid (wq.ownsRow wS.heap.size 40 6 (.slice (some ⟨g9,0,none⟩) (nn+1) c9) (nn+1) (xs++[.int .i64 0,.int .i64 0,.int .i64 0,.int .i64 0,.string { data := #[] },.slice none 0 0])):=Lib.hid (by rw [<- hwq];exact HO9.out.kept (grownBy_set _ gs 3 _) (.inr (by show some g9≠some gs;have:=HLT.out.1;simp;exact this)))
  have HSQ:Hid (wq.heap.size=w9.heap.size):=Lib.hid (by rw [<- hwq];simp [World.setCell])
  have HNQ:=Lib.hid hng
  have hne:g9≠gs:=HLT.out.1
  have e0':wq.cell? ⟨g9,nn * 6,none⟩=some (.int .i64 0):=(World.cell?_of_block (a:=⟨g9,nn * 6,none⟩) (hng g9 hne)).trans e0
  have e1':wq.cell? ⟨g9,nn * 6+1,none⟩=some (.int .i64 0):=(World.cell?_of_block (a:=⟨g9,nn * 6+1,none⟩) (hng g9 hne)).trans e1
  have e2':wq.cell? ⟨g9,nn * 6+2,none⟩=some (.int .i64 0):=(World.cell?_of_block (a:=⟨g9,nn * 6+2,none⟩) (hng g9 hne)).trans e2
  have e3':wq.cell? ⟨g9,nn * 6+3,none⟩=some (.int .i64 0):=(World.cell?_of_block (a:=⟨g9,nn * 6+3,none⟩) (hng g9 hne)).trans e3
  have e4':wq.cell? ⟨g9,nn * 6+4,none⟩=some (.string { data := #[] }):=(World.cell?_of_block (a:=⟨g9,nn * 6+4,none⟩) (hng g9 hne)).trans e4
  have e5':wq.cell? ⟨g9,nn * 6+5,none⟩=some (.slice none 0 0):=(World.cell?_of_block (a:=⟨g9,nn * 6+5,none⟩) (hng g9 hne)).trans e5
  have f0':=HOQ.out.frozenAt (nn * 6)
  have f1':=HOQ.out.frozenAt (nn * 6+1)
  have f2':=HOQ.out.frozenAt (nn * 6+2)
  have f3':=HOQ.out.frozenAt (nn * 6+3)
  have f4':=HOQ.out.frozenAt (nn * 6+4)
  have f5':=HOQ.out.frozenAt (nn * 6+5)
  have hlq:g9<wq.heap.size:=heap_lt_of_own HOQ.out
  (try rw [hwq])
  have HFIN:Hid (∀ W,W=setO wq g9 (nn * 6) (.int .i64 h.k) (.int .i64 h.op) (.int .i64 h.v) (.int .i64 h.ln) (.string (st h.nm)) (.slice a n c)->VlPost K wS gs k ln nm (.slice av nn cv) vt ve nn xs rest w (.returned (.bool ok)) W):=Lib.hid (fun W hW=>by
   subst hW
   exact HPOST.out _ (HMQ.out.sO HLT.out.2.2.1 _ _ _ _ _ _) ((setO_other gs (fun e=>HLT.out.1 e.symm)).trans HLQ.out) (own_setO HOQ.out HO3.out.1 _ _ _ _ _ _) (fun b n1 n2=>(setO_other b n1).trans (HNQ.out b n2)) (by rw [setO_size];exact HSQ.out))
  clear e0 e1 e2 e3 e4 e5 f0 f1 f2 f3 f4 f5 hlg q0 q1 q2 q3 q4 q5 g0 g1 g2 g3 g4 g5 hls hwq hng
  refine rdK 9 fun K0 hK=>?_
  go_simp
  refine hK.out _ _ (fun h=>absurd h (by decide)) ?_
  clear hK K0
  (try simp only [Act.put,List.setIfInBounds_toArray,List.set_cons_zero,List.set_cons_succ])
  refine wpAnyK_done (by kernel_rfl) ?_ _
  (try simp only [Act.put,List.setIfInBounds_toArray,List.set_cons_zero,List.set_cons_succ])
  have hfin:=HFIN.out _ rfl
  clear HFIN
  go_wp2_with fail
  refine bodyPost_ret (v:=.bool ok) (by simp [results,Tryd.results69,go_sem]) rfl ?_
  exact hfin
end Go.Proofs.YtpcdinelpfbpfaaDoor
