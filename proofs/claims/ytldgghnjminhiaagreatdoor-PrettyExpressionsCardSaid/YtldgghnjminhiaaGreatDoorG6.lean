/-
  WORDS, PLAIN LAWS and WALKS (PsX), pressed. (Filled in from templates of this repo.)
-/
import Derived.Test.YtldgghnjminhiaaGreatDoorG5
namespace Go.Proofs.YtldgghnjminhiaaGreatDoor
open Go.ChangeAt Go.ChangeShapes Go.RowKit Go.WideShapes
set_option linter.unusedVariables false
set_option linter.unusedSimpArgs false
set_option maxRecDepth 100000
set_option maxHeartbeats 16000000
section
theorem Xy {w:World} {P Q:Nat->Prop} {ar:Fo} {sl:Value} (h:Xv w P ar sl) (hPQ:∀ b,P b->b<w.heap.size->Q b):Xv w Q ar sl:=h.keep (λ b hb hlt=>⟨rfl,hPQ b hb hlt⟩) (Nat.le_refl _)
theorem Yu {w:World} {P:Nat->Prop} {ar:Fo} {sl:Value} (o:Obj) (h:Xv w P ar sl):Xv (w.alloc o) (λ b=>P b/\b≠w.heap.size) ar sl:=h.keep (λ b hb hlt=>⟨Below.heap_alloc w o b hlt,hb,by omega⟩) (by simp)
theorem Yl {w w':World} {P:Nat->Prop} {ar:Fo} {sl:Value} {g:Nat} (h:Xv w P ar sl) (hg:w.grownBy w' (some g)) (hP:∀ b,P b->b≠g):Xv w' P ar sl:=h.keep (λ b hb hlt=>⟨hg.block b hlt (λ e=>by injection e with e;exact hP b hb e),hb⟩) hg.size
theorem Xd {w:World} {P:Nat->Prop} {ar:Fo} {sl:Value} {g:Nat} {v0 v1 v2 v3 v4 v5:Value} (h:Xv w P ar sl) (hP:∀ b,P b->b≠g):Xv (set6 w g v0 v1 v2 v3 v4 v5) P ar sl:=h.keep (λ b hb hlt=>⟨Zj b (hP b hb),hb⟩) (by rw[Qz];exact Nat.le_refl _)
theorem Vt {w:World} {P:Nat->Prop} {ar:Fo} {sl:Value} {p:Addr} {v:Value} (h:Xv w P ar sl) (hP:∀ b,P b->b≠p.block):Xv (w.setCell p v) P ar sl:=h.keep (λ b hb hlt=>⟨heap_setCell_other w p b v (hP b hb),hb⟩) (by simp[World.setCell])
structure MS (K:PC) (w wx:World) (at_:Nat) (r:List Tk):Prop where
 pat:PAt wx K at_ r
 gr:w.grownBy wx (some K.g)
 gl:K.g<w.heap.size
 tl:∀ x,K.al=some x->x.block<w.heap.size
section
variable {K:PC} {w wx wy:World} {at_ at2:Nat} {r r2:List Tk}
theorem MS.init (h:PAt w K at_ r):MS K w w at_ r:=by
 refine⟨h,⟨rfl,rfl,rfl,Nat.le_refl _,λ _ _ _=>rfl⟩,h.glt,λ x hx=>?_⟩
 obtain⟨y,s,b,off,_,e,hb,_⟩:=h.tok
 rw[e] at hx
 injection hx with hx
 subst hx
 exact hb
theorem MS.be (h:MS K w wx at_ r) (hb:Below wx.heap.size wx wy):MS K w wy at_ r:=⟨h.pat.below hb,Xg h.gr (Xm hb _),h.gl,h.tl⟩
theorem MS.al (h:MS K w wx at_ r) (o:Obj):MS K w (wx.alloc o) at_ r:=h.be (Xk wx o)
theorem MS.sc (h:MS K w wx at_ r) {p:Addr} (hp:w.heap.size<=p.block) (v:Value):MS K w (wx.setCell p v) at_ r :=
 have hg:wx.grownBy (wx.setCell p v) (some p.block):=⟨rfl,rfl,rfl,by simp[World.setCell],λ k hk hn=>heap_setCell_other wx p k v (λ e=>hn (by rw[e]))⟩
 ⟨h.pat.grown hg (λ k e=>by injection e with e;subst e;exact⟨by have:=h.gl;omega,λ x hx=>by have:=h.tl x hx;omega⟩),Yv h.gr hp,h.gl,h.tl⟩
theorem MS.s6 (h:MS K w wx at_ r) {b:Nat} (hb:w.heap.size<=b) (v0 v1 v2 v3 v4 v5:Value):MS K w (set6 wx b v0 v1 v2 v3 v4 v5) at_ r :=
 (((((h.sc (p:=⟨b,0,none⟩) hb v0).sc (p:=⟨b,1,none⟩) hb v1).sc (p:=⟨b,2,none⟩) hb v2).sc (p:=⟨b,3,none⟩) hb v3).sc (p:=⟨b,4,none⟩) hb v4).sc (p:=⟨b,5,none⟩) hb v5
theorem MS.step (h:MS K w wx at_ r) (hk:kOf r≠0):MS K w (wx.setCell ⟨K.g,1,none⟩ (.int .i64 ((at_:Int)+1))) (at_+1) r.tail:=⟨h.pat.step hk,Xg h.gr (Xc wx K.g 1 _),h.gl,h.tl⟩
theorem MS.call (h:MS K w wx at_ r) (hp:PAt wy K at2 r2) (hg:wx.grownBy wy (some K.g)):MS K w wy at2 r2:=⟨hp,Xg h.gr hg,h.gl,h.tl⟩
theorem MS.w1 (h:MS K w wx at_ r):IntKind.i64.wrap ((at_:Int)+1)=(at_:Int)+1:=by
 have:=h.pat.lt.1
 have:=h.pat.n
 rw[IntKind.wrap_i64];omega
end
abbrev ecs (h:Hd) (sl:Value):Array Value := #[.int .i64 h.k,.int .i64 h.op,.int .i64 h.v,.int .i64 h.ln,.string (st h.nm),sl]
def Lc (wx:World) (b:Nat) (h:Hd) (sl:Value):Prop:=wx.heap[b]?=some (.cells (ecs h sl) 37 (0,0))
section
variable {wx wy:World} {b:Nat} {h:Hd} {sl:Value}
theorem Lc.lt (k:Lc wx b h sl):b<wx.heap.size:=Xp k
theorem Lc.al (k:Lc wx b h sl) (o:Obj):Lc (wx.alloc o) b h sl:=(Below.heap_alloc wx o b k.lt).trans k
theorem Lc.be (k:Lc wx b h sl) (hb:Below wx.heap.size wx wy):Lc wy b h sl:=(hb.block b k.lt).trans k
theorem Lc.gr {g:Nat} (k:Lc wx b h sl) (hg:wx.grownBy wy (some g)) (hn:b≠g):Lc wy b h sl:=(hg.block b k.lt (λ e=>by injection e with e;exact hn e)).trans k
theorem Lc.s1 (k:Lc wx b h sl) {p:Addr} {v:Value} (hn:b≠p.block):Lc (wx.setCell p v) b h sl:=(heap_setCell_other wx p b v hn).trans k
theorem Lc.s6o {g:Nat} {v0 v1 v2 v3 v4 v5:Value} (k:Lc wx b h sl) (hn:b≠g):Lc (set6 wx g v0 v1 v2 v3 v4 v5) b h sl:=(Zj b hn).trans k
theorem Lc.s6 (k:Lc wx b h sl) (h2:Hd) (sl2:Value):Lc (set6 wx b (.int .i64 h2.k) (.int .i64 h2.op) (.int .i64 h2.v) (.int .i64 h2.ln) (.string (st h2.nm)) sl2) b h2 sl2:=Vk k
theorem Lc.cells (k:Lc wx b h sl):wx.cell? ⟨b,0,none⟩=some (.int .i64 h.k)/\wx.cell? ⟨b,1,none⟩=some (.int .i64 h.op)/\wx.cell? ⟨b,2,none⟩=some (.int .i64 h.v)/\wx.cell? ⟨b,3,none⟩=some (.int .i64 h.ln)/\wx.cell? ⟨b,4,none⟩=some (.string (st h.nm))/\wx.cell? ⟨b,5,none⟩=some sl:=Yq k
theorem Lc.froz (k:Lc wx b h sl):wx.frozen? ⟨b,0,none⟩=false/\wx.frozen? ⟨b,1,none⟩=false/\wx.frozen? ⟨b,2,none⟩=false/\wx.frozen? ⟨b,3,none⟩=false/\wx.frozen? ⟨b,4,none⟩=false/\wx.frozen? ⟨b,5,none⟩=false :=
 ⟨frozen_of_row _ b 0 _ _ k,frozen_of_row _ b 1 _ _ k,frozen_of_row _ b 2 _ _ k,frozen_of_row _ b 3 _ _ k,frozen_of_row _ b 4 _ _ k,frozen_of_row _ b 5 _ _ k⟩
theorem Lc.new (w:World) (h:Hd) (sl:Value):Lc (w.alloc (.cells (ecs h sl) 37)) w.heap.size h sl:=heap_alloc_new w _
end
abbrev zhd:Hd:=⟨0,0,0,0,[]⟩
theorem Lc.zero (w:World):Lc (w.alloc zex) w.heap.size zhd (.slice none 0 0):=heap_alloc_new w _
def EP (K:PC) (lv:Lv) (rest:List Tk) (w:World) (e:Ending) (w':World):Prop :=
 ∃ (h:Hd) (a:Option Addr) (n c:Nat) (ok:Bool) (at2:Nat) (r:List Tk),e=.returned (.tuple #[exv h (.slice a n c),.bool ok])/\PAt w' K at2 r/\r.length<=rest.length/\w.grownBy w' (some K.g) /\
  Xq ((ok=true/\∃ ar,Ps lv rest (.ok (Xb h ar) r)/\Xv w' (λ b=>w.heap.size<=b) ar (.slice a n c)/\r.length<rest.length)\/(ok=false/\Ps lv rest (.bad r)))
def CE (f:FuncId) (lv:Lv) (m:Nat):Prop:=∀ (K:PC) (at_:Nat) (rest:List Tk) (w:World),PAt w K at_ rest->rest.length<=m->Calls Tryz.prog f #[.pointer (some ⟨K.g,0,none⟩)] w (EP K lv rest w)
theorem CE.mono {f:FuncId} {lv:Lv} {m n:Nat} (h:CE f lv m) (hn:n<=m):CE f lv n:=λ K at_ rest w hp hl=>h K at_ rest w hp (Nat.le_trans hl hn)
def TBk (w:World) (gR gx:Nat):Nat->Prop:=λ b=>w.heap.size<=b/\b≠gR/\b≠gx
def natAt (w:World) (g:Nat):Nat:=match w.cell? ⟨g,1,none⟩ with
 | some (.int _ z)=>z.toNat
 | _=>0
theorem PAt.natAt {w:World} {K:PC} {at_:Nat} {rest:List Tk} (h:PAt w K at_ rest):Go.Proofs.YtldgghnjminhiaaGreatDoor.natAt w K.g=at_:=by
 unfold Go.Proofs.YtldgghnjminhiaaGreatDoor.natAt
 rw[h.cells.2.1]
 simp
structure LI (K:PC) (w:World) (gR gx:Nat) (lv:Lv) (L:Fo->Lv) (rest:List Tk) (h:Hd) (a:Option Addr) (n c:Nat) (ok:Bool) (at2:Nat) (r:List Tk) (wr:World):Prop where
 ms:MS K w wr at2 r
 rc:Lc wr gR zhd (.slice none 0 0)
 xc:Lc wr gx h (.slice a n c)
 le:r.length<=rest.length
 res:(ok=true/\∃ ar,(∀ z,Ps (L (Xb h ar)) r z->Ps lv rest z)/\Xv wr (TBk w gR gx) ar (.slice a n c)/\r.length<rest.length)\/(ok=false/\Ps lv rest (.bad r))
theorem Qt {w:World} {P Q:Nat->Prop} {h1 h2:Hd} {a1 a2:Fo} {s1 s2:Value} (k1:Xv w P a1 s1) (k2:Xv w P a2 s2) (hPQ:∀ b,P b->b<w.heap.size->Q b) (hQ:Q w.heap.size) :
  Xv (w.alloc (.cells #[.int .i64 h1.k,.int .i64 h1.op,.int .i64 h1.v,.int .i64 h1.ln,.string (st h1.nm),s1,.int .i64 h2.k,.int .i64 h2.op,.int .i64 h2.v,.int .i64 h2.ln,.string (st h2.nm),s2] 37)) Q ((Xb h1 a1).app (Xb h2 a2)) (.slice (some ⟨w.heap.size,0,none⟩) 2 2) :=
 Wd (F:=(Xb h1 a1).app (Xb h2 a2)) (xs:=hdc h1 s1++hdc h2 s2) (Qu.app k1.one k2.one) (by simp[Fo.app,Fo.len,maxLen]) hPQ hQ
theorem Jq {w:World} {P Q:Nat->Prop} {h1:Hd} {a1:Fo} {s1:Value} (k1:Xv w P a1 s1) (hPQ:∀ b,P b->b<w.heap.size->Q b) (hQ:Q w.heap.size) :
  Xv (w.alloc (.cells #[.int .i64 h1.k,.int .i64 h1.op,.int .i64 h1.v,.int .i64 h1.ln,.string (st h1.nm),s1] 37)) Q (Xb h1 a1) (.slice (some ⟨w.heap.size,0,none⟩) 1 1) :=
 Wd (F:=Xb h1 a1) (xs:=hdc h1 s1) k1.one (by simp[Fo.len,maxLen]) hPQ hQ
theorem Bq (m:Nat) (hA:CE 97 .an m):CE 56 .ex m:=by
 intro K at_ rest w hP hm
 have HM1:=Xj ((MS.init hP).al zex)
 have HR1:=Xj (Lc.zero w)
 have HA:=Xj hA
 have HMm:=Xj hm
 clear hA hP hm
 go_enter Tryz.func56,Tryz.ntmps56
 go_upto_region 1 with fail
 obtain⟨w1,hw1⟩:∃ W,w.alloc zex=W:=⟨_,rfl⟩
 obtain⟨gR,hgR⟩:∃ x,w.heap.size=x:=⟨_,rfl⟩
 (try rw[show w.alloc (.cells #[.int .i64 0,.int .i64 0,.int .i64 0,.int .i64 0,.string { data := #[] },.slice none 0 0] 37)=w1 from hw1])
 rw[hw1] at HM1 HR1
 rw[hgR] at HR1
 (try rw[hgR])
 have HGR:=Xj hgR
 have HS1:Xq (w1.heap.size=gR+1):=Xj (by rw[<- hw1,<- hgR];simp)
 clear hw1 hgR
 go_wp2_with fail
 refine(HA.o K at_ rest _ HM1.o.pat HMm.o).mono ?_
 rintro e w2 ⟨h,a,n,c,ok,at2,r,rfl,hp2,H6,hg2,hO⟩
 have HM2:=Xj (HM1.o.call hp2 hg2)
 have HR2:=Xj (HR1.o.gr hg2 (by have:=HM1.o.gl;have:=HGR.o;omega))
 have hs2:=hg2.size
 have HM3:=Xj (HM2.o.al (.cells (ecs h (.slice a n c)) 37))
 have HR3:=Xj (HR2.o.al (.cells (ecs h (.slice a n c)) 37))
 have HX3:=Xj (Lc.new w2 h (.slice a n c))
 have HJ:Xq ((ok=true/\∃ ar,(∀ z,Ps (.exL (Xb h ar)) r z->Ps .ex rest z)/\Xv (w2.alloc (.cells (ecs h (.slice a n c)) 37)) (TBk w gR w2.heap.size) ar (.slice a n c)/\r.length<rest.length)\/(ok=false/\Ps .ex rest (.bad r))):=Xj (by
  rcases hO.o with⟨h1,ar,h2,h3,h4⟩|⟨h1,h2⟩
  ·exact .inl ⟨h1,ar,λ z hz=>Ps.ex_ok h2 hz,Xy (Yu _ h3) (λ b hb _=>⟨by have:=hb.1;have:=HS1.o;have:=HGR.o;omega,by have:=hb.1;have:=HS1.o;omega,hb.2⟩),h4⟩
  exact .inr ⟨h1,Ps.ex_bad h2⟩)
 clear hO hp2 hg2
 go_upto_block 0 with fail
 obtain⟨w3,hw3⟩:∃ W,w2.alloc (.cells (ecs h (.slice a n c)) 37)=W:=⟨_,rfl⟩
 obtain⟨gx,hgx⟩:∃ x,w2.heap.size=x:=⟨_,rfl⟩
 (try rw[show w2.alloc (.cells #[.int .i64 h.k,.int .i64 h.op,.int .i64 h.v,.int .i64 h.ln,.string (st h.nm),.slice a n c] 37)=w3 from hw3])
 rw[hw3] at HM3 HR3 HX3 HJ
 rw[hgx] at HX3 HJ
 (try rw[hgx])
 have HGX:Xq (gR<gx):=Xj (by have:=HS1.o;omega)
 have HLE:=Xj H6
 clear hw3 hgx hs2 H6 HM2 HR2 HM1 HR1
 go_wp2_with fail
 go_loopw [5] (λ v5 wr=>∃ (h:Hd) (a:Option Addr) (n c:Nat) (ok:Bool) (at2:Nat) (r:List Tk),v5=.bool ok/\Xq (LI K w gR gx .ex .exL rest h a n c ok at2 r wr)) (λ _ wr=>K.ts.length-natAt wr K.g)
 case atStart=>exact⟨h,a,n,c,ok,at2,r,rfl,Xj ⟨HM3.o,HR3.o,HX3.o,HLE.o,HJ.o⟩⟩
 rename World=>wa
 obtain⟨h,a,n,c,ok,at2,r,rfl,HL⟩:=hrel
 obtain⟨x0,x1,x2,x3,x4,x5⟩:=HL.o.xc.cells
 obtain⟨g0,g1,g2,g3,g4,g5⟩:=HL.o.rc.froz
 obtain⟨y0,y1,y2,y3,y4,y5⟩:=HL.o.rc.cells
 have hlR:=HL.o.rc.lt
 have hlX:=HL.o.xc.lt
 have hgg:=HL.o.ms.gl
 have hqv:=HGR.o
 have hzj:=HGX.o
 have hjy:∀ (ok2:Bool),((ok2=true/\∃ ar,Ps .ex rest (.ok (Xb h ar) r)/\Xv wa (TBk w gR gx) ar (.slice a n c)/\r.length<rest.length)\/(ok2=false/\Ps .ex rest (.bad r)))->EP K .ex rest w (.returned (.tuple #[exv h (.slice a n c),.bool ok2])) (set6 wa gR (.int .i64 h.k) (.int .i64 h.op) (.int .i64 h.v) (.int .i64 h.ln) (.string (st h.nm)) (.slice a n c)):=λ ok2 hr=>by
  have hms:=HL.o.ms.s6 (b:=gR) (by omega) (.int .i64 h.k) (.int .i64 h.op) (.int .i64 h.v) (.int .i64 h.ln) (.string (st h.nm)) (.slice a n c)
  refine⟨h,a,n,c,ok2,at2,r,rfl,hms.pat,HL.o.le,hms.gr,Xj ?_⟩
  rcases hr with⟨h1,ar,h2,h3,h4⟩|hr
  ·exact .inl ⟨h1,ar,h2,Xy (Xd h3 (λ b hb=>hb.2.1)) (λ b hb _=>hb.1),h4⟩
  exact .inr hr
 have hjv:=Xj hjy
 have HD0:=Xj (HL.o.rc.s6 h (.slice a n c))
 clear hjy
 cases ok
 ·have HB:Xq (Ps .ex rest (.bad r)):=Xj (by
   rcases HL.o.res with⟨h1,_⟩|⟨_,h1⟩
   ·cases h1
   exact h1)
  go_wp2_with fail
  obtain⟨wz,hwz⟩:∃ W,set6 wa gR (.int .i64 h.k) (.int .i64 h.op) (.int .i64 h.v) (.int .i64 h.ln) (.string (st h.nm)) (.slice a n c)=W:=⟨_,rfl⟩
  have hZ:=hwz
  unfold set6 at hZ
  (try rw[hZ])
  rw[hwz] at HD0 hjv
  obtain⟨d0,d1,d2,d3,d4,d5⟩:=HD0.o.cells
  refine bodyPost_ret (v:=.tuple #[exv h (.slice a n c),.bool false]) (by simp[results,Tryz.results56,go_sem,d0,d1,d2,d3,d4,d5]) rfl ?_
  exact hjv.o _ (.inr ⟨rfl,HB.o⟩)
 obtain⟨ar,H8,har,hlt⟩:∃ ar,(∀ z,Ps (.exL (Xb h ar)) r z->Ps .ex rest z)/\Xv wa (TBk w gR gx) ar (.slice a n c)/\r.length<rest.length:=by
  rcases HL.o.res with⟨_,h1⟩|⟨h1,_⟩
  ·exact h1
  cases h1
 have HCO:=Xj H8
 have HAR:=Xj har
 have HLT:=Xj hlt
 clear H8 har hlt
 have HIS:=Xj (Ez K at2 r [124,124] wa HL.o.ms.pat)
 clear x0 x1 x2 x3 x4 x5 y0 y1 y2 y3 y4 y5 g0 g1 g2 g3 g4 g5
 go_wp2_with fail
 refine HIS.o.mono ?_
 rintro e w4 ⟨rfl,hb4⟩
 have HM4:=Xj (HL.o.ms.be hb4)
 have HR4:=Xj (HL.o.rc.be hb4)
 have HX4:=Xj (HL.o.xc.be hb4)
 have hju:=Xj (HAR.o.keep (Q:=TBk w gR gx) (λ b hb hlt=>⟨hb4.block b hlt,hb⟩) hb4.size)
 have HS4:=Xj hb4.size
 clear hb4 hjv HD0
 cases hT:isT [124,124] r
 ·have HD4:=Xj (HR4.o.s6 h (.slice a n c))
  have HZ:Xq (Ps .ex rest (.ok (Xb h ar) r)):=Xj (HCO.o _ (Ps.exL_end hT))
  obtain⟨x0,x1,x2,x3,x4,x5⟩:=HX4.o.cells
  obtain⟨g0,g1,g2,g3,g4,g5⟩:=HR4.o.froz
  obtain⟨y0,y1,y2,y3,y4,y5⟩:=HR4.o.cells
  have hzy:=HR4.o.lt
  clear hT
  go_wp2_with fail
  obtain⟨wz,hwz⟩:∃ W,set6 w4 gR (.int .i64 h.k) (.int .i64 h.op) (.int .i64 h.v) (.int .i64 h.ln) (.string (st h.nm)) (.slice a n c)=W:=⟨_,rfl⟩
  have HMZ:=Xj (HM4.o.s6 (b:=gR) (by omega) (.int .i64 h.k) (.int .i64 h.op) (.int .i64 h.v) (.int .i64 h.ln) (.string (st h.nm)) (.slice a n c))
  have HAZ:=Xj (Xd (v0:=.int .i64 h.k) (v1:=.int .i64 h.op) (v2:=.int .i64 h.v) (v3:=.int .i64 h.ln) (v4:=.string (st h.nm)) (v5:=.slice a n c) hju.o (λ b hb=>hb.2.1))
  have hZ:=hwz
  unfold set6 at hZ
  (try rw[hZ])
  rw[hwz] at HD4 HMZ HAZ
  obtain⟨d0,d1,d2,d3,d4,d5⟩:=HD4.o.cells
  refine bodyPost_ret (v:=.tuple #[exv h (.slice a n c),.bool true]) (by simp[results,Tryz.results56,go_sem,d0,d1,d2,d3,d4,d5]) rfl ?_
  exact⟨h,a,n,c,true,at2,r,rfl,HMZ.o.pat,HL.o.le,HMZ.o.gr,Xj (.inl ⟨rfl,ar,HZ.o,Xy HAZ.o (λ b hb _=>hb.1),HLT.o⟩)⟩
 have HT:=Xj hT
 have HK0:Xq (kOf r≠0):=Xj (Ys hT).2.2.1
 obtain⟨⟨tk,tn,tv,tt⟩,r0,hr0⟩:=HM4.o.pat.en.cons
 have HLO:=Xj (Zv K at2 tk tn tv tt r0 w4 (hr0▸HM4.o.pat))
 have HLN:Xq (Yj r=tn):=Xj (by rw[hr0];rfl)
 have HRT:Xq (r.tail.length<r.length):=Xj (by rw[hr0];simp)
 have hfd:∀ W:World,(Instr.field 103 (.agg #[.int .i64 tk,.int .i64 tn,.int .i64 tv,.string (st tt)]) 1).run Tryz.prog W=.ok (.int .i64 tn) W:=λ _=>by kernel_rfl
 clear hT hr0
 go_wp2_with fail
 refine HLO.o.mono ?_
 rintro e w5 ⟨rfl,hb5⟩
 have HM5:=Xj (HM4.o.be hb5)
 have HR5:=Xj (HR4.o.be hb5)
 have HX5:=Xj (HX4.o.be hb5)
 have hzr:=Xj (hju.o.keep (Q:=TBk w gR gx) (λ b hb hlt=>⟨hb5.block b hlt,hb⟩) hb5.size)
 obtain⟨-,p1,-,f1,-,hlp⟩:=HM5.o.pat.cells
 have hw1:=HM5.o.w1
 have HM6:=Xj ((HM5.o.step HK0.o).al zex)
 have HR6:=Xj ((HR5.o.s1 (p:=⟨K.g,1,none⟩) (v:=.int .i64 ((at2:Int)+1)) (by show gR≠K.g;omega)).al zex)
 have HX6:=Xj ((HX5.o.s1 (p:=⟨K.g,1,none⟩) (v:=.int .i64 ((at2:Int)+1)) (by show gx≠K.g;omega)).al zex)
 have HY6:=Xj (Lc.zero (w5.setCell ⟨K.g,1,none⟩ (.int .i64 ((at2:Int)+1))))
 have hjn:=Xj (Yu zex (Vt (p:=⟨K.g,1,none⟩) (v:=.int .i64 ((at2:Int)+1)) hzr.o (λ b hb=>by show b≠K.g;have:=hb.1;omega)))
 clear hb5 HM4 HR4 HX4 hju
 go_upto_region 6 with fail
 obtain⟨w6,hw6⟩:∃ W,(w5.setCell ⟨K.g,1,none⟩ (.int .i64 ((at2:Int)+1))).alloc zex=W:=⟨_,rfl⟩
 obtain⟨gy,hgy⟩:∃ x,w5.heap.size=x:=⟨_,rfl⟩
 have hqu:Xq (gx<gy):=Xj (by rw[<- hgy];exact HX5.o.lt)
 have HGY:Xq (w6.heap.size=gy+1):=Xj (by rw[<- hw6,<- hgy];simp[World.setCell])
 (try rw[show (w5.setCell ⟨K.g,1,none⟩ (.int .i64 ((at2:Int)+1))).alloc (.cells #[.int .i64 0,.int .i64 0,.int .i64 0,.int .i64 0,.string { data := #[] },.slice none 0 0] 37)=w6 from hw6])
 have hjr:(w5.setCell ⟨K.g,1,none⟩ (.int .i64 ((at2:Int)+1))).heap.size=gy:=by rw[<- hgy];simp[World.setCell]
 rw[hw6,hjr] at HY6 hjn
 rw[hw6] at HM6 HR6 HX6
 (try rw[hgy])
 have hzs:=hqu.o
 have hzt:=HGY.o
 clear hw6 hgy hjr
 go_wp2_with fail
 refine(HA.o K (at2+1) r.tail _ HM6.o.pat (by have:=HRT.o;have:=HL.o.le;have:=HMm.o;omega)).mono ?_
 rintro e w7 ⟨h2,a2,n2,c2,ok2,at7,r7,rfl,hp7,hI,hg7,hH⟩
 have hs7:=hg7.size
 have HM7:=Xj (HM6.o.call hp7 hg7)
 have HR7:=Xj (HR6.o.gr hg7 (by omega))
 have HX7:=Xj (HX6.o.gr hg7 (by omega))
 have HY7:=Xj (HY6.o.gr hg7 (by omega))
 have hjc:=Xj (Yl hjn.o hg7 (λ b hb=>by have:=hb.1.1;omega))
 have hxj:at2<at7:=by
  have h1:=HM7.o.pat.lt.2
  have h2:=HL.o.ms.pat.lt.2
  have h3:=HRT.o
  omega
 obtain⟨q0,q1,q2,q3,q4,q5⟩:=HX7.o.cells
 obtain⟨k0,k1,k2,k3,k4,k5⟩:=HX7.o.froz
 obtain⟨v0,v1,v2,v3,v4,v5⟩:=HY7.o.froz
 obtain⟨u0,u1,u2,u3,u4,u5⟩:=HY7.o.cells
 have hqb:=HX7.o.lt
 have hqw:=HY7.o.lt
 have HY8:=Xj (HY7.o.s6 h2 (.slice a2 n2 c2))
 have HX8:=Xj (HX7.o.s6o (g:=gy) (v0:=.int .i64 h2.k) (v1:=.int .i64 h2.op) (v2:=.int .i64 h2.v) (v3:=.int .i64 h2.ln) (v4:=.string (st h2.nm)) (v5:=.slice a2 n2 c2) (by omega))
 have HR8:=Xj (HR7.o.s6o (g:=gy) (v0:=.int .i64 h2.k) (v1:=.int .i64 h2.op) (v2:=.int .i64 h2.v) (v3:=.int .i64 h2.ln) (v4:=.string (st h2.nm)) (v5:=.slice a2 n2 c2) (by omega))
 have HM8:=Xj (HM7.o.s6 (b:=gy) (by omega) (.int .i64 h2.k) (.int .i64 h2.op) (.int .i64 h2.v) (.int .i64 h2.ln) (.string (st h2.nm)) (.slice a2 n2 c2))
 have hjt:=Xj (Xy (Xd (v0:=.int .i64 h2.k) (v1:=.int .i64 h2.op) (v2:=.int .i64 h2.v) (v3:=.int .i64 h2.ln) (v4:=.string (st h2.nm)) (v5:=.slice a2 n2 c2) hjc.o (λ b hb=>hb.2)) (λ b hb _=>hb.1))
 have H5:Xq ((ok2=true/\∃ ar2,Ps .an r.tail (.ok (Xb h2 ar2) r7)/\Xv (set6 w7 gy (.int .i64 h2.k) (.int .i64 h2.op) (.int .i64 h2.v) (.int .i64 h2.ln) (.string (st h2.nm)) (.slice a2 n2 c2)) (TBk w gR gx) ar2 (.slice a2 n2 c2)/\r7.length<r.tail.length)\/(ok2=false/\Ps .an r.tail (.bad r7))):=Xj (by
  rcases hH.o with⟨h1,ar2,h2',h3,h4⟩|hr
  ·exact .inl ⟨h1,ar2,h2',Xy (Xd h3 (λ b hb=>by omega)) (λ b hb _=>⟨by omega,by omega,by omega⟩),h4⟩
  exact .inr hr)
 clear hH hp7 hg7 HM7 HR7 HX7 HY7 hjc
 go_upto_region 7 with fail
 obtain⟨w8,hw8⟩:∃ W,set6 w7 gy (.int .i64 h2.k) (.int .i64 h2.op) (.int .i64 h2.v) (.int .i64 h2.ln) (.string (st h2.nm)) (.slice a2 n2 c2)=W:=⟨_,rfl⟩
 have hjb:=hw8
 unfold set6 at hjb
 (try rw[hjb])
 rw[hw8] at HY8 HX8 HR8 HM8 hjt H5
 clear hw8 hjb q0 q1 q2 q3 q4 q5 k0 k1 k2 k3 k4 k5 v0 v1 v2 v3 v4 v5 u0 u1 u2 u3 u4 u5 hqb hqw
 obtain⟨q0,q1,q2,q3,q4,q5⟩:=HX8.o.cells
 obtain⟨k0,k1,k2,k3,k4,k5⟩:=HX8.o.froz
 obtain⟨v0,v1,v2,v3,v4,v5⟩:=HY8.o.cells
 have hqd:=HX8.o.lt
 have hqh:=HY8.o.lt
 have hY:∀ W,W=(set6 w8 gx (.int .i64 (Hd.k ⟨8,0,0,tn,[]⟩)) (.int .i64 (Hd.op ⟨8,0,0,tn,[]⟩)) (.int .i64 0) (.int .i64 (Hd.ln ⟨8,0,0,tn,[]⟩)) (.string { data := #[] }) (.slice (some ⟨w8.heap.size,0,none⟩) 2 2)).alloc (.cells #[.int .i64 h.k,.int .i64 h.op,.int .i64 h.v,.int .i64 h.ln,.string (st h.nm),.slice a n c,.int .i64 h2.k,.int .i64 h2.op,.int .i64 h2.v,.int .i64 h2.ln,.string (st h2.nm),.slice a2 n2 c2] 37) ->
   LI K w gR gx .ex .exL rest ⟨8,0,0,tn,[]⟩ (some ⟨w8.heap.size,0,none⟩) 2 2 ok2 at7 r7 W:=λ W hW=>by
  rw[<- Yf _ HX8.o.lt] at hW
  have hA:=HX8.o.al (.cells #[.int .i64 h.k,.int .i64 h.op,.int .i64 h.v,.int .i64 h.ln,.string (st h.nm),.slice a n c,.int .i64 h2.k,.int .i64 h2.op,.int .i64 h2.v,.int .i64 h2.ln,.string (st h2.nm),.slice a2 n2 c2] 37)
  subst hW
  refine⟨(HM8.o.al _).s6 (by omega) _ _ _ _ _ _,(HR8.o.al _).s6o (by omega),hA.s6 ⟨8,0,0,tn,[]⟩ (.slice (some ⟨w8.heap.size,0,none⟩) 2 2),by have:=HRT.o;have:=HL.o.le;omega,?_⟩
  rcases H5.o with⟨h1,ar2,h2,h3,h4⟩|⟨h1,h2⟩
  ·refine .inl ⟨h1,(Xb h ar).app (Xb _ ar2),λ z hz=>HCO.o z (Ps.exL_ok HT.o h2 (by rw[HLN.o];exact hz)),?_,by have:=HRT.o;have:=HLT.o;omega⟩
   exact Xd (Qt hjt.o h3 (λ b hb _=>hb) ⟨by have:=HM8.o.gr.size;omega,by have:=HR8.o.lt;omega,by have:=HX8.o.lt;omega⟩) (λ b hb=>hb.2.2)
  exact .inr ⟨h1,HCO.o _ (Ps.exL_bad HT.o h2)⟩
 have H9:=Xj hY
 clear hY
 go_wp2_with fail
 go_roundw
 case rel=>exact⟨⟨8,0,0,tn,[]⟩,some ⟨w8.heap.size,0,none⟩,2,2,ok2,at7,r7,rfl,Xj (H9.o _ rfl)⟩
 have h1:=(H9.o _ rfl).ms.pat.natAt
 have h2:=HL.o.ms.pat.natAt
 have h3:=HL.o.ms.pat.lt.1
 unfold set6 at h1
 rw[h2]
 simp only[World.setCell_alloc_past] at h1 ⊢
 first|(rw[h1];omega)|(simp at h1;rw[h1];omega)
theorem Cn (m:Nat) (hA:CE 145 .cm m):CE 97 .an m:=by
 intro K at_ rest w hP hm
 have HM1:=Xj ((MS.init hP).al zex)
 have HR1:=Xj (Lc.zero w)
 have HA:=Xj hA
 have HMm:=Xj hm
 clear hA hP hm
 go_enter Tryz.func97,Tryz.ntmps97
 go_upto_region 1 with fail
 obtain⟨w1,hw1⟩:∃ W,w.alloc zex=W:=⟨_,rfl⟩
 obtain⟨gR,hgR⟩:∃ x,w.heap.size=x:=⟨_,rfl⟩
 (try rw[show w.alloc (.cells #[.int .i64 0,.int .i64 0,.int .i64 0,.int .i64 0,.string { data := #[] },.slice none 0 0] 37)=w1 from hw1])
 rw[hw1] at HM1 HR1
 rw[hgR] at HR1
 (try rw[hgR])
 have HGR:=Xj hgR
 have HS1:Xq (w1.heap.size=gR+1):=Xj (by rw[<- hw1,<- hgR];simp)
 clear hw1 hgR
 go_wp2_with fail
 refine(HA.o K at_ rest _ HM1.o.pat HMm.o).mono ?_
 rintro e w2 ⟨h,a,n,c,ok,at2,r,rfl,hp2,H6,hg2,hO⟩
 have HM2:=Xj (HM1.o.call hp2 hg2)
 have HR2:=Xj (HR1.o.gr hg2 (by have:=HM1.o.gl;have:=HGR.o;omega))
 have hs2:=hg2.size
 have HM3:=Xj (HM2.o.al (.cells (ecs h (.slice a n c)) 37))
 have HR3:=Xj (HR2.o.al (.cells (ecs h (.slice a n c)) 37))
 have HX3:=Xj (Lc.new w2 h (.slice a n c))
 have HJ:Xq ((ok=true/\∃ ar,(∀ z,Ps (.anL (Xb h ar)) r z->Ps .an rest z)/\Xv (w2.alloc (.cells (ecs h (.slice a n c)) 37)) (TBk w gR w2.heap.size) ar (.slice a n c)/\r.length<rest.length)\/(ok=false/\Ps .an rest (.bad r))):=Xj (by
  rcases hO.o with⟨h1,ar,h2,h3,h4⟩|⟨h1,h2⟩
  ·exact .inl ⟨h1,ar,λ z hz=>Ps.an_ok h2 hz,Xy (Yu _ h3) (λ b hb _=>⟨by have:=hb.1;have:=HS1.o;have:=HGR.o;omega,by have:=hb.1;have:=HS1.o;omega,hb.2⟩),h4⟩
  exact .inr ⟨h1,Ps.an_bad h2⟩)
 clear hO hp2 hg2
 go_upto_block 0 with fail
 obtain⟨w3,hw3⟩:∃ W,w2.alloc (.cells (ecs h (.slice a n c)) 37)=W:=⟨_,rfl⟩
 obtain⟨gx,hgx⟩:∃ x,w2.heap.size=x:=⟨_,rfl⟩
 (try rw[show w2.alloc (.cells #[.int .i64 h.k,.int .i64 h.op,.int .i64 h.v,.int .i64 h.ln,.string (st h.nm),.slice a n c] 37)=w3 from hw3])
 rw[hw3] at HM3 HR3 HX3 HJ
 rw[hgx] at HX3 HJ
 (try rw[hgx])
 have HGX:Xq (gR<gx):=Xj (by have:=HS1.o;omega)
 have HLE:=Xj H6
 clear hw3 hgx hs2 H6 HM2 HR2 HM1 HR1
 go_wp2_with fail
 go_loopw [5] (λ v5 wr=>∃ (h:Hd) (a:Option Addr) (n c:Nat) (ok:Bool) (at2:Nat) (r:List Tk),v5=.bool ok/\Xq (LI K w gR gx .an .anL rest h a n c ok at2 r wr)) (λ _ wr=>K.ts.length-natAt wr K.g)
 case atStart=>exact⟨h,a,n,c,ok,at2,r,rfl,Xj ⟨HM3.o,HR3.o,HX3.o,HLE.o,HJ.o⟩⟩
 rename World=>wa
 obtain⟨h,a,n,c,ok,at2,r,rfl,HL⟩:=hrel
 obtain⟨x0,x1,x2,x3,x4,x5⟩:=HL.o.xc.cells
 obtain⟨g0,g1,g2,g3,g4,g5⟩:=HL.o.rc.froz
 obtain⟨y0,y1,y2,y3,y4,y5⟩:=HL.o.rc.cells
 have hlR:=HL.o.rc.lt
 have hlX:=HL.o.xc.lt
 have hgg:=HL.o.ms.gl
 have hqv:=HGR.o
 have hzj:=HGX.o
 have hjy:∀ (ok2:Bool),((ok2=true/\∃ ar,Ps .an rest (.ok (Xb h ar) r)/\Xv wa (TBk w gR gx) ar (.slice a n c)/\r.length<rest.length)\/(ok2=false/\Ps .an rest (.bad r)))->EP K .an rest w (.returned (.tuple #[exv h (.slice a n c),.bool ok2])) (set6 wa gR (.int .i64 h.k) (.int .i64 h.op) (.int .i64 h.v) (.int .i64 h.ln) (.string (st h.nm)) (.slice a n c)):=λ ok2 hr=>by
  have hms:=HL.o.ms.s6 (b:=gR) (by omega) (.int .i64 h.k) (.int .i64 h.op) (.int .i64 h.v) (.int .i64 h.ln) (.string (st h.nm)) (.slice a n c)
  refine⟨h,a,n,c,ok2,at2,r,rfl,hms.pat,HL.o.le,hms.gr,Xj ?_⟩
  rcases hr with⟨h1,ar,h2,h3,h4⟩|hr
  ·exact .inl ⟨h1,ar,h2,Xy (Xd h3 (λ b hb=>hb.2.1)) (λ b hb _=>hb.1),h4⟩
  exact .inr hr
 have hjv:=Xj hjy
 have HD0:=Xj (HL.o.rc.s6 h (.slice a n c))
 clear hjy
 cases ok
 ·have HB:Xq (Ps .an rest (.bad r)):=Xj (by
   rcases HL.o.res with⟨h1,_⟩|⟨_,h1⟩
   ·cases h1
   exact h1)
  go_wp2_with fail
  obtain⟨wz,hwz⟩:∃ W,set6 wa gR (.int .i64 h.k) (.int .i64 h.op) (.int .i64 h.v) (.int .i64 h.ln) (.string (st h.nm)) (.slice a n c)=W:=⟨_,rfl⟩
  have hZ:=hwz
  unfold set6 at hZ
  (try rw[hZ])
  rw[hwz] at HD0 hjv
  obtain⟨d0,d1,d2,d3,d4,d5⟩:=HD0.o.cells
  refine bodyPost_ret (v:=.tuple #[exv h (.slice a n c),.bool false]) (by simp[results,Tryz.results97,go_sem,d0,d1,d2,d3,d4,d5]) rfl ?_
  exact hjv.o _ (.inr ⟨rfl,HB.o⟩)
 obtain⟨ar,H8,har,hlt⟩:∃ ar,(∀ z,Ps (.anL (Xb h ar)) r z->Ps .an rest z)/\Xv wa (TBk w gR gx) ar (.slice a n c)/\r.length<rest.length:=by
  rcases HL.o.res with⟨_,h1⟩|⟨h1,_⟩
  ·exact h1
  cases h1
 have HCO:=Xj H8
 have HAR:=Xj har
 have HLT:=Xj hlt
 clear H8 har hlt
 have HIS:=Xj (Ez K at2 r [38,38] wa HL.o.ms.pat)
 clear x0 x1 x2 x3 x4 x5 y0 y1 y2 y3 y4 y5 g0 g1 g2 g3 g4 g5
 go_wp2_with fail
 refine HIS.o.mono ?_
 rintro e w4 ⟨rfl,hb4⟩
 have HM4:=Xj (HL.o.ms.be hb4)
 have HR4:=Xj (HL.o.rc.be hb4)
 have HX4:=Xj (HL.o.xc.be hb4)
 have hju:=Xj (HAR.o.keep (Q:=TBk w gR gx) (λ b hb hlt=>⟨hb4.block b hlt,hb⟩) hb4.size)
 have HS4:=Xj hb4.size
 clear hb4 hjv HD0
 cases hT:isT [38,38] r
 ·have HD4:=Xj (HR4.o.s6 h (.slice a n c))
  have HZ:Xq (Ps .an rest (.ok (Xb h ar) r)):=Xj (HCO.o _ (Ps.anL_end hT))
  obtain⟨x0,x1,x2,x3,x4,x5⟩:=HX4.o.cells
  obtain⟨g0,g1,g2,g3,g4,g5⟩:=HR4.o.froz
  obtain⟨y0,y1,y2,y3,y4,y5⟩:=HR4.o.cells
  have hzy:=HR4.o.lt
  clear hT
  go_wp2_with fail
  obtain⟨wz,hwz⟩:∃ W,set6 w4 gR (.int .i64 h.k) (.int .i64 h.op) (.int .i64 h.v) (.int .i64 h.ln) (.string (st h.nm)) (.slice a n c)=W:=⟨_,rfl⟩
  have HMZ:=Xj (HM4.o.s6 (b:=gR) (by omega) (.int .i64 h.k) (.int .i64 h.op) (.int .i64 h.v) (.int .i64 h.ln) (.string (st h.nm)) (.slice a n c))
  have HAZ:=Xj (Xd (v0:=.int .i64 h.k) (v1:=.int .i64 h.op) (v2:=.int .i64 h.v) (v3:=.int .i64 h.ln) (v4:=.string (st h.nm)) (v5:=.slice a n c) hju.o (λ b hb=>hb.2.1))
  have hZ:=hwz
  unfold set6 at hZ
  (try rw[hZ])
  rw[hwz] at HD4 HMZ HAZ
  obtain⟨d0,d1,d2,d3,d4,d5⟩:=HD4.o.cells
  refine bodyPost_ret (v:=.tuple #[exv h (.slice a n c),.bool true]) (by simp[results,Tryz.results97,go_sem,d0,d1,d2,d3,d4,d5]) rfl ?_
  exact⟨h,a,n,c,true,at2,r,rfl,HMZ.o.pat,HL.o.le,HMZ.o.gr,Xj (.inl ⟨rfl,ar,HZ.o,Xy HAZ.o (λ b hb _=>hb.1),HLT.o⟩)⟩
 have HT:=Xj hT
 have HK0:Xq (kOf r≠0):=Xj (Ys hT).2.2.1
 obtain⟨⟨tk,tn,tv,tt⟩,r0,hr0⟩:=HM4.o.pat.en.cons
 have HLO:=Xj (Zv K at2 tk tn tv tt r0 w4 (hr0▸HM4.o.pat))
 have HLN:Xq (Yj r=tn):=Xj (by rw[hr0];rfl)
 have HRT:Xq (r.tail.length<r.length):=Xj (by rw[hr0];simp)
 have hfd:∀ W:World,(Instr.field 103 (.agg #[.int .i64 tk,.int .i64 tn,.int .i64 tv,.string (st tt)]) 1).run Tryz.prog W=.ok (.int .i64 tn) W:=λ _=>by kernel_rfl
 clear hT hr0
 go_wp2_with fail
 refine HLO.o.mono ?_
 rintro e w5 ⟨rfl,hb5⟩
 have HM5:=Xj (HM4.o.be hb5)
 have HR5:=Xj (HR4.o.be hb5)
 have HX5:=Xj (HX4.o.be hb5)
 have hzr:=Xj (hju.o.keep (Q:=TBk w gR gx) (λ b hb hlt=>⟨hb5.block b hlt,hb⟩) hb5.size)
 obtain⟨-,p1,-,f1,-,hlp⟩:=HM5.o.pat.cells
 have hw1:=HM5.o.w1
 have HM6:=Xj ((HM5.o.step HK0.o).al zex)
 have HR6:=Xj ((HR5.o.s1 (p:=⟨K.g,1,none⟩) (v:=.int .i64 ((at2:Int)+1)) (by show gR≠K.g;omega)).al zex)
 have HX6:=Xj ((HX5.o.s1 (p:=⟨K.g,1,none⟩) (v:=.int .i64 ((at2:Int)+1)) (by show gx≠K.g;omega)).al zex)
 have HY6:=Xj (Lc.zero (w5.setCell ⟨K.g,1,none⟩ (.int .i64 ((at2:Int)+1))))
 have hjn:=Xj (Yu zex (Vt (p:=⟨K.g,1,none⟩) (v:=.int .i64 ((at2:Int)+1)) hzr.o (λ b hb=>by show b≠K.g;have:=hb.1;omega)))
 clear hb5 HM4 HR4 HX4 hju
 go_upto_region 6 with fail
 obtain⟨w6,hw6⟩:∃ W,(w5.setCell ⟨K.g,1,none⟩ (.int .i64 ((at2:Int)+1))).alloc zex=W:=⟨_,rfl⟩
 obtain⟨gy,hgy⟩:∃ x,w5.heap.size=x:=⟨_,rfl⟩
 have hqu:Xq (gx<gy):=Xj (by rw[<- hgy];exact HX5.o.lt)
 have HGY:Xq (w6.heap.size=gy+1):=Xj (by rw[<- hw6,<- hgy];simp[World.setCell])
 (try rw[show (w5.setCell ⟨K.g,1,none⟩ (.int .i64 ((at2:Int)+1))).alloc (.cells #[.int .i64 0,.int .i64 0,.int .i64 0,.int .i64 0,.string { data := #[] },.slice none 0 0] 37)=w6 from hw6])
 have hjr:(w5.setCell ⟨K.g,1,none⟩ (.int .i64 ((at2:Int)+1))).heap.size=gy:=by rw[<- hgy];simp[World.setCell]
 rw[hw6,hjr] at HY6 hjn
 rw[hw6] at HM6 HR6 HX6
 (try rw[hgy])
 have hzs:=hqu.o
 have hzt:=HGY.o
 clear hw6 hgy hjr
 go_wp2_with fail
 refine(HA.o K (at2+1) r.tail _ HM6.o.pat (by have:=HRT.o;have:=HL.o.le;have:=HMm.o;omega)).mono ?_
 rintro e w7 ⟨h2,a2,n2,c2,ok2,at7,r7,rfl,hp7,hI,hg7,hH⟩
 have hs7:=hg7.size
 have HM7:=Xj (HM6.o.call hp7 hg7)
 have HR7:=Xj (HR6.o.gr hg7 (by omega))
 have HX7:=Xj (HX6.o.gr hg7 (by omega))
 have HY7:=Xj (HY6.o.gr hg7 (by omega))
 have hjc:=Xj (Yl hjn.o hg7 (λ b hb=>by have:=hb.1.1;omega))
 have hxj:at2<at7:=by
  have h1:=HM7.o.pat.lt.2
  have h2:=HL.o.ms.pat.lt.2
  have h3:=HRT.o
  omega
 obtain⟨q0,q1,q2,q3,q4,q5⟩:=HX7.o.cells
 obtain⟨k0,k1,k2,k3,k4,k5⟩:=HX7.o.froz
 obtain⟨v0,v1,v2,v3,v4,v5⟩:=HY7.o.froz
 obtain⟨u0,u1,u2,u3,u4,u5⟩:=HY7.o.cells
 have hqb:=HX7.o.lt
 have hqw:=HY7.o.lt
 have HY8:=Xj (HY7.o.s6 h2 (.slice a2 n2 c2))
 have HX8:=Xj (HX7.o.s6o (g:=gy) (v0:=.int .i64 h2.k) (v1:=.int .i64 h2.op) (v2:=.int .i64 h2.v) (v3:=.int .i64 h2.ln) (v4:=.string (st h2.nm)) (v5:=.slice a2 n2 c2) (by omega))
 have HR8:=Xj (HR7.o.s6o (g:=gy) (v0:=.int .i64 h2.k) (v1:=.int .i64 h2.op) (v2:=.int .i64 h2.v) (v3:=.int .i64 h2.ln) (v4:=.string (st h2.nm)) (v5:=.slice a2 n2 c2) (by omega))
 have HM8:=Xj (HM7.o.s6 (b:=gy) (by omega) (.int .i64 h2.k) (.int .i64 h2.op) (.int .i64 h2.v) (.int .i64 h2.ln) (.string (st h2.nm)) (.slice a2 n2 c2))
 have hjt:=Xj (Xy (Xd (v0:=.int .i64 h2.k) (v1:=.int .i64 h2.op) (v2:=.int .i64 h2.v) (v3:=.int .i64 h2.ln) (v4:=.string (st h2.nm)) (v5:=.slice a2 n2 c2) hjc.o (λ b hb=>hb.2)) (λ b hb _=>hb.1))
 have H5:Xq ((ok2=true/\∃ ar2,Ps .cm r.tail (.ok (Xb h2 ar2) r7)/\Xv (set6 w7 gy (.int .i64 h2.k) (.int .i64 h2.op) (.int .i64 h2.v) (.int .i64 h2.ln) (.string (st h2.nm)) (.slice a2 n2 c2)) (TBk w gR gx) ar2 (.slice a2 n2 c2)/\r7.length<r.tail.length)\/(ok2=false/\Ps .cm r.tail (.bad r7))):=Xj (by
  rcases hH.o with⟨h1,ar2,h2',h3,h4⟩|hr
  ·exact .inl ⟨h1,ar2,h2',Xy (Xd h3 (λ b hb=>by omega)) (λ b hb _=>⟨by omega,by omega,by omega⟩),h4⟩
  exact .inr hr)
 clear hH hp7 hg7 HM7 HR7 HX7 HY7 hjc
 go_upto_region 7 with fail
 obtain⟨w8,hw8⟩:∃ W,set6 w7 gy (.int .i64 h2.k) (.int .i64 h2.op) (.int .i64 h2.v) (.int .i64 h2.ln) (.string (st h2.nm)) (.slice a2 n2 c2)=W:=⟨_,rfl⟩
 have hjb:=hw8
 unfold set6 at hjb
 (try rw[hjb])
 rw[hw8] at HY8 HX8 HR8 HM8 hjt H5
 clear hw8 hjb q0 q1 q2 q3 q4 q5 k0 k1 k2 k3 k4 k5 v0 v1 v2 v3 v4 v5 u0 u1 u2 u3 u4 u5 hqb hqw
 obtain⟨q0,q1,q2,q3,q4,q5⟩:=HX8.o.cells
 obtain⟨k0,k1,k2,k3,k4,k5⟩:=HX8.o.froz
 obtain⟨v0,v1,v2,v3,v4,v5⟩:=HY8.o.cells
 have hqd:=HX8.o.lt
 have hqh:=HY8.o.lt
 have hY:∀ W,W=(set6 w8 gx (.int .i64 (Hd.k ⟨7,0,0,tn,[]⟩)) (.int .i64 (Hd.op ⟨7,0,0,tn,[]⟩)) (.int .i64 0) (.int .i64 (Hd.ln ⟨7,0,0,tn,[]⟩)) (.string { data := #[] }) (.slice (some ⟨w8.heap.size,0,none⟩) 2 2)).alloc (.cells #[.int .i64 h.k,.int .i64 h.op,.int .i64 h.v,.int .i64 h.ln,.string (st h.nm),.slice a n c,.int .i64 h2.k,.int .i64 h2.op,.int .i64 h2.v,.int .i64 h2.ln,.string (st h2.nm),.slice a2 n2 c2] 37) ->
   LI K w gR gx .an .anL rest ⟨7,0,0,tn,[]⟩ (some ⟨w8.heap.size,0,none⟩) 2 2 ok2 at7 r7 W:=λ W hW=>by
  rw[<- Yf _ HX8.o.lt] at hW
  have hA:=HX8.o.al (.cells #[.int .i64 h.k,.int .i64 h.op,.int .i64 h.v,.int .i64 h.ln,.string (st h.nm),.slice a n c,.int .i64 h2.k,.int .i64 h2.op,.int .i64 h2.v,.int .i64 h2.ln,.string (st h2.nm),.slice a2 n2 c2] 37)
  subst hW
  refine⟨(HM8.o.al _).s6 (by omega) _ _ _ _ _ _,(HR8.o.al _).s6o (by omega),hA.s6 ⟨7,0,0,tn,[]⟩ (.slice (some ⟨w8.heap.size,0,none⟩) 2 2),by have:=HRT.o;have:=HL.o.le;omega,?_⟩
  rcases H5.o with⟨h1,ar2,h2,h3,h4⟩|⟨h1,h2⟩
  ·refine .inl ⟨h1,(Xb h ar).app (Xb _ ar2),λ z hz=>HCO.o z (Ps.anL_ok HT.o h2 (by rw[HLN.o];exact hz)),?_,by have:=HRT.o;have:=HLT.o;omega⟩
   exact Xd (Qt hjt.o h3 (λ b hb _=>hb) ⟨by have:=HM8.o.gr.size;omega,by have:=HR8.o.lt;omega,by have:=HX8.o.lt;omega⟩) (λ b hb=>hb.2.2)
  exact .inr ⟨h1,HCO.o _ (Ps.anL_bad HT.o h2)⟩
 have H9:=Xj hY
 clear hY
 go_wp2_with fail
 go_roundw
 case rel=>exact⟨⟨7,0,0,tn,[]⟩,some ⟨w8.heap.size,0,none⟩,2,2,ok2,at7,r7,rfl,Xj (H9.o _ rfl)⟩
 have h1:=(H9.o _ rfl).ms.pat.natAt
 have h2:=HL.o.ms.pat.natAt
 have h3:=HL.o.ms.pat.lt.1
 unfold set6 at h1
 rw[h2]
 simp only[World.setCell_alloc_past] at h1 ⊢
 first|(rw[h1];omega)|(simp at h1;rw[h1];omega)
theorem Cv (m:Nat) (hA:CE 189 .te m):CE 169 .su m:=by
 intro K at_ rest w hP hm
 have HM1:=Xj ((MS.init hP).al zex)
 have HR1:=Xj (Lc.zero w)
 have HA:=Xj hA
 have HMm:=Xj hm
 clear hA hP hm
 go_enter Tryz.func169,Tryz.ntmps169
 go_upto_region 1 with fail
 obtain⟨w1,hw1⟩:∃ W,w.alloc zex=W:=⟨_,rfl⟩
 obtain⟨gR,hgR⟩:∃ x,w.heap.size=x:=⟨_,rfl⟩
 (try rw[show w.alloc (.cells #[.int .i64 0,.int .i64 0,.int .i64 0,.int .i64 0,.string { data := #[] },.slice none 0 0] 37)=w1 from hw1])
 rw[hw1] at HM1 HR1
 rw[hgR] at HR1
 (try rw[hgR])
 have HGR:=Xj hgR
 have HS1:Xq (w1.heap.size=gR+1):=Xj (by rw[<- hw1,<- hgR];simp)
 clear hw1 hgR
 go_wp2_with fail
 refine(HA.o K at_ rest _ HM1.o.pat HMm.o).mono ?_
 rintro e w2 ⟨h,a,n,c,ok,at2,r,rfl,hp2,H6,hg2,hO⟩
 have HM2:=Xj (HM1.o.call hp2 hg2)
 have HR2:=Xj (HR1.o.gr hg2 (by have:=HM1.o.gl;have:=HGR.o;omega))
 have hs2:=hg2.size
 have HM3:=Xj (HM2.o.al (.cells (ecs h (.slice a n c)) 37))
 have HR3:=Xj (HR2.o.al (.cells (ecs h (.slice a n c)) 37))
 have HX3:=Xj (Lc.new w2 h (.slice a n c))
 have HJ:Xq ((ok=true/\∃ ar,(∀ z,Ps (.suL (Xb h ar)) r z->Ps .su rest z)/\Xv (w2.alloc (.cells (ecs h (.slice a n c)) 37)) (TBk w gR w2.heap.size) ar (.slice a n c)/\r.length<rest.length)\/(ok=false/\Ps .su rest (.bad r))):=Xj (by
  rcases hO.o with⟨h1,ar,h2,h3,h4⟩|⟨h1,h2⟩
  ·exact .inl ⟨h1,ar,λ z hz=>Ps.su_ok h2 hz,Xy (Yu _ h3) (λ b hb _=>⟨by have:=hb.1;have:=HS1.o;have:=HGR.o;omega,by have:=hb.1;have:=HS1.o;omega,hb.2⟩),h4⟩
  exact .inr ⟨h1,Ps.su_bad h2⟩)
 clear hO hp2 hg2
 go_upto_block 0 with fail
 obtain⟨w3,hw3⟩:∃ W,w2.alloc (.cells (ecs h (.slice a n c)) 37)=W:=⟨_,rfl⟩
 obtain⟨gx,hgx⟩:∃ x,w2.heap.size=x:=⟨_,rfl⟩
 (try rw[show w2.alloc (.cells #[.int .i64 h.k,.int .i64 h.op,.int .i64 h.v,.int .i64 h.ln,.string (st h.nm),.slice a n c] 37)=w3 from hw3])
 rw[hw3] at HM3 HR3 HX3 HJ
 rw[hgx] at HX3 HJ
 (try rw[hgx])
 have HGX:Xq (gR<gx):=Xj (by have:=HS1.o;omega)
 have HLE:=Xj H6
 clear hw3 hgx hs2 H6 HM2 HR2 HM1 HR1
 go_wp2_with fail
 go_loopw [5] (λ v5 wr=>∃ (h:Hd) (a:Option Addr) (n c:Nat) (ok:Bool) (at2:Nat) (r:List Tk),v5=.bool ok/\Xq (LI K w gR gx .su .suL rest h a n c ok at2 r wr)) (λ _ wr=>K.ts.length-natAt wr K.g)
 case atStart=>exact⟨h,a,n,c,ok,at2,r,rfl,Xj ⟨HM3.o,HR3.o,HX3.o,HLE.o,HJ.o⟩⟩
 rename World=>wa
 obtain⟨h,a,n,c,ok,at2,r,rfl,HL⟩:=hrel
 obtain⟨x0,x1,x2,x3,x4,x5⟩:=HL.o.xc.cells
 obtain⟨g0,g1,g2,g3,g4,g5⟩:=HL.o.rc.froz
 obtain⟨y0,y1,y2,y3,y4,y5⟩:=HL.o.rc.cells
 have hlR:=HL.o.rc.lt
 have hlX:=HL.o.xc.lt
 have hgg:=HL.o.ms.gl
 have hqv:=HGR.o
 have hzj:=HGX.o
 have hjy:∀ (ok2:Bool),((ok2=true/\∃ ar,Ps .su rest (.ok (Xb h ar) r)/\Xv wa (TBk w gR gx) ar (.slice a n c)/\r.length<rest.length)\/(ok2=false/\Ps .su rest (.bad r)))->EP K .su rest w (.returned (.tuple #[exv h (.slice a n c),.bool ok2])) (set6 wa gR (.int .i64 h.k) (.int .i64 h.op) (.int .i64 h.v) (.int .i64 h.ln) (.string (st h.nm)) (.slice a n c)):=λ ok2 hr=>by
  have hms:=HL.o.ms.s6 (b:=gR) (by omega) (.int .i64 h.k) (.int .i64 h.op) (.int .i64 h.v) (.int .i64 h.ln) (.string (st h.nm)) (.slice a n c)
  refine⟨h,a,n,c,ok2,at2,r,rfl,hms.pat,HL.o.le,hms.gr,Xj ?_⟩
  rcases hr with⟨h1,ar,h2,h3,h4⟩|hr
  ·exact .inl ⟨h1,ar,h2,Xy (Xd h3 (λ b hb=>hb.2.1)) (λ b hb _=>hb.1),h4⟩
  exact .inr hr
 have hjv:=Xj hjy
 have HD0:=Xj (HL.o.rc.s6 h (.slice a n c))
 clear hjy
 cases ok
 ·have HB:Xq (Ps .su rest (.bad r)):=Xj (by
   rcases HL.o.res with⟨h1,_⟩|⟨_,h1⟩
   ·cases h1
   exact h1)
  go_wp2_with fail
  obtain⟨wz,hwz⟩:∃ W,set6 wa gR (.int .i64 h.k) (.int .i64 h.op) (.int .i64 h.v) (.int .i64 h.ln) (.string (st h.nm)) (.slice a n c)=W:=⟨_,rfl⟩
  have hZ:=hwz
  unfold set6 at hZ
  (try rw[hZ])
  rw[hwz] at HD0 hjv
  obtain⟨d0,d1,d2,d3,d4,d5⟩:=HD0.o.cells
  refine bodyPost_ret (v:=.tuple #[exv h (.slice a n c),.bool false]) (by simp[results,Tryz.results169,go_sem,d0,d1,d2,d3,d4,d5]) rfl ?_
  exact hjv.o _ (.inr ⟨rfl,HB.o⟩)
 obtain⟨ar,H8,har,hlt⟩:∃ ar,(∀ z,Ps (.suL (Xb h ar)) r z->Ps .su rest z)/\Xv wa (TBk w gR gx) ar (.slice a n c)/\r.length<rest.length:=by
  rcases HL.o.res with⟨_,h1⟩|⟨h1,_⟩
  ·exact h1
  cases h1
 have HCO:=Xj H8
 have HAR:=Xj har
 have HLT:=Xj hlt
 clear H8 har hlt
 have HOP:=Xj (Jb K 3 4 (by omega) at2 r wa HL.o.ms.pat)
 clear x0 x1 x2 x3 x4 x5 y0 y1 y2 y3 y4 y5 g0 g1 g2 g3 g4 g5
 go_wp2_with fail
 refine HOP.o.mono ?_
 rintro e w4 ⟨at4,r4,hp4,hg4,hO⟩
 have HM4:=Xj (HL.o.ms.call hp4 hg4)
 have HR4:=Xj (HL.o.rc.gr hg4 (by omega))
 have HX4:=Xj (HL.o.xc.gr hg4 (by omega))
 have hju:=Xj (Yl HAR.o hg4 (λ b hb=>by have:=hb.1;omega))
 clear hp4 hg4 hjv HD0
 rcases hO with⟨hT,rfl,rfl,rfl⟩|⟨hT,rfl,rfl,rfl⟩
 ·have HT:=Xj hT
  obtain⟨op,hop⟩:∃ o,Yy 3 4 r=o:=⟨_,rfl⟩
  obtain⟨tn,htn⟩:∃ o,Yj r=o:=⟨_,rfl⟩
  have HLN:=Xj (And.intro hop htn)
  have HRT:Xq (r.tail.length<r.length):=Xj (Jv (by intro e;rw[e] at hT;exact hT rfl))
  have dop:(op==0)=false:=by rw[beq_eq_false_iff_ne,<- hop];exact hT
  (try rw[hop])
  (try rw[htn])
  have HM6:=Xj (HM4.o.al zex)
  have HR6:=Xj (HR4.o.al zex)
  have HX6:=Xj (HX4.o.al zex)
  have HY6:=Xj (Lc.zero w4)
  have hjn:=Xj (Yu zex hju.o)
  have hxq:=Xj HX4.o.lt
  clear hT hop htn HM4 HR4 HX4 hju
  go_upto_region 6 with fail
  obtain⟨w6,hw6⟩:∃ W,(w4).alloc zex=W:=⟨_,rfl⟩
  obtain⟨gy,hgy⟩:∃ x,w4.heap.size=x:=⟨_,rfl⟩
  have hqu:Xq (gx<gy):=Xj (by rw[<- hgy];exact hxq.o)
  have HGY:Xq (w6.heap.size=gy+1):=Xj (by rw[<- hw6,<- hgy];simp[World.setCell])
  (try rw[show (w4).alloc (.cells #[.int .i64 0,.int .i64 0,.int .i64 0,.int .i64 0,.string { data := #[] },.slice none 0 0] 37)=w6 from hw6])
  have hjr:(w4).heap.size=gy:=by rw[<- hgy]
  rw[hw6,hjr] at HY6 hjn
  rw[hw6] at HM6 HR6 HX6
  (try rw[hgy])
  have hzs:=hqu.o
  have hzt:=HGY.o
  clear hw6 hgy hjr
  go_wp2_with fail
  refine(HA.o K (at2+1) r.tail _ HM6.o.pat (by have:=HRT.o;have:=HL.o.le;have:=HMm.o;omega)).mono ?_
  rintro e w7 ⟨h2,a2,n2,c2,ok2,at7,r7,rfl,hp7,hI,hg7,hH⟩
  have hs7:=hg7.size
  have HM7:=Xj (HM6.o.call hp7 hg7)
  have HR7:=Xj (HR6.o.gr hg7 (by omega))
  have HX7:=Xj (HX6.o.gr hg7 (by omega))
  have HY7:=Xj (HY6.o.gr hg7 (by omega))
  have hjc:=Xj (Yl hjn.o hg7 (λ b hb=>by have:=hb.1.1;omega))
  have hxj:at2<at7:=by
   have h1:=HM7.o.pat.lt.2
   have h2:=HL.o.ms.pat.lt.2
   have h3:=HRT.o
   omega
  obtain⟨q0,q1,q2,q3,q4,q5⟩:=HX7.o.cells
  obtain⟨k0,k1,k2,k3,k4,k5⟩:=HX7.o.froz
  obtain⟨v0,v1,v2,v3,v4,v5⟩:=HY7.o.froz
  obtain⟨u0,u1,u2,u3,u4,u5⟩:=HY7.o.cells
  have hqb:=HX7.o.lt
  have hqw:=HY7.o.lt
  have HY8:=Xj (HY7.o.s6 h2 (.slice a2 n2 c2))
  have HX8:=Xj (HX7.o.s6o (g:=gy) (v0:=.int .i64 h2.k) (v1:=.int .i64 h2.op) (v2:=.int .i64 h2.v) (v3:=.int .i64 h2.ln) (v4:=.string (st h2.nm)) (v5:=.slice a2 n2 c2) (by omega))
  have HR8:=Xj (HR7.o.s6o (g:=gy) (v0:=.int .i64 h2.k) (v1:=.int .i64 h2.op) (v2:=.int .i64 h2.v) (v3:=.int .i64 h2.ln) (v4:=.string (st h2.nm)) (v5:=.slice a2 n2 c2) (by omega))
  have HM8:=Xj (HM7.o.s6 (b:=gy) (by omega) (.int .i64 h2.k) (.int .i64 h2.op) (.int .i64 h2.v) (.int .i64 h2.ln) (.string (st h2.nm)) (.slice a2 n2 c2))
  have hjt:=Xj (Xy (Xd (v0:=.int .i64 h2.k) (v1:=.int .i64 h2.op) (v2:=.int .i64 h2.v) (v3:=.int .i64 h2.ln) (v4:=.string (st h2.nm)) (v5:=.slice a2 n2 c2) hjc.o (λ b hb=>hb.2)) (λ b hb _=>hb.1))
  have H5:Xq ((ok2=true/\∃ ar2,Ps .te r.tail (.ok (Xb h2 ar2) r7)/\Xv (set6 w7 gy (.int .i64 h2.k) (.int .i64 h2.op) (.int .i64 h2.v) (.int .i64 h2.ln) (.string (st h2.nm)) (.slice a2 n2 c2)) (TBk w gR gx) ar2 (.slice a2 n2 c2)/\r7.length<r.tail.length)\/(ok2=false/\Ps .te r.tail (.bad r7))):=Xj (by
   rcases hH.o with⟨h1,ar2,h2',h3,h4⟩|hr
   ·exact .inl ⟨h1,ar2,h2',Xy (Xd h3 (λ b hb=>by omega)) (λ b hb _=>⟨by omega,by omega,by omega⟩),h4⟩
   exact .inr hr)
  clear hH hp7 hg7 HM7 HR7 HX7 HY7 hjc
  go_upto_region 7 with fail
  obtain⟨w8,hw8⟩:∃ W,set6 w7 gy (.int .i64 h2.k) (.int .i64 h2.op) (.int .i64 h2.v) (.int .i64 h2.ln) (.string (st h2.nm)) (.slice a2 n2 c2)=W:=⟨_,rfl⟩
  have hjb:=hw8
  unfold set6 at hjb
  (try rw[hjb])
  rw[hw8] at HY8 HX8 HR8 HM8 hjt H5
  clear hw8 hjb q0 q1 q2 q3 q4 q5 k0 k1 k2 k3 k4 k5 v0 v1 v2 v3 v4 v5 u0 u1 u2 u3 u4 u5 hqb hqw
  obtain⟨q0,q1,q2,q3,q4,q5⟩:=HX8.o.cells
  obtain⟨k0,k1,k2,k3,k4,k5⟩:=HX8.o.froz
  obtain⟨v0,v1,v2,v3,v4,v5⟩:=HY8.o.cells
  have hqd:=HX8.o.lt
  have hqh:=HY8.o.lt
  have hY:∀ W,W=(set6 w8 gx (.int .i64 (Hd.k ⟨6,op,0,tn,[]⟩)) (.int .i64 (Hd.op ⟨6,op,0,tn,[]⟩)) (.int .i64 0) (.int .i64 (Hd.ln ⟨6,op,0,tn,[]⟩)) (.string { data := #[] }) (.slice (some ⟨w8.heap.size,0,none⟩) 2 2)).alloc (.cells #[.int .i64 h.k,.int .i64 h.op,.int .i64 h.v,.int .i64 h.ln,.string (st h.nm),.slice a n c,.int .i64 h2.k,.int .i64 h2.op,.int .i64 h2.v,.int .i64 h2.ln,.string (st h2.nm),.slice a2 n2 c2] 37) ->
    LI K w gR gx .su .suL rest ⟨6,op,0,tn,[]⟩ (some ⟨w8.heap.size,0,none⟩) 2 2 ok2 at7 r7 W:=λ W hW=>by
   rw[<- Yf _ HX8.o.lt] at hW
   have hA:=HX8.o.al (.cells #[.int .i64 h.k,.int .i64 h.op,.int .i64 h.v,.int .i64 h.ln,.string (st h.nm),.slice a n c,.int .i64 h2.k,.int .i64 h2.op,.int .i64 h2.v,.int .i64 h2.ln,.string (st h2.nm),.slice a2 n2 c2] 37)
   subst hW
   refine⟨(HM8.o.al _).s6 (by omega) _ _ _ _ _ _,(HR8.o.al _).s6o (by omega),hA.s6 ⟨6,op,0,tn,[]⟩ (.slice (some ⟨w8.heap.size,0,none⟩) 2 2),by have:=HRT.o;have:=HL.o.le;omega,?_⟩
   rcases H5.o with⟨h1,ar2,h2,h3,h4⟩|⟨h1,h2⟩
   ·refine .inl ⟨h1,(Xb h ar).app (Xb _ ar2),λ z hz=>HCO.o z (Ps.suL_ok HT.o h2 (by rw[HLN.o.1,HLN.o.2];exact hz)),?_,by have:=HRT.o;have:=HLT.o;omega⟩
    exact Xd (Qt hjt.o h3 (λ b hb _=>hb) ⟨by have:=HM8.o.gr.size;omega,by have:=HR8.o.lt;omega,by have:=HX8.o.lt;omega⟩) (λ b hb=>hb.2.2)
   exact .inr ⟨h1,HCO.o _ (Ps.suL_bad HT.o h2)⟩
  have H9:=Xj hY
  clear hY
  go_wp2_with fail
  go_roundw
  case rel=>exact⟨⟨6,op,0,tn,[]⟩,some ⟨w8.heap.size,0,none⟩,2,2,ok2,at7,r7,rfl,Xj (H9.o _ rfl)⟩
  have h1:=(H9.o _ rfl).ms.pat.natAt
  have h2:=HL.o.ms.pat.natAt
  have h3:=HL.o.ms.pat.lt.1
  unfold set6 at h1
  rw[h2]
  simp only[World.setCell_alloc_past] at h1 ⊢
  first|(rw[h1];omega)|(simp at h1;rw[h1];omega)
 have HD4:=Xj (HR4.o.s6 h (.slice a n c))
 have HZ:Xq (Ps .su rest (.ok (Xb h ar) r4)):=Xj (HCO.o _ (Ps.suL_end hT))
 obtain⟨x0,x1,x2,x3,x4,x5⟩:=HX4.o.cells
 obtain⟨g0,g1,g2,g3,g4,g5⟩:=HR4.o.froz
 obtain⟨y0,y1,y2,y3,y4,y5⟩:=HR4.o.cells
 have hzy:=HR4.o.lt
 clear hT
 go_wp2_with fail
 obtain⟨wz,hwz⟩:∃ W,set6 w4 gR (.int .i64 h.k) (.int .i64 h.op) (.int .i64 h.v) (.int .i64 h.ln) (.string (st h.nm)) (.slice a n c)=W:=⟨_,rfl⟩
 have HMZ:=Xj (HM4.o.s6 (b:=gR) (by omega) (.int .i64 h.k) (.int .i64 h.op) (.int .i64 h.v) (.int .i64 h.ln) (.string (st h.nm)) (.slice a n c))
 have HAZ:=Xj (Xd (v0:=.int .i64 h.k) (v1:=.int .i64 h.op) (v2:=.int .i64 h.v) (v3:=.int .i64 h.ln) (v4:=.string (st h.nm)) (v5:=.slice a n c) hju.o (λ b hb=>hb.2.1))
 have hZ:=hwz
 unfold set6 at hZ
 (try rw[hZ])
 rw[hwz] at HD4 HMZ HAZ
 obtain⟨d0,d1,d2,d3,d4,d5⟩:=HD4.o.cells
 refine bodyPost_ret (v:=.tuple #[exv h (.slice a n c),.bool true]) (by simp[results,Tryz.results169,go_sem,d0,d1,d2,d3,d4,d5]) rfl ?_
 exact⟨h,a,n,c,true,at4,r4,rfl,HMZ.o.pat,HL.o.le,HMZ.o.gr,Xj (.inl ⟨rfl,ar,HZ.o,Xy HAZ.o (λ b hb _=>hb.1),HLT.o⟩)⟩
theorem Tm (m:Nat) (hA:CE 202 .un m):CE 189 .te m:=by
 intro K at_ rest w hP hm
 have HM1:=Xj ((MS.init hP).al zex)
 have HR1:=Xj (Lc.zero w)
 have HA:=Xj hA
 have HMm:=Xj hm
 clear hA hP hm
 go_enter Tryz.func189,Tryz.ntmps189
 go_upto_region 1 with fail
 obtain⟨w1,hw1⟩:∃ W,w.alloc zex=W:=⟨_,rfl⟩
 obtain⟨gR,hgR⟩:∃ x,w.heap.size=x:=⟨_,rfl⟩
 (try rw[show w.alloc (.cells #[.int .i64 0,.int .i64 0,.int .i64 0,.int .i64 0,.string { data := #[] },.slice none 0 0] 37)=w1 from hw1])
 rw[hw1] at HM1 HR1
 rw[hgR] at HR1
 (try rw[hgR])
 have HGR:=Xj hgR
 have HS1:Xq (w1.heap.size=gR+1):=Xj (by rw[<- hw1,<- hgR];simp)
 clear hw1 hgR
 go_wp2_with fail
 refine(HA.o K at_ rest _ HM1.o.pat HMm.o).mono ?_
 rintro e w2 ⟨h,a,n,c,ok,at2,r,rfl,hp2,H6,hg2,hO⟩
 have HM2:=Xj (HM1.o.call hp2 hg2)
 have HR2:=Xj (HR1.o.gr hg2 (by have:=HM1.o.gl;have:=HGR.o;omega))
 have hs2:=hg2.size
 have HM3:=Xj (HM2.o.al (.cells (ecs h (.slice a n c)) 37))
 have HR3:=Xj (HR2.o.al (.cells (ecs h (.slice a n c)) 37))
 have HX3:=Xj (Lc.new w2 h (.slice a n c))
 have HJ:Xq ((ok=true/\∃ ar,(∀ z,Ps (.teL (Xb h ar)) r z->Ps .te rest z)/\Xv (w2.alloc (.cells (ecs h (.slice a n c)) 37)) (TBk w gR w2.heap.size) ar (.slice a n c)/\r.length<rest.length)\/(ok=false/\Ps .te rest (.bad r))):=Xj (by
  rcases hO.o with⟨h1,ar,h2,h3,h4⟩|⟨h1,h2⟩
  ·exact .inl ⟨h1,ar,λ z hz=>Ps.te_ok h2 hz,Xy (Yu _ h3) (λ b hb _=>⟨by have:=hb.1;have:=HS1.o;have:=HGR.o;omega,by have:=hb.1;have:=HS1.o;omega,hb.2⟩),h4⟩
  exact .inr ⟨h1,Ps.te_bad h2⟩)
 clear hO hp2 hg2
 go_upto_block 0 with fail
 obtain⟨w3,hw3⟩:∃ W,w2.alloc (.cells (ecs h (.slice a n c)) 37)=W:=⟨_,rfl⟩
 obtain⟨gx,hgx⟩:∃ x,w2.heap.size=x:=⟨_,rfl⟩
 (try rw[show w2.alloc (.cells #[.int .i64 h.k,.int .i64 h.op,.int .i64 h.v,.int .i64 h.ln,.string (st h.nm),.slice a n c] 37)=w3 from hw3])
 rw[hw3] at HM3 HR3 HX3 HJ
 rw[hgx] at HX3 HJ
 (try rw[hgx])
 have HGX:Xq (gR<gx):=Xj (by have:=HS1.o;omega)
 have HLE:=Xj H6
 clear hw3 hgx hs2 H6 HM2 HR2 HM1 HR1
 go_wp2_with fail
 go_loopw [5] (λ v5 wr=>∃ (h:Hd) (a:Option Addr) (n c:Nat) (ok:Bool) (at2:Nat) (r:List Tk),v5=.bool ok/\Xq (LI K w gR gx .te .teL rest h a n c ok at2 r wr)) (λ _ wr=>K.ts.length-natAt wr K.g)
 case atStart=>exact⟨h,a,n,c,ok,at2,r,rfl,Xj ⟨HM3.o,HR3.o,HX3.o,HLE.o,HJ.o⟩⟩
 rename World=>wa
 obtain⟨h,a,n,c,ok,at2,r,rfl,HL⟩:=hrel
 obtain⟨x0,x1,x2,x3,x4,x5⟩:=HL.o.xc.cells
 obtain⟨g0,g1,g2,g3,g4,g5⟩:=HL.o.rc.froz
 obtain⟨y0,y1,y2,y3,y4,y5⟩:=HL.o.rc.cells
 have hlR:=HL.o.rc.lt
 have hlX:=HL.o.xc.lt
 have hgg:=HL.o.ms.gl
 have hqv:=HGR.o
 have hzj:=HGX.o
 have hjy:∀ (ok2:Bool),((ok2=true/\∃ ar,Ps .te rest (.ok (Xb h ar) r)/\Xv wa (TBk w gR gx) ar (.slice a n c)/\r.length<rest.length)\/(ok2=false/\Ps .te rest (.bad r)))->EP K .te rest w (.returned (.tuple #[exv h (.slice a n c),.bool ok2])) (set6 wa gR (.int .i64 h.k) (.int .i64 h.op) (.int .i64 h.v) (.int .i64 h.ln) (.string (st h.nm)) (.slice a n c)):=λ ok2 hr=>by
  have hms:=HL.o.ms.s6 (b:=gR) (by omega) (.int .i64 h.k) (.int .i64 h.op) (.int .i64 h.v) (.int .i64 h.ln) (.string (st h.nm)) (.slice a n c)
  refine⟨h,a,n,c,ok2,at2,r,rfl,hms.pat,HL.o.le,hms.gr,Xj ?_⟩
  rcases hr with⟨h1,ar,h2,h3,h4⟩|hr
  ·exact .inl ⟨h1,ar,h2,Xy (Xd h3 (λ b hb=>hb.2.1)) (λ b hb _=>hb.1),h4⟩
  exact .inr hr
 have hjv:=Xj hjy
 have HD0:=Xj (HL.o.rc.s6 h (.slice a n c))
 clear hjy
 cases ok
 ·have HB:Xq (Ps .te rest (.bad r)):=Xj (by
   rcases HL.o.res with⟨h1,_⟩|⟨_,h1⟩
   ·cases h1
   exact h1)
  go_wp2_with fail
  obtain⟨wz,hwz⟩:∃ W,set6 wa gR (.int .i64 h.k) (.int .i64 h.op) (.int .i64 h.v) (.int .i64 h.ln) (.string (st h.nm)) (.slice a n c)=W:=⟨_,rfl⟩
  have hZ:=hwz
  unfold set6 at hZ
  (try rw[hZ])
  rw[hwz] at HD0 hjv
  obtain⟨d0,d1,d2,d3,d4,d5⟩:=HD0.o.cells
  refine bodyPost_ret (v:=.tuple #[exv h (.slice a n c),.bool false]) (by simp[results,Tryz.results189,go_sem,d0,d1,d2,d3,d4,d5]) rfl ?_
  exact hjv.o _ (.inr ⟨rfl,HB.o⟩)
 obtain⟨ar,H8,har,hlt⟩:∃ ar,(∀ z,Ps (.teL (Xb h ar)) r z->Ps .te rest z)/\Xv wa (TBk w gR gx) ar (.slice a n c)/\r.length<rest.length:=by
  rcases HL.o.res with⟨_,h1⟩|⟨h1,_⟩
  ·exact h1
  cases h1
 have HCO:=Xj H8
 have HAR:=Xj har
 have HLT:=Xj hlt
 clear H8 har hlt
 have HOP:=Xj (Jb K 5 7 (by omega) at2 r wa HL.o.ms.pat)
 clear x0 x1 x2 x3 x4 x5 y0 y1 y2 y3 y4 y5 g0 g1 g2 g3 g4 g5
 go_wp2_with fail
 refine HOP.o.mono ?_
 rintro e w4 ⟨at4,r4,hp4,hg4,hO⟩
 have HM4:=Xj (HL.o.ms.call hp4 hg4)
 have HR4:=Xj (HL.o.rc.gr hg4 (by omega))
 have HX4:=Xj (HL.o.xc.gr hg4 (by omega))
 have hju:=Xj (Yl HAR.o hg4 (λ b hb=>by have:=hb.1;omega))
 clear hp4 hg4 hjv HD0
 rcases hO with⟨hT,rfl,rfl,rfl⟩|⟨hT,rfl,rfl,rfl⟩
 ·have HT:=Xj hT
  obtain⟨op,hop⟩:∃ o,Yy 5 7 r=o:=⟨_,rfl⟩
  obtain⟨tn,htn⟩:∃ o,Yj r=o:=⟨_,rfl⟩
  have HLN:=Xj (And.intro hop htn)
  have HRT:Xq (r.tail.length<r.length):=Xj (Jv (by intro e;rw[e] at hT;exact hT rfl))
  have dop:(op==0)=false:=by rw[beq_eq_false_iff_ne,<- hop];exact hT
  (try rw[hop])
  (try rw[htn])
  have HM6:=Xj (HM4.o.al zex)
  have HR6:=Xj (HR4.o.al zex)
  have HX6:=Xj (HX4.o.al zex)
  have HY6:=Xj (Lc.zero w4)
  have hjn:=Xj (Yu zex hju.o)
  have hxq:=Xj HX4.o.lt
  clear hT hop htn HM4 HR4 HX4 hju
  go_upto_region 6 with fail
  obtain⟨w6,hw6⟩:∃ W,(w4).alloc zex=W:=⟨_,rfl⟩
  obtain⟨gy,hgy⟩:∃ x,w4.heap.size=x:=⟨_,rfl⟩
  have hqu:Xq (gx<gy):=Xj (by rw[<- hgy];exact hxq.o)
  have HGY:Xq (w6.heap.size=gy+1):=Xj (by rw[<- hw6,<- hgy];simp[World.setCell])
  (try rw[show (w4).alloc (.cells #[.int .i64 0,.int .i64 0,.int .i64 0,.int .i64 0,.string { data := #[] },.slice none 0 0] 37)=w6 from hw6])
  have hjr:(w4).heap.size=gy:=by rw[<- hgy]
  rw[hw6,hjr] at HY6 hjn
  rw[hw6] at HM6 HR6 HX6
  (try rw[hgy])
  have hzs:=hqu.o
  have hzt:=HGY.o
  clear hw6 hgy hjr
  go_wp2_with fail
  refine(HA.o K (at2+1) r.tail _ HM6.o.pat (by have:=HRT.o;have:=HL.o.le;have:=HMm.o;omega)).mono ?_
  rintro e w7 ⟨h2,a2,n2,c2,ok2,at7,r7,rfl,hp7,hI,hg7,hH⟩
  have hs7:=hg7.size
  have HM7:=Xj (HM6.o.call hp7 hg7)
  have HR7:=Xj (HR6.o.gr hg7 (by omega))
  have HX7:=Xj (HX6.o.gr hg7 (by omega))
  have HY7:=Xj (HY6.o.gr hg7 (by omega))
  have hjc:=Xj (Yl hjn.o hg7 (λ b hb=>by have:=hb.1.1;omega))
  have hxj:at2<at7:=by
   have h1:=HM7.o.pat.lt.2
   have h2:=HL.o.ms.pat.lt.2
   have h3:=HRT.o
   omega
  obtain⟨q0,q1,q2,q3,q4,q5⟩:=HX7.o.cells
  obtain⟨k0,k1,k2,k3,k4,k5⟩:=HX7.o.froz
  obtain⟨v0,v1,v2,v3,v4,v5⟩:=HY7.o.froz
  obtain⟨u0,u1,u2,u3,u4,u5⟩:=HY7.o.cells
  have hqb:=HX7.o.lt
  have hqw:=HY7.o.lt
  have HY8:=Xj (HY7.o.s6 h2 (.slice a2 n2 c2))
  have HX8:=Xj (HX7.o.s6o (g:=gy) (v0:=.int .i64 h2.k) (v1:=.int .i64 h2.op) (v2:=.int .i64 h2.v) (v3:=.int .i64 h2.ln) (v4:=.string (st h2.nm)) (v5:=.slice a2 n2 c2) (by omega))
  have HR8:=Xj (HR7.o.s6o (g:=gy) (v0:=.int .i64 h2.k) (v1:=.int .i64 h2.op) (v2:=.int .i64 h2.v) (v3:=.int .i64 h2.ln) (v4:=.string (st h2.nm)) (v5:=.slice a2 n2 c2) (by omega))
  have HM8:=Xj (HM7.o.s6 (b:=gy) (by omega) (.int .i64 h2.k) (.int .i64 h2.op) (.int .i64 h2.v) (.int .i64 h2.ln) (.string (st h2.nm)) (.slice a2 n2 c2))
  have hjt:=Xj (Xy (Xd (v0:=.int .i64 h2.k) (v1:=.int .i64 h2.op) (v2:=.int .i64 h2.v) (v3:=.int .i64 h2.ln) (v4:=.string (st h2.nm)) (v5:=.slice a2 n2 c2) hjc.o (λ b hb=>hb.2)) (λ b hb _=>hb.1))
  have H5:Xq ((ok2=true/\∃ ar2,Ps .un r.tail (.ok (Xb h2 ar2) r7)/\Xv (set6 w7 gy (.int .i64 h2.k) (.int .i64 h2.op) (.int .i64 h2.v) (.int .i64 h2.ln) (.string (st h2.nm)) (.slice a2 n2 c2)) (TBk w gR gx) ar2 (.slice a2 n2 c2)/\r7.length<r.tail.length)\/(ok2=false/\Ps .un r.tail (.bad r7))):=Xj (by
   rcases hH.o with⟨h1,ar2,h2',h3,h4⟩|hr
   ·exact .inl ⟨h1,ar2,h2',Xy (Xd h3 (λ b hb=>by omega)) (λ b hb _=>⟨by omega,by omega,by omega⟩),h4⟩
   exact .inr hr)
  clear hH hp7 hg7 HM7 HR7 HX7 HY7 hjc
  go_upto_region 7 with fail
  obtain⟨w8,hw8⟩:∃ W,set6 w7 gy (.int .i64 h2.k) (.int .i64 h2.op) (.int .i64 h2.v) (.int .i64 h2.ln) (.string (st h2.nm)) (.slice a2 n2 c2)=W:=⟨_,rfl⟩
  have hjb:=hw8
  unfold set6 at hjb
  (try rw[hjb])
  rw[hw8] at HY8 HX8 HR8 HM8 hjt H5
  clear hw8 hjb q0 q1 q2 q3 q4 q5 k0 k1 k2 k3 k4 k5 v0 v1 v2 v3 v4 v5 u0 u1 u2 u3 u4 u5 hqb hqw
  obtain⟨q0,q1,q2,q3,q4,q5⟩:=HX8.o.cells
  obtain⟨k0,k1,k2,k3,k4,k5⟩:=HX8.o.froz
  obtain⟨v0,v1,v2,v3,v4,v5⟩:=HY8.o.cells
  have hqd:=HX8.o.lt
  have hqh:=HY8.o.lt
  have hY:∀ W,W=(set6 w8 gx (.int .i64 (Hd.k ⟨6,op,0,tn,[]⟩)) (.int .i64 (Hd.op ⟨6,op,0,tn,[]⟩)) (.int .i64 0) (.int .i64 (Hd.ln ⟨6,op,0,tn,[]⟩)) (.string { data := #[] }) (.slice (some ⟨w8.heap.size,0,none⟩) 2 2)).alloc (.cells #[.int .i64 h.k,.int .i64 h.op,.int .i64 h.v,.int .i64 h.ln,.string (st h.nm),.slice a n c,.int .i64 h2.k,.int .i64 h2.op,.int .i64 h2.v,.int .i64 h2.ln,.string (st h2.nm),.slice a2 n2 c2] 37) ->
    LI K w gR gx .te .teL rest ⟨6,op,0,tn,[]⟩ (some ⟨w8.heap.size,0,none⟩) 2 2 ok2 at7 r7 W:=λ W hW=>by
   rw[<- Yf _ HX8.o.lt] at hW
   have hA:=HX8.o.al (.cells #[.int .i64 h.k,.int .i64 h.op,.int .i64 h.v,.int .i64 h.ln,.string (st h.nm),.slice a n c,.int .i64 h2.k,.int .i64 h2.op,.int .i64 h2.v,.int .i64 h2.ln,.string (st h2.nm),.slice a2 n2 c2] 37)
   subst hW
   refine⟨(HM8.o.al _).s6 (by omega) _ _ _ _ _ _,(HR8.o.al _).s6o (by omega),hA.s6 ⟨6,op,0,tn,[]⟩ (.slice (some ⟨w8.heap.size,0,none⟩) 2 2),by have:=HRT.o;have:=HL.o.le;omega,?_⟩
   rcases H5.o with⟨h1,ar2,h2,h3,h4⟩|⟨h1,h2⟩
   ·refine .inl ⟨h1,(Xb h ar).app (Xb _ ar2),λ z hz=>HCO.o z (Ps.teL_ok HT.o h2 (by rw[HLN.o.1,HLN.o.2];exact hz)),?_,by have:=HRT.o;have:=HLT.o;omega⟩
    exact Xd (Qt hjt.o h3 (λ b hb _=>hb) ⟨by have:=HM8.o.gr.size;omega,by have:=HR8.o.lt;omega,by have:=HX8.o.lt;omega⟩) (λ b hb=>hb.2.2)
   exact .inr ⟨h1,HCO.o _ (Ps.teL_bad HT.o h2)⟩
  have H9:=Xj hY
  clear hY
  go_wp2_with fail
  go_roundw
  case rel=>exact⟨⟨6,op,0,tn,[]⟩,some ⟨w8.heap.size,0,none⟩,2,2,ok2,at7,r7,rfl,Xj (H9.o _ rfl)⟩
  have h1:=(H9.o _ rfl).ms.pat.natAt
  have h2:=HL.o.ms.pat.natAt
  have h3:=HL.o.ms.pat.lt.1
  unfold set6 at h1
  rw[h2]
  simp only[World.setCell_alloc_past] at h1 ⊢
  first|(rw[h1];omega)|(simp at h1;rw[h1];omega)
 have HD4:=Xj (HR4.o.s6 h (.slice a n c))
 have HZ:Xq (Ps .te rest (.ok (Xb h ar) r4)):=Xj (HCO.o _ (Ps.teL_end hT))
 obtain⟨x0,x1,x2,x3,x4,x5⟩:=HX4.o.cells
 obtain⟨g0,g1,g2,g3,g4,g5⟩:=HR4.o.froz
 obtain⟨y0,y1,y2,y3,y4,y5⟩:=HR4.o.cells
 have hzy:=HR4.o.lt
 clear hT
 go_wp2_with fail
 obtain⟨wz,hwz⟩:∃ W,set6 w4 gR (.int .i64 h.k) (.int .i64 h.op) (.int .i64 h.v) (.int .i64 h.ln) (.string (st h.nm)) (.slice a n c)=W:=⟨_,rfl⟩
 have HMZ:=Xj (HM4.o.s6 (b:=gR) (by omega) (.int .i64 h.k) (.int .i64 h.op) (.int .i64 h.v) (.int .i64 h.ln) (.string (st h.nm)) (.slice a n c))
 have HAZ:=Xj (Xd (v0:=.int .i64 h.k) (v1:=.int .i64 h.op) (v2:=.int .i64 h.v) (v3:=.int .i64 h.ln) (v4:=.string (st h.nm)) (v5:=.slice a n c) hju.o (λ b hb=>hb.2.1))
 have hZ:=hwz
 unfold set6 at hZ
 (try rw[hZ])
 rw[hwz] at HD4 HMZ HAZ
 obtain⟨d0,d1,d2,d3,d4,d5⟩:=HD4.o.cells
 refine bodyPost_ret (v:=.tuple #[exv h (.slice a n c),.bool true]) (by simp[results,Tryz.results189,go_sem,d0,d1,d2,d3,d4,d5]) rfl ?_
 exact⟨h,a,n,c,true,at4,r4,rfl,HMZ.o.pat,HL.o.le,HMZ.o.gr,Xj (.inl ⟨rfl,ar,HZ.o,Xy HAZ.o (λ b hb _=>hb.1),HLT.o⟩)⟩
end
end Go.Proofs.YtldgghnjminhiaaGreatDoor
