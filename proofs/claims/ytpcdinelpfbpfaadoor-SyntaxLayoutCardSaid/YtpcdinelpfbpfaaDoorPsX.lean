/-
  WORDS and WALKS of the implementation's parser: expr, and, sum, term. (Filled in from a template of this repo, printed by mk_psx.py.)
-/
import Derived.Test.YtpcdinelpfbpfaaDoorPsW
namespace Go.Proofs.YtpcdinelpfbpfaaDoor
open Go.ChangeShapes Go.WideShapes Go.ChangeAt Go.RowKit
set_option linter.unusedVariables false
set_option linter.unusedSimpArgs false

theorem args_mono {w:World} {P Q:Nat->Prop} {ar:Fo} {sl:Value} (h:ArgsAt w P ar sl) (hPQ : ∀ b,P b->b<w.heap.size->Q b):ArgsAt w Q ar sl:=h.keep (fun b hb hlt=>⟨rfl,hPQ b hb hlt⟩) (Nat.le_refl _)
theorem args_al {w:World} {P:Nat->Prop} {ar:Fo} {sl:Value} (o:Obj) (h:ArgsAt w P ar sl):ArgsAt (w.alloc o) (fun b=>P b/\b≠w.heap.size) ar sl:=h.keep (fun b hb hlt=>⟨Below.heap_alloc w o b hlt,hb,by omega⟩) (by simp)
theorem args_gr {w w':World} {P:Nat->Prop} {ar:Fo} {sl:Value} {g:Nat} (h:ArgsAt w P ar sl) (hg:w.grownBy w' (some g)) (hP : ∀ b,P b->b≠g):ArgsAt w' P ar sl:=h.keep (fun b hb hlt=>⟨hg.block b hlt (fun e=>by injection e with e;exact hP b hb e),hb⟩) hg.size
theorem args_s6 {w:World} {P:Nat->Prop} {ar:Fo} {sl:Value} {g:Nat} {v0 v1 v2 v3 v4 v5:Value} (h:ArgsAt w P ar sl) (hP : ∀ b,P b->b≠g):ArgsAt (set6 w g v0 v1 v2 v3 v4 v5) P ar sl:=h.keep (fun b hb hlt=>⟨other_set6 b (hP b hb),hb⟩) (by rw [size_set6];exact Nat.le_refl _)
theorem args_s1 {w:World} {P:Nat->Prop} {ar:Fo} {sl:Value} {p:Addr} {v:Value} (h:ArgsAt w P ar sl) (hP : ∀ b,P b->b≠p.block):ArgsAt (w.setCell p v) P ar sl:=h.keep (fun b hb hlt=>⟨heap_setCell_other w p b v (hP b hb),hb⟩) (by simp [World.setCell])
structure MS (K:PC) (w wx:World) (at_:Nat) (r:List Tk):Prop where
 pat:PAt wx K at_ r
 gr:w.grownBy wx (some K.g)
 gl:K.g<w.heap.size
 tl : ∀ x,K.al=some x->x.block<w.heap.size
section
variable {K:PC} {w wx wy:World} {at_ at2:Nat} {r r2:List Tk}
theorem MS.init (h:PAt w K at_ r):MS K w w at_ r:=by
 refine⟨h,⟨rfl,rfl,rfl,Nat.le_refl _,fun _ _ _=>rfl⟩,h.glt,fun x hx=>?_⟩
 obtain⟨y,s,b,off,_,e,hb,_⟩:=h.tok
 rw [e] at hx
 injection hx with hx
 subst hx
 exact hb
theorem MS.be (h:MS K w wx at_ r) (hb:Below wx.heap.size wx wy):MS K w wy at_ r:=⟨h.pat.below hb,grownBy_trans h.gr (grownBy_of_below hb _),h.gl,h.tl⟩
theorem MS.al (h:MS K w wx at_ r) (o:Obj):MS K w (wx.alloc o) at_ r:=h.be (below_alloc wx o)
theorem MS.sc (h:MS K w wx at_ r) {p:Addr} (hp:w.heap.size<=p.block) (v:Value):MS K w (wx.setCell p v) at_ r :=
 have hg:wx.grownBy (wx.setCell p v) (some p.block):=⟨rfl,rfl,rfl,by simp [World.setCell],fun k hk hn=>heap_setCell_other wx p k v (fun e=>hn (by rw [e]))⟩
 ⟨h.pat.grown hg (fun k e=>by injection e with e;subst e;exact⟨by have:=h.gl;omega,fun x hx=>by have:=h.tl x hx;omega⟩),grown_set1 h.gr hp,h.gl,h.tl⟩
theorem MS.s6 (h:MS K w wx at_ r) {b:Nat} (hb:w.heap.size<=b) (v0 v1 v2 v3 v4 v5:Value):MS K w (set6 wx b v0 v1 v2 v3 v4 v5) at_ r :=
 (((((h.sc (p:=⟨b,0,none⟩) hb v0).sc (p:=⟨b,1,none⟩) hb v1).sc (p:=⟨b,2,none⟩) hb v2).sc (p:=⟨b,3,none⟩) hb v3).sc (p:=⟨b,4,none⟩) hb v4).sc (p:=⟨b,5,none⟩) hb v5
theorem MS.step (h:MS K w wx at_ r) (hk:kOf r≠0):MS K w (wx.setCell ⟨K.g,1,none⟩ (.int .i64 ((at_:Int)+1))) (at_+1) r.tail:=⟨h.pat.step hk,grownBy_trans h.gr (grownBy_set wx K.g 1 _),h.gl,h.tl⟩
theorem MS.call (h:MS K w wx at_ r) (hp:PAt wy K at2 r2) (hg:wx.grownBy wy (some K.g)):MS K w wy at2 r2:=⟨hp,grownBy_trans h.gr hg,h.gl,h.tl⟩
theorem MS.w1 (h:MS K w wx at_ r):IntKind.i64.wrap ((at_:Int)+1)=(at_:Int)+1:=by
 have:=h.pat.lt.1
 have:=h.pat.n
 rw [IntKind.wrap_i64];omega
end
abbrev ecs (h:Hd) (sl:Value):Array Value := #[.int .i64 h.k,.int .i64 h.op,.int .i64 h.v,.int .i64 h.ln,.string (st h.nm),sl]
def Lc (wx:World) (b:Nat) (h:Hd) (sl:Value):Prop:=wx.heap[b]?=some (.cells (ecs h sl) 40 (0,0))
section
variable {wx wy:World} {b:Nat} {h:Hd} {sl:Value}
theorem Lc.lt (k:Lc wx b h sl):b<wx.heap.size:=heap_lt k
theorem Lc.al (k:Lc wx b h sl) (o:Obj):Lc (wx.alloc o) b h sl:=(Below.heap_alloc wx o b k.lt).trans k
theorem Lc.be (k:Lc wx b h sl) (hb:Below wx.heap.size wx wy):Lc wy b h sl:=(hb.block b k.lt).trans k
theorem Lc.gr {g:Nat} (k:Lc wx b h sl) (hg:wx.grownBy wy (some g)) (hn:b≠g):Lc wy b h sl:=(hg.block b k.lt (fun e=>by injection e with e;exact hn e)).trans k
theorem Lc.s1 (k:Lc wx b h sl) {p:Addr} {v:Value} (hn:b≠p.block):Lc (wx.setCell p v) b h sl:=(heap_setCell_other wx p b v hn).trans k
theorem Lc.s6o {g:Nat} {v0 v1 v2 v3 v4 v5:Value} (k:Lc wx b h sl) (hn:b≠g):Lc (set6 wx g v0 v1 v2 v3 v4 v5) b h sl:=(other_set6 b hn).trans k
theorem Lc.s6 (k:Lc wx b h sl) (h2:Hd) (sl2:Value):Lc (set6 wx b (.int .i64 h2.k) (.int .i64 h2.op) (.int .i64 h2.v) (.int .i64 h2.ln) (.string (st h2.nm)) sl2) b h2 sl2:=heap_set6 k
theorem Lc.cells (k:Lc wx b h sl):wx.cell? ⟨b,0,none⟩=some (.int .i64 h.k)/\wx.cell? ⟨b,1,none⟩=some (.int .i64 h.op)/\wx.cell? ⟨b,2,none⟩=some (.int .i64 h.v)/\wx.cell? ⟨b,3,none⟩=some (.int .i64 h.ln)/\wx.cell? ⟨b,4,none⟩=some (.string (st h.nm))/\wx.cell? ⟨b,5,none⟩=some sl:=cells6 k
theorem Lc.froz (k:Lc wx b h sl):wx.frozen? ⟨b,0,none⟩=false/\wx.frozen? ⟨b,1,none⟩=false/\wx.frozen? ⟨b,2,none⟩=false/\wx.frozen? ⟨b,3,none⟩=false/\wx.frozen? ⟨b,4,none⟩=false/\wx.frozen? ⟨b,5,none⟩=false :=
 ⟨frozen_of_row _ b 0 _ _ k,frozen_of_row _ b 1 _ _ k,frozen_of_row _ b 2 _ _ k,frozen_of_row _ b 3 _ _ k,frozen_of_row _ b 4 _ _ k,frozen_of_row _ b 5 _ _ k⟩
theorem Lc.new (w:World) (h:Hd) (sl:Value):Lc (w.alloc (.cells (ecs h sl) 40)) w.heap.size h sl:=heap_alloc_new w _
end
abbrev zhd:Hd:=⟨0,0,0,0,[]⟩
theorem Lc.zero (w:World):Lc (w.alloc zex) w.heap.size zhd (.slice none 0 0):=heap_alloc_new w _
def EP (K:PC) (lv:Lv) (rest:List Tk) (w:World) (e:Ending) (w':World):Prop :=
 ∃ (h:Hd) (a:Option Addr) (n c:Nat) (ok:Bool) (at2:Nat) (r:List Tk),e=.returned (.tuple #[exv h (.slice a n c),.bool ok])/\PAt w' K at2 r/\r.length<=rest.length/\w.grownBy w' (some K.g) /\
  Hid ((ok=true /\ ∃ ar,Ps lv rest (.ok (one1 h ar) r)/\ArgsAt w' (fun b=>w.heap.size<=b) ar (.slice a n c)/\r.length<rest.length)\/(ok=false/\Ps lv rest (.bad r)))
def CE (f:FuncId) (lv:Lv) (m:Nat):Prop := ∀ (K:PC) (at_:Nat) (rest:List Tk) (w:World),PAt w K at_ rest->rest.length<=m->Calls Tryd.prog f #[.pointer (some ⟨K.g,0,none⟩)] w (EP K lv rest w)
theorem CE.mono {f:FuncId} {lv:Lv} {m n:Nat} (h:CE f lv m) (hn:n<=m):CE f lv n:=fun K at_ rest w hp hl=>h K at_ rest w hp (Nat.le_trans hl hn)
def TBk (w:World) (gR gx:Nat):Nat->Prop:=fun b=>w.heap.size<=b/\b≠gR/\b≠gx
def natAt (w:World) (g:Nat):Nat:=match w.cell? ⟨g,1,none⟩ with
 | some (.int _ z)=>z.toNat
 | _=>0
theorem PAt.natAt {w:World} {K:PC} {at_:Nat} {rest:List Tk} (h:PAt w K at_ rest):Go.Proofs.YtpcdinelpfbpfaaDoor.natAt w K.g=at_:=by
 unfold Go.Proofs.YtpcdinelpfbpfaaDoor.natAt
 rw [h.cells.2.1]
 simp
structure LI (K:PC) (w:World) (gR gx:Nat) (lv:Lv) (L:Fo->Lv) (rest:List Tk) (h:Hd) (a:Option Addr) (n c:Nat) (ok:Bool) (at2:Nat) (r:List Tk) (wr:World):Prop where
 ms:MS K w wr at2 r
 rc:Lc wr gR zhd (.slice none 0 0)
 xc:Lc wr gx h (.slice a n c)
 le:r.length<=rest.length
 res:(ok=true /\ ∃ ar,(∀ z,Ps (L (one1 h ar)) r z->Ps lv rest z)/\ArgsAt wr (TBk w gR gx) ar (.slice a n c)/\r.length<rest.length)\/(ok=false/\Ps lv rest (.bad r))
theorem two_made {w:World} {P Q:Nat->Prop} {h1 h2:Hd} {a1 a2:Fo} {s1 s2:Value} (k1:ArgsAt w P a1 s1) (k2:ArgsAt w P a2 s2) (hPQ : ∀ b,P b->b<w.heap.size->Q b) (hQ:Q w.heap.size) :
  ArgsAt (w.alloc (.cells #[.int .i64 h1.k,.int .i64 h1.op,.int .i64 h1.v,.int .i64 h1.ln,.string (st h1.nm),s1,.int .i64 h2.k,.int .i64 h2.op,.int .i64 h2.v,.int .i64 h2.ln,.string (st h2.nm),s2] 40)) Q ((one1 h1 a1).app (one1 h2 a2)) (.slice (some ⟨w.heap.size,0,none⟩) 2 2) :=
 args_made (F:=(one1 h1 a1).app (one1 h2 a2)) (xs:=hdc h1 s1++hdc h2 s2) (FoAt.app k1.one k2.one) (by simp [Fo.app,Fo.len,maxLen]) hPQ hQ
theorem one_made {w:World} {P Q:Nat->Prop} {h1:Hd} {a1:Fo} {s1:Value} (k1:ArgsAt w P a1 s1) (hPQ : ∀ b,P b->b<w.heap.size->Q b) (hQ:Q w.heap.size) :
  ArgsAt (w.alloc (.cells #[.int .i64 h1.k,.int .i64 h1.op,.int .i64 h1.v,.int .i64 h1.ln,.string (st h1.nm),s1] 40)) Q (one1 h1 a1) (.slice (some ⟨w.heap.size,0,none⟩) 1 1) :=
 args_made (F:=one1 h1 a1) (xs:=hdc h1 s1) k1.one (by simp [Fo.len,maxLen]) hPQ hQ
theorem two_app (h1 h2:Hd) (a1 a2:Fo):(one1 h1 a1).app (one1 h2 a2)=.cons h1 a1 (.cons h2 a2 .nil):=rfl
set_option maxRecDepth 100000 in
set_option maxHeartbeats 8000000 in
theorem expr_of (m:Nat) (hA:CE 28 .an m):CE 17 .ex m:=by
 intro K at_ rest w hP hm
 have HM1:=Lib.hid ((MS.init hP).al zex)
 have HR1:=Lib.hid (Lc.zero w)
 have HA:=Lib.hid hA
 have HMm:=Lib.hid hm
 clear hA hP hm
 go_enter Tryd.func17,Tryd.ntmps17
 go_upto_region 1 with fail
 obtain⟨w1,hw1⟩ : ∃ W,w.alloc zex=W:=⟨_,rfl⟩
 obtain⟨gR,hgR⟩ : ∃ x,w.heap.size=x:=⟨_,rfl⟩
 (try rw [show w.alloc (.cells #[.int .i64 0,.int .i64 0,.int .i64 0,.int .i64 0,.string { data := #[] },.slice none 0 0] 40)=w1 from hw1])
 rw [hw1] at HM1 HR1
 rw [hgR] at HR1
 (try rw [hgR])
 have HGR:=Lib.hid hgR
 have HS1:Hid (w1.heap.size=gR+1):=Lib.hid (by rw [<- hw1,<- hgR];simp)
 clear hw1 hgR
 go_wp2_with fail
 refine(HA.out K at_ rest _ HM1.out.pat HMm.out).mono ?_
 rintro e w2 ⟨h,a,n,c,ok,at2,r,rfl,hp2,hle2,hg2,hres⟩
 have HM2:=Lib.hid (HM1.out.call hp2 hg2)
 have HR2:=Lib.hid (HR1.out.gr hg2 (by have:=HM1.out.gl;have:=HGR.out;omega))
 have hs2:=hg2.size
 have HM3:=Lib.hid (HM2.out.al (.cells (ecs h (.slice a n c)) 40))
 have HR3:=Lib.hid (HR2.out.al (.cells (ecs h (.slice a n c)) 40))
 have HX3:=Lib.hid (Lc.new w2 h (.slice a n c))
 have HRES3:Hid ((ok=true /\ ∃ ar,(∀ z,Ps (.exL (one1 h ar)) r z->Ps .ex rest z)/\ArgsAt (w2.alloc (.cells (ecs h (.slice a n c)) 40)) (TBk w gR w2.heap.size) ar (.slice a n c)/\r.length<rest.length)\/(ok=false/\Ps .ex rest (.bad r))):=Lib.hid (by
  rcases hres.out with⟨h1,ar,h2,h3,h4⟩ | ⟨h1,h2⟩
  ·exact .inl ⟨h1,ar,fun z hz=>Ps.ex_ok h2 hz,args_mono (args_al _ h3) (fun b hb _=>⟨by have:=hb.1;have:=HS1.out;have:=HGR.out;omega,by have:=hb.1;have:=HS1.out;omega,hb.2⟩),h4⟩
  ·exact .inr ⟨h1,Ps.ex_bad h2⟩)
 clear hres hp2 hg2
 go_upto_block 0 with fail
 obtain⟨w3,hw3⟩ : ∃ W,w2.alloc (.cells (ecs h (.slice a n c)) 40)=W:=⟨_,rfl⟩
 obtain⟨gx,hgx⟩ : ∃ x,w2.heap.size=x:=⟨_,rfl⟩
 (try rw [show w2.alloc (.cells #[.int .i64 h.k,.int .i64 h.op,.int .i64 h.v,.int .i64 h.ln,.string (st h.nm),.slice a n c] 40)=w3 from hw3])
 rw [hw3] at HM3 HR3 HX3 HRES3
 rw [hgx] at HX3 HRES3
 (try rw [hgx])
 have HGX:Hid (gR<gx):=Lib.hid (by have:=HS1.out;omega)
 have HLE:=Lib.hid hle2
 clear hw3 hgx hs2 hle2 HM2 HR2 HM1 HR1
 go_wp2_with fail
 go_loopw [5] (fun v5 wr => ∃ (h:Hd) (a:Option Addr) (n c:Nat) (ok:Bool) (at2:Nat) (r:List Tk),v5=.bool ok/\Hid (LI K w gR gx .ex .exL rest h a n c ok at2 r wr)) (fun _ wr=>K.ts.length - natAt wr K.g)
 case atStart=>exact⟨h,a,n,c,ok,at2,r,rfl,Lib.hid ⟨HM3.out,HR3.out,HX3.out,HLE.out,HRES3.out⟩⟩
 case round =>
  rename World=>wa
  obtain⟨h,a,n,c,ok,at2,r,rfl,HL⟩:=hrel
  obtain⟨x0,x1,x2,x3,x4,x5⟩:=HL.out.xc.cells
  obtain⟨g0,g1,g2,g3,g4,g5⟩:=HL.out.rc.froz
  obtain⟨y0,y1,y2,y3,y4,y5⟩:=HL.out.rc.cells
  have hlR:=HL.out.rc.lt
  have hlX:=HL.out.xc.lt
  have hgg:=HL.out.ms.gl
  have HGRo:=HGR.out
  have HGXo:=HGX.out
  have hend : ∀ (ok2:Bool),((ok2=true /\ ∃ ar,Ps .ex rest (.ok (one1 h ar) r)/\ArgsAt wa (TBk w gR gx) ar (.slice a n c)/\r.length<rest.length)\/(ok2=false/\Ps .ex rest (.bad r)))->EP K .ex rest w (.returned (.tuple #[exv h (.slice a n c),.bool ok2])) (set6 wa gR (.int .i64 h.k) (.int .i64 h.op) (.int .i64 h.v) (.int .i64 h.ln) (.string (st h.nm)) (.slice a n c)):=fun ok2 hr=>by
   have hms:=HL.out.ms.s6 (b:=gR) (by omega) (.int .i64 h.k) (.int .i64 h.op) (.int .i64 h.v) (.int .i64 h.ln) (.string (st h.nm)) (.slice a n c)
   refine⟨h,a,n,c,ok2,at2,r,rfl,hms.pat,HL.out.le,hms.gr,Lib.hid ?_⟩
   rcases hr with⟨h1,ar,h2,h3,h4⟩ | hr
   ·exact .inl ⟨h1,ar,h2,args_mono (args_s6 h3 (fun b hb=>hb.2.1)) (fun b hb _=>hb.1),h4⟩
   ·exact .inr hr
  have HEND:=Lib.hid hend
  have HD0:=Lib.hid (HL.out.rc.s6 h (.slice a n c))
  clear hend
  cases ok
  ·have HB:Hid (Ps .ex rest (.bad r)):=Lib.hid (by
    rcases HL.out.res with⟨h1,_⟩ | ⟨_,h1⟩
    ·cases h1
    ·exact h1)
   go_wp2_with fail
   obtain⟨wz,hwz⟩ : ∃ W,set6 wa gR (.int .i64 h.k) (.int .i64 h.op) (.int .i64 h.v) (.int .i64 h.ln) (.string (st h.nm)) (.slice a n c)=W:=⟨_,rfl⟩
   have hwz2:=hwz
   unfold set6 at hwz2
   (try rw [hwz2])
   rw [hwz] at HD0 HEND
   obtain⟨d0,d1,d2,d3,d4,d5⟩:=HD0.out.cells
   refine bodyPost_ret (v:=.tuple #[exv h (.slice a n c),.bool false]) (by simp [results,Tryd.results17,go_sem,d0,d1,d2,d3,d4,d5]) rfl ?_
   exact HEND.out _ (.inr ⟨rfl,HB.out⟩)
  ·obtain⟨ar,hcont,har,hlt⟩ : ∃ ar,(∀ z,Ps (.exL (one1 h ar)) r z->Ps .ex rest z)/\ArgsAt wa (TBk w gR gx) ar (.slice a n c)/\r.length<rest.length:=by
    rcases HL.out.res with⟨_,h1⟩ | ⟨h1,_⟩
    ·exact h1
    ·cases h1
   have HCO:=Lib.hid hcont
   have HAR:=Lib.hid har
   have HLT:=Lib.hid hlt
   clear hcont har hlt
   have HIS:=Lib.hid (is_any K at2 r [124,124] wa HL.out.ms.pat)
   clear x0 x1 x2 x3 x4 x5 y0 y1 y2 y3 y4 y5 g0 g1 g2 g3 g4 g5
   go_wp2_with fail
   refine HIS.out.mono ?_
   rintro e w4 ⟨rfl,hb4⟩
   have HM4:=Lib.hid (HL.out.ms.be hb4)
   have HR4:=Lib.hid (HL.out.rc.be hb4)
   have HX4:=Lib.hid (HL.out.xc.be hb4)
   have HAR4:=Lib.hid (HAR.out.keep (Q:=TBk w gR gx) (fun b hb hlt=>⟨hb4.block b hlt,hb⟩) hb4.size)
   have HS4:=Lib.hid hb4.size
   clear hb4 HEND HD0
   cases hT:isT [124,124] r
   ·have HD4:=Lib.hid (HR4.out.s6 h (.slice a n c))
    have HZ:Hid (Ps .ex rest (.ok (one1 h ar) r)):=Lib.hid (HCO.out _ (Ps.exL_end hT))
    obtain⟨x0,x1,x2,x3,x4,x5⟩:=HX4.out.cells
    obtain⟨g0,g1,g2,g3,g4,g5⟩:=HR4.out.froz
    obtain⟨y0,y1,y2,y3,y4,y5⟩:=HR4.out.cells
    have hlR4:=HR4.out.lt
    clear hT
    go_wp2_with fail
    obtain⟨wz,hwz⟩ : ∃ W,set6 w4 gR (.int .i64 h.k) (.int .i64 h.op) (.int .i64 h.v) (.int .i64 h.ln) (.string (st h.nm)) (.slice a n c)=W:=⟨_,rfl⟩
    have HMZ:=Lib.hid (HM4.out.s6 (b:=gR) (by omega) (.int .i64 h.k) (.int .i64 h.op) (.int .i64 h.v) (.int .i64 h.ln) (.string (st h.nm)) (.slice a n c))
    have HAZ:=Lib.hid (args_s6 (v0:=.int .i64 h.k) (v1:=.int .i64 h.op) (v2:=.int .i64 h.v) (v3:=.int .i64 h.ln) (v4:=.string (st h.nm)) (v5:=.slice a n c) HAR4.out (fun b hb=>hb.2.1))
    have hwz2:=hwz
    unfold set6 at hwz2
    (try rw [hwz2])
    rw [hwz] at HD4 HMZ HAZ
    obtain⟨d0,d1,d2,d3,d4,d5⟩:=HD4.out.cells
    refine bodyPost_ret (v:=.tuple #[exv h (.slice a n c),.bool true]) (by simp [results,Tryd.results17,go_sem,d0,d1,d2,d3,d4,d5]) rfl ?_
    exact⟨h,a,n,c,true,at2,r,rfl,HMZ.out.pat,HL.out.le,HMZ.out.gr,Lib.hid (.inl ⟨rfl,ar,HZ.out,args_mono HAZ.out (fun b hb _=>hb.1),HLT.out⟩)⟩
   ·have HT:=Lib.hid hT
    have HK0:Hid (kOf r≠0):=Lib.hid (isT_k hT).2.2.1
    obtain⟨⟨tk,tn,tv,tt⟩,r0,hr0⟩:=HM4.out.pat.en.cons
    have HLO:=Lib.hid (look_at K at2 tk tn tv tt r0 w4 (hr0▸HM4.out.pat))
    have HLN:Hid (lnOf r=tn):=Lib.hid (by rw [hr0];rfl)
    have HRT:Hid (r.tail.length<r.length):=Lib.hid (by rw [hr0];simp)
    have hfd : ∀ W:World,(Instr.field 56 (.agg #[.int .i64 tk,.int .i64 tn,.int .i64 tv,.string (st tt)]) 1).run Tryd.prog W=.ok (.int .i64 tn) W:=fun _=>by kernel_rfl
    clear hT hr0
    go_wp2_with fail
    refine HLO.out.mono ?_
    rintro e w5 ⟨rfl,hb5⟩
    have HM5:=Lib.hid (HM4.out.be hb5)
    have HR5:=Lib.hid (HR4.out.be hb5)
    have HX5:=Lib.hid (HX4.out.be hb5)
    have HAR5:=Lib.hid (HAR4.out.keep (Q:=TBk w gR gx) (fun b hb hlt=>⟨hb5.block b hlt,hb⟩) hb5.size)
    obtain⟨-,p1,-,f1,-,hlp⟩:=HM5.out.pat.cells
    have hw1:=HM5.out.w1
    have HM6:=Lib.hid ((HM5.out.step HK0.out).al zex)
    have HR6:=Lib.hid ((HR5.out.s1 (p:=⟨K.g,1,none⟩) (v:=.int .i64 ((at2:Int)+1)) (by show gR≠K.g;omega)).al zex)
    have HX6:=Lib.hid ((HX5.out.s1 (p:=⟨K.g,1,none⟩) (v:=.int .i64 ((at2:Int)+1)) (by show gx≠K.g;omega)).al zex)
    have HY6:=Lib.hid (Lc.zero (w5.setCell ⟨K.g,1,none⟩ (.int .i64 ((at2:Int)+1))))
    have HAR6:=Lib.hid (args_al zex (args_s1 (p:=⟨K.g,1,none⟩) (v:=.int .i64 ((at2:Int)+1)) HAR5.out (fun b hb=>by show b≠K.g;have:=hb.1;omega)))
    clear hb5 HM4 HR4 HX4 HAR4
    go_upto_region 6 with fail
    obtain⟨w6,hw6⟩ : ∃ W,(w5.setCell ⟨K.g,1,none⟩ (.int .i64 ((at2:Int)+1))).alloc zex=W:=⟨_,rfl⟩
    obtain⟨gy,hgy⟩ : ∃ x,w5.heap.size=x:=⟨_,rfl⟩
    have HGYX:Hid (gx<gy):=Lib.hid (by rw [<- hgy];exact HX5.out.lt)
    have HGY:Hid (w6.heap.size=gy+1):=Lib.hid (by rw [<- hw6,<- hgy];simp [World.setCell])
    (try rw [show (w5.setCell ⟨K.g,1,none⟩ (.int .i64 ((at2:Int)+1))).alloc (.cells #[.int .i64 0,.int .i64 0,.int .i64 0,.int .i64 0,.string { data := #[] },.slice none 0 0] 40)=w6 from hw6])
    have hsz6:(w5.setCell ⟨K.g,1,none⟩ (.int .i64 ((at2:Int)+1))).heap.size=gy:=by rw [<- hgy];simp [World.setCell]
    rw [hw6,hsz6] at HY6 HAR6
    rw [hw6] at HM6 HR6 HX6
    (try rw [hgy])
    have hgyx:=HGYX.out
    have hgy1:=HGY.out
    clear hw6 hgy hsz6
    go_wp2_with fail
    refine(HA.out K (at2+1) r.tail _ HM6.out.pat (by have:=HRT.out;have:=HL.out.le;have:=HMm.out;omega)).mono ?_
    rintro e w7 ⟨h2,a2,n2,c2,ok2,at7,r7,rfl,hp7,hle7,hg7,hres7⟩
    have hs7:=hg7.size
    have HM7:=Lib.hid (HM6.out.call hp7 hg7)
    have HR7:=Lib.hid (HR6.out.gr hg7 (by omega))
    have HX7:=Lib.hid (HX6.out.gr hg7 (by omega))
    have HY7:=Lib.hid (HY6.out.gr hg7 (by omega))
    have HAR7:=Lib.hid (args_gr HAR6.out hg7 (fun b hb=>by have:=hb.1.1;omega))
    have hat7:at2<at7:=by
     have h1:=HM7.out.pat.lt.2
     have h2:=HL.out.ms.pat.lt.2
     have h3:=HRT.out
     omega
    obtain⟨q0,q1,q2,q3,q4,q5⟩:=HX7.out.cells
    obtain⟨k0,k1,k2,k3,k4,k5⟩:=HX7.out.froz
    obtain⟨v0,v1,v2,v3,v4,v5⟩:=HY7.out.froz
    obtain⟨u0,u1,u2,u3,u4,u5⟩:=HY7.out.cells
    have hlX7:=HX7.out.lt
    have hlY7:=HY7.out.lt
    have HY8:=Lib.hid (HY7.out.s6 h2 (.slice a2 n2 c2))
    have HX8:=Lib.hid (HX7.out.s6o (g:=gy) (v0:=.int .i64 h2.k) (v1:=.int .i64 h2.op) (v2:=.int .i64 h2.v) (v3:=.int .i64 h2.ln) (v4:=.string (st h2.nm)) (v5:=.slice a2 n2 c2) (by omega))
    have HR8:=Lib.hid (HR7.out.s6o (g:=gy) (v0:=.int .i64 h2.k) (v1:=.int .i64 h2.op) (v2:=.int .i64 h2.v) (v3:=.int .i64 h2.ln) (v4:=.string (st h2.nm)) (v5:=.slice a2 n2 c2) (by omega))
    have HM8:=Lib.hid (HM7.out.s6 (b:=gy) (by omega) (.int .i64 h2.k) (.int .i64 h2.op) (.int .i64 h2.v) (.int .i64 h2.ln) (.string (st h2.nm)) (.slice a2 n2 c2))
    have HAR8:=Lib.hid (args_mono (args_s6 (v0:=.int .i64 h2.k) (v1:=.int .i64 h2.op) (v2:=.int .i64 h2.v) (v3:=.int .i64 h2.ln) (v4:=.string (st h2.nm)) (v5:=.slice a2 n2 c2) HAR7.out (fun b hb=>hb.2)) (fun b hb _=>hb.1))
    have HRS8:Hid ((ok2=true /\ ∃ ar2,Ps .an r.tail (.ok (one1 h2 ar2) r7)/\ArgsAt (set6 w7 gy (.int .i64 h2.k) (.int .i64 h2.op) (.int .i64 h2.v) (.int .i64 h2.ln) (.string (st h2.nm)) (.slice a2 n2 c2)) (TBk w gR gx) ar2 (.slice a2 n2 c2)/\r7.length<r.tail.length)\/(ok2=false/\Ps .an r.tail (.bad r7))):=Lib.hid (by
     rcases hres7.out with⟨h1,ar2,h2',h3,h4⟩ | hr
     ·exact .inl ⟨h1,ar2,h2',args_mono (args_s6 h3 (fun b hb=>by omega)) (fun b hb _=>⟨by omega,by omega,by omega⟩),h4⟩
     ·exact .inr hr)
    clear hres7 hp7 hg7 HM7 HR7 HX7 HY7 HAR7
    go_upto_region 7 with fail
    obtain⟨w8,hw8⟩ : ∃ W,set6 w7 gy (.int .i64 h2.k) (.int .i64 h2.op) (.int .i64 h2.v) (.int .i64 h2.ln) (.string (st h2.nm)) (.slice a2 n2 c2)=W:=⟨_,rfl⟩
    have hw82:=hw8
    unfold set6 at hw82
    (try rw [hw82])
    rw [hw8] at HY8 HX8 HR8 HM8 HAR8 HRS8
    clear hw8 hw82 q0 q1 q2 q3 q4 q5 k0 k1 k2 k3 k4 k5 v0 v1 v2 v3 v4 v5 u0 u1 u2 u3 u4 u5 hlX7 hlY7
    obtain⟨q0,q1,q2,q3,q4,q5⟩:=HX8.out.cells
    obtain⟨k0,k1,k2,k3,k4,k5⟩:=HX8.out.froz
    obtain⟨v0,v1,v2,v3,v4,v5⟩:=HY8.out.cells
    have hlX8:=HX8.out.lt
    have hlY8:=HY8.out.lt
    have hfin : ∀ W,W=(set6 w8 gx (.int .i64 (Hd.k ⟨8,0,0,tn,[]⟩)) (.int .i64 (Hd.op ⟨8,0,0,tn,[]⟩)) (.int .i64 0) (.int .i64 (Hd.ln ⟨8,0,0,tn,[]⟩)) (.string { data := #[] }) (.slice (some ⟨w8.heap.size,0,none⟩) 2 2)).alloc (.cells #[.int .i64 h.k,.int .i64 h.op,.int .i64 h.v,.int .i64 h.ln,.string (st h.nm),.slice a n c,.int .i64 h2.k,.int .i64 h2.op,.int .i64 h2.v,.int .i64 h2.ln,.string (st h2.nm),.slice a2 n2 c2] 40) ->
      LI K w gR gx .ex .exL rest ⟨8,0,0,tn,[]⟩ (some ⟨w8.heap.size,0,none⟩) 2 2 ok2 at7 r7 W:=fun W hW=>by
     rw [<- set6_alloc _ HX8.out.lt] at hW
     have hA:=HX8.out.al (.cells #[.int .i64 h.k,.int .i64 h.op,.int .i64 h.v,.int .i64 h.ln,.string (st h.nm),.slice a n c,.int .i64 h2.k,.int .i64 h2.op,.int .i64 h2.v,.int .i64 h2.ln,.string (st h2.nm),.slice a2 n2 c2] 40)
     subst hW
     refine⟨(HM8.out.al _).s6 (by omega) _ _ _ _ _ _,(HR8.out.al _).s6o (by omega),hA.s6 ⟨8,0,0,tn,[]⟩ (.slice (some ⟨w8.heap.size,0,none⟩) 2 2),by have:=HRT.out;have:=HL.out.le;omega,?_⟩
     rcases HRS8.out with⟨h1,ar2,h2,h3,h4⟩ | ⟨h1,h2⟩
     ·refine .inl ⟨h1,(one1 h ar).app (one1 _ ar2),fun z hz=>HCO.out z (Ps.exL_ok HT.out h2 (by rw [HLN.out];exact hz)),?_,by have:=HRT.out;have:=HLT.out;omega⟩
      exact args_s6 (two_made HAR8.out h3 (fun b hb _=>hb) ⟨by have:=HM8.out.gr.size;omega,by have:=HR8.out.lt;omega,by have:=HX8.out.lt;omega⟩) (fun b hb=>hb.2.2)
     ·exact .inr ⟨h1,HCO.out _ (Ps.exL_bad HT.out h2)⟩
    have HFIN:=Lib.hid hfin
    clear hfin
    go_wp2_with fail
    go_roundw
    case rel=>exact⟨⟨8,0,0,tn,[]⟩,some ⟨w8.heap.size,0,none⟩,2,2,ok2,at7,r7,rfl,Lib.hid (HFIN.out _ rfl)⟩
    case measure =>
     have h1:=(HFIN.out _ rfl).ms.pat.natAt
     have h2:=HL.out.ms.pat.natAt
     have h3:=HL.out.ms.pat.lt.1
     unfold set6 at h1
     rw [h2]
     simp only [World.setCell_alloc_past] at h1 ⊢
     first | (rw [h1];omega) | (simp at h1;rw [h1];omega)
set_option maxRecDepth 100000 in
set_option maxHeartbeats 8000000 in
theorem and_of (m:Nat) (hA:CE 42 .cm m):CE 28 .an m:=by
 intro K at_ rest w hP hm
 have HM1:=Lib.hid ((MS.init hP).al zex)
 have HR1:=Lib.hid (Lc.zero w)
 have HA:=Lib.hid hA
 have HMm:=Lib.hid hm
 clear hA hP hm
 go_enter Tryd.func28,Tryd.ntmps28
 go_upto_region 1 with fail
 obtain⟨w1,hw1⟩ : ∃ W,w.alloc zex=W:=⟨_,rfl⟩
 obtain⟨gR,hgR⟩ : ∃ x,w.heap.size=x:=⟨_,rfl⟩
 (try rw [show w.alloc (.cells #[.int .i64 0,.int .i64 0,.int .i64 0,.int .i64 0,.string { data := #[] },.slice none 0 0] 40)=w1 from hw1])
 rw [hw1] at HM1 HR1
 rw [hgR] at HR1
 (try rw [hgR])
 have HGR:=Lib.hid hgR
 have HS1:Hid (w1.heap.size=gR+1):=Lib.hid (by rw [<- hw1,<- hgR];simp)
 clear hw1 hgR
 go_wp2_with fail
 refine(HA.out K at_ rest _ HM1.out.pat HMm.out).mono ?_
 rintro e w2 ⟨h,a,n,c,ok,at2,r,rfl,hp2,hle2,hg2,hres⟩
 have HM2:=Lib.hid (HM1.out.call hp2 hg2)
 have HR2:=Lib.hid (HR1.out.gr hg2 (by have:=HM1.out.gl;have:=HGR.out;omega))
 have hs2:=hg2.size
 have HM3:=Lib.hid (HM2.out.al (.cells (ecs h (.slice a n c)) 40))
 have HR3:=Lib.hid (HR2.out.al (.cells (ecs h (.slice a n c)) 40))
 have HX3:=Lib.hid (Lc.new w2 h (.slice a n c))
 have HRES3:Hid ((ok=true /\ ∃ ar,(∀ z,Ps (.anL (one1 h ar)) r z->Ps .an rest z)/\ArgsAt (w2.alloc (.cells (ecs h (.slice a n c)) 40)) (TBk w gR w2.heap.size) ar (.slice a n c)/\r.length<rest.length)\/(ok=false/\Ps .an rest (.bad r))):=Lib.hid (by
  rcases hres.out with⟨h1,ar,h2,h3,h4⟩ | ⟨h1,h2⟩
  ·exact .inl ⟨h1,ar,fun z hz=>Ps.an_ok h2 hz,args_mono (args_al _ h3) (fun b hb _=>⟨by have:=hb.1;have:=HS1.out;have:=HGR.out;omega,by have:=hb.1;have:=HS1.out;omega,hb.2⟩),h4⟩
  ·exact .inr ⟨h1,Ps.an_bad h2⟩)
 clear hres hp2 hg2
 go_upto_block 0 with fail
 obtain⟨w3,hw3⟩ : ∃ W,w2.alloc (.cells (ecs h (.slice a n c)) 40)=W:=⟨_,rfl⟩
 obtain⟨gx,hgx⟩ : ∃ x,w2.heap.size=x:=⟨_,rfl⟩
 (try rw [show w2.alloc (.cells #[.int .i64 h.k,.int .i64 h.op,.int .i64 h.v,.int .i64 h.ln,.string (st h.nm),.slice a n c] 40)=w3 from hw3])
 rw [hw3] at HM3 HR3 HX3 HRES3
 rw [hgx] at HX3 HRES3
 (try rw [hgx])
 have HGX:Hid (gR<gx):=Lib.hid (by have:=HS1.out;omega)
 have HLE:=Lib.hid hle2
 clear hw3 hgx hs2 hle2 HM2 HR2 HM1 HR1
 go_wp2_with fail
 go_loopw [5] (fun v5 wr => ∃ (h:Hd) (a:Option Addr) (n c:Nat) (ok:Bool) (at2:Nat) (r:List Tk),v5=.bool ok/\Hid (LI K w gR gx .an .anL rest h a n c ok at2 r wr)) (fun _ wr=>K.ts.length - natAt wr K.g)
 case atStart=>exact⟨h,a,n,c,ok,at2,r,rfl,Lib.hid ⟨HM3.out,HR3.out,HX3.out,HLE.out,HRES3.out⟩⟩
 case round =>
  rename World=>wa
  obtain⟨h,a,n,c,ok,at2,r,rfl,HL⟩:=hrel
  obtain⟨x0,x1,x2,x3,x4,x5⟩:=HL.out.xc.cells
  obtain⟨g0,g1,g2,g3,g4,g5⟩:=HL.out.rc.froz
  obtain⟨y0,y1,y2,y3,y4,y5⟩:=HL.out.rc.cells
  have hlR:=HL.out.rc.lt
  have hlX:=HL.out.xc.lt
  have hgg:=HL.out.ms.gl
  have HGRo:=HGR.out
  have HGXo:=HGX.out
  have hend : ∀ (ok2:Bool),((ok2=true /\ ∃ ar,Ps .an rest (.ok (one1 h ar) r)/\ArgsAt wa (TBk w gR gx) ar (.slice a n c)/\r.length<rest.length)\/(ok2=false/\Ps .an rest (.bad r)))->EP K .an rest w (.returned (.tuple #[exv h (.slice a n c),.bool ok2])) (set6 wa gR (.int .i64 h.k) (.int .i64 h.op) (.int .i64 h.v) (.int .i64 h.ln) (.string (st h.nm)) (.slice a n c)):=fun ok2 hr=>by
   have hms:=HL.out.ms.s6 (b:=gR) (by omega) (.int .i64 h.k) (.int .i64 h.op) (.int .i64 h.v) (.int .i64 h.ln) (.string (st h.nm)) (.slice a n c)
   refine⟨h,a,n,c,ok2,at2,r,rfl,hms.pat,HL.out.le,hms.gr,Lib.hid ?_⟩
   rcases hr with⟨h1,ar,h2,h3,h4⟩ | hr
   ·exact .inl ⟨h1,ar,h2,args_mono (args_s6 h3 (fun b hb=>hb.2.1)) (fun b hb _=>hb.1),h4⟩
   ·exact .inr hr
  have HEND:=Lib.hid hend
  have HD0:=Lib.hid (HL.out.rc.s6 h (.slice a n c))
  clear hend
  cases ok
  ·have HB:Hid (Ps .an rest (.bad r)):=Lib.hid (by
    rcases HL.out.res with⟨h1,_⟩ | ⟨_,h1⟩
    ·cases h1
    ·exact h1)
   go_wp2_with fail
   obtain⟨wz,hwz⟩ : ∃ W,set6 wa gR (.int .i64 h.k) (.int .i64 h.op) (.int .i64 h.v) (.int .i64 h.ln) (.string (st h.nm)) (.slice a n c)=W:=⟨_,rfl⟩
   have hwz2:=hwz
   unfold set6 at hwz2
   (try rw [hwz2])
   rw [hwz] at HD0 HEND
   obtain⟨d0,d1,d2,d3,d4,d5⟩:=HD0.out.cells
   refine bodyPost_ret (v:=.tuple #[exv h (.slice a n c),.bool false]) (by simp [results,Tryd.results28,go_sem,d0,d1,d2,d3,d4,d5]) rfl ?_
   exact HEND.out _ (.inr ⟨rfl,HB.out⟩)
  ·obtain⟨ar,hcont,har,hlt⟩ : ∃ ar,(∀ z,Ps (.anL (one1 h ar)) r z->Ps .an rest z)/\ArgsAt wa (TBk w gR gx) ar (.slice a n c)/\r.length<rest.length:=by
    rcases HL.out.res with⟨_,h1⟩ | ⟨h1,_⟩
    ·exact h1
    ·cases h1
   have HCO:=Lib.hid hcont
   have HAR:=Lib.hid har
   have HLT:=Lib.hid hlt
   clear hcont har hlt
   have HIS:=Lib.hid (is_any K at2 r [38,38] wa HL.out.ms.pat)
   clear x0 x1 x2 x3 x4 x5 y0 y1 y2 y3 y4 y5 g0 g1 g2 g3 g4 g5
   go_wp2_with fail
   refine HIS.out.mono ?_
   rintro e w4 ⟨rfl,hb4⟩
   have HM4:=Lib.hid (HL.out.ms.be hb4)
   have HR4:=Lib.hid (HL.out.rc.be hb4)
   have HX4:=Lib.hid (HL.out.xc.be hb4)
   have HAR4:=Lib.hid (HAR.out.keep (Q:=TBk w gR gx) (fun b hb hlt=>⟨hb4.block b hlt,hb⟩) hb4.size)
   have HS4:=Lib.hid hb4.size
   clear hb4 HEND HD0
   cases hT:isT [38,38] r
   ·have HD4:=Lib.hid (HR4.out.s6 h (.slice a n c))
    have HZ:Hid (Ps .an rest (.ok (one1 h ar) r)):=Lib.hid (HCO.out _ (Ps.anL_end hT))
    obtain⟨x0,x1,x2,x3,x4,x5⟩:=HX4.out.cells
    obtain⟨g0,g1,g2,g3,g4,g5⟩:=HR4.out.froz
    obtain⟨y0,y1,y2,y3,y4,y5⟩:=HR4.out.cells
    have hlR4:=HR4.out.lt
    clear hT
    go_wp2_with fail
    obtain⟨wz,hwz⟩ : ∃ W,set6 w4 gR (.int .i64 h.k) (.int .i64 h.op) (.int .i64 h.v) (.int .i64 h.ln) (.string (st h.nm)) (.slice a n c)=W:=⟨_,rfl⟩
    have HMZ:=Lib.hid (HM4.out.s6 (b:=gR) (by omega) (.int .i64 h.k) (.int .i64 h.op) (.int .i64 h.v) (.int .i64 h.ln) (.string (st h.nm)) (.slice a n c))
    have HAZ:=Lib.hid (args_s6 (v0:=.int .i64 h.k) (v1:=.int .i64 h.op) (v2:=.int .i64 h.v) (v3:=.int .i64 h.ln) (v4:=.string (st h.nm)) (v5:=.slice a n c) HAR4.out (fun b hb=>hb.2.1))
    have hwz2:=hwz
    unfold set6 at hwz2
    (try rw [hwz2])
    rw [hwz] at HD4 HMZ HAZ
    obtain⟨d0,d1,d2,d3,d4,d5⟩:=HD4.out.cells
    refine bodyPost_ret (v:=.tuple #[exv h (.slice a n c),.bool true]) (by simp [results,Tryd.results28,go_sem,d0,d1,d2,d3,d4,d5]) rfl ?_
    exact⟨h,a,n,c,true,at2,r,rfl,HMZ.out.pat,HL.out.le,HMZ.out.gr,Lib.hid (.inl ⟨rfl,ar,HZ.out,args_mono HAZ.out (fun b hb _=>hb.1),HLT.out⟩)⟩
   ·have HT:=Lib.hid hT
    have HK0:Hid (kOf r≠0):=Lib.hid (isT_k hT).2.2.1
    obtain⟨⟨tk,tn,tv,tt⟩,r0,hr0⟩:=HM4.out.pat.en.cons
    have HLO:=Lib.hid (look_at K at2 tk tn tv tt r0 w4 (hr0▸HM4.out.pat))
    have HLN:Hid (lnOf r=tn):=Lib.hid (by rw [hr0];rfl)
    have HRT:Hid (r.tail.length<r.length):=Lib.hid (by rw [hr0];simp)
    have hfd : ∀ W:World,(Instr.field 56 (.agg #[.int .i64 tk,.int .i64 tn,.int .i64 tv,.string (st tt)]) 1).run Tryd.prog W=.ok (.int .i64 tn) W:=fun _=>by kernel_rfl
    clear hT hr0
    go_wp2_with fail
    refine HLO.out.mono ?_
    rintro e w5 ⟨rfl,hb5⟩
    have HM5:=Lib.hid (HM4.out.be hb5)
    have HR5:=Lib.hid (HR4.out.be hb5)
    have HX5:=Lib.hid (HX4.out.be hb5)
    have HAR5:=Lib.hid (HAR4.out.keep (Q:=TBk w gR gx) (fun b hb hlt=>⟨hb5.block b hlt,hb⟩) hb5.size)
    obtain⟨-,p1,-,f1,-,hlp⟩:=HM5.out.pat.cells
    have hw1:=HM5.out.w1
    have HM6:=Lib.hid ((HM5.out.step HK0.out).al zex)
    have HR6:=Lib.hid ((HR5.out.s1 (p:=⟨K.g,1,none⟩) (v:=.int .i64 ((at2:Int)+1)) (by show gR≠K.g;omega)).al zex)
    have HX6:=Lib.hid ((HX5.out.s1 (p:=⟨K.g,1,none⟩) (v:=.int .i64 ((at2:Int)+1)) (by show gx≠K.g;omega)).al zex)
    have HY6:=Lib.hid (Lc.zero (w5.setCell ⟨K.g,1,none⟩ (.int .i64 ((at2:Int)+1))))
    have HAR6:=Lib.hid (args_al zex (args_s1 (p:=⟨K.g,1,none⟩) (v:=.int .i64 ((at2:Int)+1)) HAR5.out (fun b hb=>by show b≠K.g;have:=hb.1;omega)))
    clear hb5 HM4 HR4 HX4 HAR4
    go_upto_region 6 with fail
    obtain⟨w6,hw6⟩ : ∃ W,(w5.setCell ⟨K.g,1,none⟩ (.int .i64 ((at2:Int)+1))).alloc zex=W:=⟨_,rfl⟩
    obtain⟨gy,hgy⟩ : ∃ x,w5.heap.size=x:=⟨_,rfl⟩
    have HGYX:Hid (gx<gy):=Lib.hid (by rw [<- hgy];exact HX5.out.lt)
    have HGY:Hid (w6.heap.size=gy+1):=Lib.hid (by rw [<- hw6,<- hgy];simp [World.setCell])
    (try rw [show (w5.setCell ⟨K.g,1,none⟩ (.int .i64 ((at2:Int)+1))).alloc (.cells #[.int .i64 0,.int .i64 0,.int .i64 0,.int .i64 0,.string { data := #[] },.slice none 0 0] 40)=w6 from hw6])
    have hsz6:(w5.setCell ⟨K.g,1,none⟩ (.int .i64 ((at2:Int)+1))).heap.size=gy:=by rw [<- hgy];simp [World.setCell]
    rw [hw6,hsz6] at HY6 HAR6
    rw [hw6] at HM6 HR6 HX6
    (try rw [hgy])
    have hgyx:=HGYX.out
    have hgy1:=HGY.out
    clear hw6 hgy hsz6
    go_wp2_with fail
    refine(HA.out K (at2+1) r.tail _ HM6.out.pat (by have:=HRT.out;have:=HL.out.le;have:=HMm.out;omega)).mono ?_
    rintro e w7 ⟨h2,a2,n2,c2,ok2,at7,r7,rfl,hp7,hle7,hg7,hres7⟩
    have hs7:=hg7.size
    have HM7:=Lib.hid (HM6.out.call hp7 hg7)
    have HR7:=Lib.hid (HR6.out.gr hg7 (by omega))
    have HX7:=Lib.hid (HX6.out.gr hg7 (by omega))
    have HY7:=Lib.hid (HY6.out.gr hg7 (by omega))
    have HAR7:=Lib.hid (args_gr HAR6.out hg7 (fun b hb=>by have:=hb.1.1;omega))
    have hat7:at2<at7:=by
     have h1:=HM7.out.pat.lt.2
     have h2:=HL.out.ms.pat.lt.2
     have h3:=HRT.out
     omega
    obtain⟨q0,q1,q2,q3,q4,q5⟩:=HX7.out.cells
    obtain⟨k0,k1,k2,k3,k4,k5⟩:=HX7.out.froz
    obtain⟨v0,v1,v2,v3,v4,v5⟩:=HY7.out.froz
    obtain⟨u0,u1,u2,u3,u4,u5⟩:=HY7.out.cells
    have hlX7:=HX7.out.lt
    have hlY7:=HY7.out.lt
    have HY8:=Lib.hid (HY7.out.s6 h2 (.slice a2 n2 c2))
    have HX8:=Lib.hid (HX7.out.s6o (g:=gy) (v0:=.int .i64 h2.k) (v1:=.int .i64 h2.op) (v2:=.int .i64 h2.v) (v3:=.int .i64 h2.ln) (v4:=.string (st h2.nm)) (v5:=.slice a2 n2 c2) (by omega))
    have HR8:=Lib.hid (HR7.out.s6o (g:=gy) (v0:=.int .i64 h2.k) (v1:=.int .i64 h2.op) (v2:=.int .i64 h2.v) (v3:=.int .i64 h2.ln) (v4:=.string (st h2.nm)) (v5:=.slice a2 n2 c2) (by omega))
    have HM8:=Lib.hid (HM7.out.s6 (b:=gy) (by omega) (.int .i64 h2.k) (.int .i64 h2.op) (.int .i64 h2.v) (.int .i64 h2.ln) (.string (st h2.nm)) (.slice a2 n2 c2))
    have HAR8:=Lib.hid (args_mono (args_s6 (v0:=.int .i64 h2.k) (v1:=.int .i64 h2.op) (v2:=.int .i64 h2.v) (v3:=.int .i64 h2.ln) (v4:=.string (st h2.nm)) (v5:=.slice a2 n2 c2) HAR7.out (fun b hb=>hb.2)) (fun b hb _=>hb.1))
    have HRS8:Hid ((ok2=true /\ ∃ ar2,Ps .cm r.tail (.ok (one1 h2 ar2) r7)/\ArgsAt (set6 w7 gy (.int .i64 h2.k) (.int .i64 h2.op) (.int .i64 h2.v) (.int .i64 h2.ln) (.string (st h2.nm)) (.slice a2 n2 c2)) (TBk w gR gx) ar2 (.slice a2 n2 c2)/\r7.length<r.tail.length)\/(ok2=false/\Ps .cm r.tail (.bad r7))):=Lib.hid (by
     rcases hres7.out with⟨h1,ar2,h2',h3,h4⟩ | hr
     ·exact .inl ⟨h1,ar2,h2',args_mono (args_s6 h3 (fun b hb=>by omega)) (fun b hb _=>⟨by omega,by omega,by omega⟩),h4⟩
     ·exact .inr hr)
    clear hres7 hp7 hg7 HM7 HR7 HX7 HY7 HAR7
    go_upto_region 7 with fail
    obtain⟨w8,hw8⟩ : ∃ W,set6 w7 gy (.int .i64 h2.k) (.int .i64 h2.op) (.int .i64 h2.v) (.int .i64 h2.ln) (.string (st h2.nm)) (.slice a2 n2 c2)=W:=⟨_,rfl⟩
    have hw82:=hw8
    unfold set6 at hw82
    (try rw [hw82])
    rw [hw8] at HY8 HX8 HR8 HM8 HAR8 HRS8
    clear hw8 hw82 q0 q1 q2 q3 q4 q5 k0 k1 k2 k3 k4 k5 v0 v1 v2 v3 v4 v5 u0 u1 u2 u3 u4 u5 hlX7 hlY7
    obtain⟨q0,q1,q2,q3,q4,q5⟩:=HX8.out.cells
    obtain⟨k0,k1,k2,k3,k4,k5⟩:=HX8.out.froz
    obtain⟨v0,v1,v2,v3,v4,v5⟩:=HY8.out.cells
    have hlX8:=HX8.out.lt
    have hlY8:=HY8.out.lt
    have hfin : ∀ W,W=(set6 w8 gx (.int .i64 (Hd.k ⟨7,0,0,tn,[]⟩)) (.int .i64 (Hd.op ⟨7,0,0,tn,[]⟩)) (.int .i64 0) (.int .i64 (Hd.ln ⟨7,0,0,tn,[]⟩)) (.string { data := #[] }) (.slice (some ⟨w8.heap.size,0,none⟩) 2 2)).alloc (.cells #[.int .i64 h.k,.int .i64 h.op,.int .i64 h.v,.int .i64 h.ln,.string (st h.nm),.slice a n c,.int .i64 h2.k,.int .i64 h2.op,.int .i64 h2.v,.int .i64 h2.ln,.string (st h2.nm),.slice a2 n2 c2] 40) ->
      LI K w gR gx .an .anL rest ⟨7,0,0,tn,[]⟩ (some ⟨w8.heap.size,0,none⟩) 2 2 ok2 at7 r7 W:=fun W hW=>by
     rw [<- set6_alloc _ HX8.out.lt] at hW
     have hA:=HX8.out.al (.cells #[.int .i64 h.k,.int .i64 h.op,.int .i64 h.v,.int .i64 h.ln,.string (st h.nm),.slice a n c,.int .i64 h2.k,.int .i64 h2.op,.int .i64 h2.v,.int .i64 h2.ln,.string (st h2.nm),.slice a2 n2 c2] 40)
     subst hW
     refine⟨(HM8.out.al _).s6 (by omega) _ _ _ _ _ _,(HR8.out.al _).s6o (by omega),hA.s6 ⟨7,0,0,tn,[]⟩ (.slice (some ⟨w8.heap.size,0,none⟩) 2 2),by have:=HRT.out;have:=HL.out.le;omega,?_⟩
     rcases HRS8.out with⟨h1,ar2,h2,h3,h4⟩ | ⟨h1,h2⟩
     ·refine .inl ⟨h1,(one1 h ar).app (one1 _ ar2),fun z hz=>HCO.out z (Ps.anL_ok HT.out h2 (by rw [HLN.out];exact hz)),?_,by have:=HRT.out;have:=HLT.out;omega⟩
      exact args_s6 (two_made HAR8.out h3 (fun b hb _=>hb) ⟨by have:=HM8.out.gr.size;omega,by have:=HR8.out.lt;omega,by have:=HX8.out.lt;omega⟩) (fun b hb=>hb.2.2)
     ·exact .inr ⟨h1,HCO.out _ (Ps.anL_bad HT.out h2)⟩
    have HFIN:=Lib.hid hfin
    clear hfin
    go_wp2_with fail
    go_roundw
    case rel=>exact⟨⟨7,0,0,tn,[]⟩,some ⟨w8.heap.size,0,none⟩,2,2,ok2,at7,r7,rfl,Lib.hid (HFIN.out _ rfl)⟩
    case measure =>
     have h1:=(HFIN.out _ rfl).ms.pat.natAt
     have h2:=HL.out.ms.pat.natAt
     have h3:=HL.out.ms.pat.lt.1
     unfold set6 at h1
     rw [h2]
     simp only [World.setCell_alloc_past] at h1 ⊢
     first | (rw [h1];omega) | (simp at h1;rw [h1];omega)
set_option maxRecDepth 100000 in
set_option maxHeartbeats 8000000 in
theorem sum_of (m:Nat) (hA:CE 70 .te m):CE 54 .su m:=by
 intro K at_ rest w hP hm
 have HM1:=Lib.hid ((MS.init hP).al zex)
 have HR1:=Lib.hid (Lc.zero w)
 have HA:=Lib.hid hA
 have HMm:=Lib.hid hm
 clear hA hP hm
 go_enter Tryd.func54,Tryd.ntmps54
 go_upto_region 1 with fail
 obtain⟨w1,hw1⟩ : ∃ W,w.alloc zex=W:=⟨_,rfl⟩
 obtain⟨gR,hgR⟩ : ∃ x,w.heap.size=x:=⟨_,rfl⟩
 (try rw [show w.alloc (.cells #[.int .i64 0,.int .i64 0,.int .i64 0,.int .i64 0,.string { data := #[] },.slice none 0 0] 40)=w1 from hw1])
 rw [hw1] at HM1 HR1
 rw [hgR] at HR1
 (try rw [hgR])
 have HGR:=Lib.hid hgR
 have HS1:Hid (w1.heap.size=gR+1):=Lib.hid (by rw [<- hw1,<- hgR];simp)
 clear hw1 hgR
 go_wp2_with fail
 refine(HA.out K at_ rest _ HM1.out.pat HMm.out).mono ?_
 rintro e w2 ⟨h,a,n,c,ok,at2,r,rfl,hp2,hle2,hg2,hres⟩
 have HM2:=Lib.hid (HM1.out.call hp2 hg2)
 have HR2:=Lib.hid (HR1.out.gr hg2 (by have:=HM1.out.gl;have:=HGR.out;omega))
 have hs2:=hg2.size
 have HM3:=Lib.hid (HM2.out.al (.cells (ecs h (.slice a n c)) 40))
 have HR3:=Lib.hid (HR2.out.al (.cells (ecs h (.slice a n c)) 40))
 have HX3:=Lib.hid (Lc.new w2 h (.slice a n c))
 have HRES3:Hid ((ok=true /\ ∃ ar,(∀ z,Ps (.suL (one1 h ar)) r z->Ps .su rest z)/\ArgsAt (w2.alloc (.cells (ecs h (.slice a n c)) 40)) (TBk w gR w2.heap.size) ar (.slice a n c)/\r.length<rest.length)\/(ok=false/\Ps .su rest (.bad r))):=Lib.hid (by
  rcases hres.out with⟨h1,ar,h2,h3,h4⟩ | ⟨h1,h2⟩
  ·exact .inl ⟨h1,ar,fun z hz=>Ps.su_ok h2 hz,args_mono (args_al _ h3) (fun b hb _=>⟨by have:=hb.1;have:=HS1.out;have:=HGR.out;omega,by have:=hb.1;have:=HS1.out;omega,hb.2⟩),h4⟩
  ·exact .inr ⟨h1,Ps.su_bad h2⟩)
 clear hres hp2 hg2
 go_upto_block 0 with fail
 obtain⟨w3,hw3⟩ : ∃ W,w2.alloc (.cells (ecs h (.slice a n c)) 40)=W:=⟨_,rfl⟩
 obtain⟨gx,hgx⟩ : ∃ x,w2.heap.size=x:=⟨_,rfl⟩
 (try rw [show w2.alloc (.cells #[.int .i64 h.k,.int .i64 h.op,.int .i64 h.v,.int .i64 h.ln,.string (st h.nm),.slice a n c] 40)=w3 from hw3])
 rw [hw3] at HM3 HR3 HX3 HRES3
 rw [hgx] at HX3 HRES3
 (try rw [hgx])
 have HGX:Hid (gR<gx):=Lib.hid (by have:=HS1.out;omega)
 have HLE:=Lib.hid hle2
 clear hw3 hgx hs2 hle2 HM2 HR2 HM1 HR1
 go_wp2_with fail
 go_loopw [5] (fun v5 wr => ∃ (h:Hd) (a:Option Addr) (n c:Nat) (ok:Bool) (at2:Nat) (r:List Tk),v5=.bool ok/\Hid (LI K w gR gx .su .suL rest h a n c ok at2 r wr)) (fun _ wr=>K.ts.length - natAt wr K.g)
 case atStart=>exact⟨h,a,n,c,ok,at2,r,rfl,Lib.hid ⟨HM3.out,HR3.out,HX3.out,HLE.out,HRES3.out⟩⟩
 case round =>
  rename World=>wa
  obtain⟨h,a,n,c,ok,at2,r,rfl,HL⟩:=hrel
  obtain⟨x0,x1,x2,x3,x4,x5⟩:=HL.out.xc.cells
  obtain⟨g0,g1,g2,g3,g4,g5⟩:=HL.out.rc.froz
  obtain⟨y0,y1,y2,y3,y4,y5⟩:=HL.out.rc.cells
  have hlR:=HL.out.rc.lt
  have hlX:=HL.out.xc.lt
  have hgg:=HL.out.ms.gl
  have HGRo:=HGR.out
  have HGXo:=HGX.out
  have hend : ∀ (ok2:Bool),((ok2=true /\ ∃ ar,Ps .su rest (.ok (one1 h ar) r)/\ArgsAt wa (TBk w gR gx) ar (.slice a n c)/\r.length<rest.length)\/(ok2=false/\Ps .su rest (.bad r)))->EP K .su rest w (.returned (.tuple #[exv h (.slice a n c),.bool ok2])) (set6 wa gR (.int .i64 h.k) (.int .i64 h.op) (.int .i64 h.v) (.int .i64 h.ln) (.string (st h.nm)) (.slice a n c)):=fun ok2 hr=>by
   have hms:=HL.out.ms.s6 (b:=gR) (by omega) (.int .i64 h.k) (.int .i64 h.op) (.int .i64 h.v) (.int .i64 h.ln) (.string (st h.nm)) (.slice a n c)
   refine⟨h,a,n,c,ok2,at2,r,rfl,hms.pat,HL.out.le,hms.gr,Lib.hid ?_⟩
   rcases hr with⟨h1,ar,h2,h3,h4⟩ | hr
   ·exact .inl ⟨h1,ar,h2,args_mono (args_s6 h3 (fun b hb=>hb.2.1)) (fun b hb _=>hb.1),h4⟩
   ·exact .inr hr
  have HEND:=Lib.hid hend
  have HD0:=Lib.hid (HL.out.rc.s6 h (.slice a n c))
  clear hend
  cases ok
  ·have HB:Hid (Ps .su rest (.bad r)):=Lib.hid (by
    rcases HL.out.res with⟨h1,_⟩ | ⟨_,h1⟩
    ·cases h1
    ·exact h1)
   go_wp2_with fail
   obtain⟨wz,hwz⟩ : ∃ W,set6 wa gR (.int .i64 h.k) (.int .i64 h.op) (.int .i64 h.v) (.int .i64 h.ln) (.string (st h.nm)) (.slice a n c)=W:=⟨_,rfl⟩
   have hwz2:=hwz
   unfold set6 at hwz2
   (try rw [hwz2])
   rw [hwz] at HD0 HEND
   obtain⟨d0,d1,d2,d3,d4,d5⟩:=HD0.out.cells
   refine bodyPost_ret (v:=.tuple #[exv h (.slice a n c),.bool false]) (by simp [results,Tryd.results54,go_sem,d0,d1,d2,d3,d4,d5]) rfl ?_
   exact HEND.out _ (.inr ⟨rfl,HB.out⟩)
  ·obtain⟨ar,hcont,har,hlt⟩ : ∃ ar,(∀ z,Ps (.suL (one1 h ar)) r z->Ps .su rest z)/\ArgsAt wa (TBk w gR gx) ar (.slice a n c)/\r.length<rest.length:=by
    rcases HL.out.res with⟨_,h1⟩ | ⟨h1,_⟩
    ·exact h1
    ·cases h1
   have HCO:=Lib.hid hcont
   have HAR:=Lib.hid har
   have HLT:=Lib.hid hlt
   clear hcont har hlt
   have HOP:=Lib.hid (operator_any K 3 4 (by omega) at2 r wa HL.out.ms.pat)
   clear x0 x1 x2 x3 x4 x5 y0 y1 y2 y3 y4 y5 g0 g1 g2 g3 g4 g5
   go_wp2_with fail
   refine HOP.out.mono ?_
   rintro e w4 ⟨at4,r4,hp4,hg4,hres⟩
   have HM4:=Lib.hid (HL.out.ms.call hp4 hg4)
   have HR4:=Lib.hid (HL.out.rc.gr hg4 (by omega))
   have HX4:=Lib.hid (HL.out.xc.gr hg4 (by omega))
   have HAR4:=Lib.hid (args_gr HAR.out hg4 (fun b hb=>by have:=hb.1;omega))
   clear hp4 hg4 HEND HD0
   rcases hres with⟨hT,rfl,rfl,rfl⟩ | ⟨hT,rfl,rfl,rfl⟩
   ·have HT:=Lib.hid hT
    obtain⟨op,hop⟩ : ∃ o,opIn 3 4 r=o:=⟨_,rfl⟩
    obtain⟨tn,htn⟩ : ∃ o,lnOf r=o:=⟨_,rfl⟩
    have HLN:=Lib.hid (And.intro hop htn)
    have HRT:Hid (r.tail.length<r.length):=Lib.hid (tail_lt (by intro e;rw [e] at hT;exact hT rfl))
    have dop:(op==0)=false:=by rw [beq_eq_false_iff_ne,<- hop];exact hT
    (try rw [hop])
    (try rw [htn])
    have HM6:=Lib.hid (HM4.out.al zex)
    have HR6:=Lib.hid (HR4.out.al zex)
    have HX6:=Lib.hid (HX4.out.al zex)
    have HY6:=Lib.hid (Lc.zero w4)
    have HAR6:=Lib.hid (args_al zex HAR4.out)
    have HXL4:=Lib.hid HX4.out.lt
    clear hT hop htn HM4 HR4 HX4 HAR4
    go_upto_region 6 with fail
    obtain⟨w6,hw6⟩ : ∃ W,(w4).alloc zex=W:=⟨_,rfl⟩
    obtain⟨gy,hgy⟩ : ∃ x,w4.heap.size=x:=⟨_,rfl⟩
    have HGYX:Hid (gx<gy):=Lib.hid (by rw [<- hgy];exact HXL4.out)
    have HGY:Hid (w6.heap.size=gy+1):=Lib.hid (by rw [<- hw6,<- hgy];simp [World.setCell])
    (try rw [show (w4).alloc (.cells #[.int .i64 0,.int .i64 0,.int .i64 0,.int .i64 0,.string { data := #[] },.slice none 0 0] 40)=w6 from hw6])
    have hsz6:(w4).heap.size=gy:=by rw [<- hgy]
    rw [hw6,hsz6] at HY6 HAR6
    rw [hw6] at HM6 HR6 HX6
    (try rw [hgy])
    have hgyx:=HGYX.out
    have hgy1:=HGY.out
    clear hw6 hgy hsz6
    go_wp2_with fail
    refine(HA.out K (at2+1) r.tail _ HM6.out.pat (by have:=HRT.out;have:=HL.out.le;have:=HMm.out;omega)).mono ?_
    rintro e w7 ⟨h2,a2,n2,c2,ok2,at7,r7,rfl,hp7,hle7,hg7,hres7⟩
    have hs7:=hg7.size
    have HM7:=Lib.hid (HM6.out.call hp7 hg7)
    have HR7:=Lib.hid (HR6.out.gr hg7 (by omega))
    have HX7:=Lib.hid (HX6.out.gr hg7 (by omega))
    have HY7:=Lib.hid (HY6.out.gr hg7 (by omega))
    have HAR7:=Lib.hid (args_gr HAR6.out hg7 (fun b hb=>by have:=hb.1.1;omega))
    have hat7:at2<at7:=by
     have h1:=HM7.out.pat.lt.2
     have h2:=HL.out.ms.pat.lt.2
     have h3:=HRT.out
     omega
    obtain⟨q0,q1,q2,q3,q4,q5⟩:=HX7.out.cells
    obtain⟨k0,k1,k2,k3,k4,k5⟩:=HX7.out.froz
    obtain⟨v0,v1,v2,v3,v4,v5⟩:=HY7.out.froz
    obtain⟨u0,u1,u2,u3,u4,u5⟩:=HY7.out.cells
    have hlX7:=HX7.out.lt
    have hlY7:=HY7.out.lt
    have HY8:=Lib.hid (HY7.out.s6 h2 (.slice a2 n2 c2))
    have HX8:=Lib.hid (HX7.out.s6o (g:=gy) (v0:=.int .i64 h2.k) (v1:=.int .i64 h2.op) (v2:=.int .i64 h2.v) (v3:=.int .i64 h2.ln) (v4:=.string (st h2.nm)) (v5:=.slice a2 n2 c2) (by omega))
    have HR8:=Lib.hid (HR7.out.s6o (g:=gy) (v0:=.int .i64 h2.k) (v1:=.int .i64 h2.op) (v2:=.int .i64 h2.v) (v3:=.int .i64 h2.ln) (v4:=.string (st h2.nm)) (v5:=.slice a2 n2 c2) (by omega))
    have HM8:=Lib.hid (HM7.out.s6 (b:=gy) (by omega) (.int .i64 h2.k) (.int .i64 h2.op) (.int .i64 h2.v) (.int .i64 h2.ln) (.string (st h2.nm)) (.slice a2 n2 c2))
    have HAR8:=Lib.hid (args_mono (args_s6 (v0:=.int .i64 h2.k) (v1:=.int .i64 h2.op) (v2:=.int .i64 h2.v) (v3:=.int .i64 h2.ln) (v4:=.string (st h2.nm)) (v5:=.slice a2 n2 c2) HAR7.out (fun b hb=>hb.2)) (fun b hb _=>hb.1))
    have HRS8:Hid ((ok2=true /\ ∃ ar2,Ps .te r.tail (.ok (one1 h2 ar2) r7)/\ArgsAt (set6 w7 gy (.int .i64 h2.k) (.int .i64 h2.op) (.int .i64 h2.v) (.int .i64 h2.ln) (.string (st h2.nm)) (.slice a2 n2 c2)) (TBk w gR gx) ar2 (.slice a2 n2 c2)/\r7.length<r.tail.length)\/(ok2=false/\Ps .te r.tail (.bad r7))):=Lib.hid (by
     rcases hres7.out with⟨h1,ar2,h2',h3,h4⟩ | hr
     ·exact .inl ⟨h1,ar2,h2',args_mono (args_s6 h3 (fun b hb=>by omega)) (fun b hb _=>⟨by omega,by omega,by omega⟩),h4⟩
     ·exact .inr hr)
    clear hres7 hp7 hg7 HM7 HR7 HX7 HY7 HAR7
    go_upto_region 7 with fail
    obtain⟨w8,hw8⟩ : ∃ W,set6 w7 gy (.int .i64 h2.k) (.int .i64 h2.op) (.int .i64 h2.v) (.int .i64 h2.ln) (.string (st h2.nm)) (.slice a2 n2 c2)=W:=⟨_,rfl⟩
    have hw82:=hw8
    unfold set6 at hw82
    (try rw [hw82])
    rw [hw8] at HY8 HX8 HR8 HM8 HAR8 HRS8
    clear hw8 hw82 q0 q1 q2 q3 q4 q5 k0 k1 k2 k3 k4 k5 v0 v1 v2 v3 v4 v5 u0 u1 u2 u3 u4 u5 hlX7 hlY7
    obtain⟨q0,q1,q2,q3,q4,q5⟩:=HX8.out.cells
    obtain⟨k0,k1,k2,k3,k4,k5⟩:=HX8.out.froz
    obtain⟨v0,v1,v2,v3,v4,v5⟩:=HY8.out.cells
    have hlX8:=HX8.out.lt
    have hlY8:=HY8.out.lt
    have hfin : ∀ W,W=(set6 w8 gx (.int .i64 (Hd.k ⟨6,op,0,tn,[]⟩)) (.int .i64 (Hd.op ⟨6,op,0,tn,[]⟩)) (.int .i64 0) (.int .i64 (Hd.ln ⟨6,op,0,tn,[]⟩)) (.string { data := #[] }) (.slice (some ⟨w8.heap.size,0,none⟩) 2 2)).alloc (.cells #[.int .i64 h.k,.int .i64 h.op,.int .i64 h.v,.int .i64 h.ln,.string (st h.nm),.slice a n c,.int .i64 h2.k,.int .i64 h2.op,.int .i64 h2.v,.int .i64 h2.ln,.string (st h2.nm),.slice a2 n2 c2] 40) ->
      LI K w gR gx .su .suL rest ⟨6,op,0,tn,[]⟩ (some ⟨w8.heap.size,0,none⟩) 2 2 ok2 at7 r7 W:=fun W hW=>by
     rw [<- set6_alloc _ HX8.out.lt] at hW
     have hA:=HX8.out.al (.cells #[.int .i64 h.k,.int .i64 h.op,.int .i64 h.v,.int .i64 h.ln,.string (st h.nm),.slice a n c,.int .i64 h2.k,.int .i64 h2.op,.int .i64 h2.v,.int .i64 h2.ln,.string (st h2.nm),.slice a2 n2 c2] 40)
     subst hW
     refine⟨(HM8.out.al _).s6 (by omega) _ _ _ _ _ _,(HR8.out.al _).s6o (by omega),hA.s6 ⟨6,op,0,tn,[]⟩ (.slice (some ⟨w8.heap.size,0,none⟩) 2 2),by have:=HRT.out;have:=HL.out.le;omega,?_⟩
     rcases HRS8.out with⟨h1,ar2,h2,h3,h4⟩ | ⟨h1,h2⟩
     ·refine .inl ⟨h1,(one1 h ar).app (one1 _ ar2),fun z hz=>HCO.out z (Ps.suL_ok HT.out h2 (by rw [HLN.out.1,HLN.out.2];exact hz)),?_,by have:=HRT.out;have:=HLT.out;omega⟩
      exact args_s6 (two_made HAR8.out h3 (fun b hb _=>hb) ⟨by have:=HM8.out.gr.size;omega,by have:=HR8.out.lt;omega,by have:=HX8.out.lt;omega⟩) (fun b hb=>hb.2.2)
     ·exact .inr ⟨h1,HCO.out _ (Ps.suL_bad HT.out h2)⟩
    have HFIN:=Lib.hid hfin
    clear hfin
    go_wp2_with fail
    go_roundw
    case rel=>exact⟨⟨6,op,0,tn,[]⟩,some ⟨w8.heap.size,0,none⟩,2,2,ok2,at7,r7,rfl,Lib.hid (HFIN.out _ rfl)⟩
    case measure =>
     have h1:=(HFIN.out _ rfl).ms.pat.natAt
     have h2:=HL.out.ms.pat.natAt
     have h3:=HL.out.ms.pat.lt.1
     unfold set6 at h1
     rw [h2]
     simp only [World.setCell_alloc_past] at h1 ⊢
     first | (rw [h1];omega) | (simp at h1;rw [h1];omega)
   ·have HD4:=Lib.hid (HR4.out.s6 h (.slice a n c))
    have HZ:Hid (Ps .su rest (.ok (one1 h ar) r4)):=Lib.hid (HCO.out _ (Ps.suL_end hT))
    obtain⟨x0,x1,x2,x3,x4,x5⟩:=HX4.out.cells
    obtain⟨g0,g1,g2,g3,g4,g5⟩:=HR4.out.froz
    obtain⟨y0,y1,y2,y3,y4,y5⟩:=HR4.out.cells
    have hlR4:=HR4.out.lt
    clear hT
    go_wp2_with fail
    obtain⟨wz,hwz⟩ : ∃ W,set6 w4 gR (.int .i64 h.k) (.int .i64 h.op) (.int .i64 h.v) (.int .i64 h.ln) (.string (st h.nm)) (.slice a n c)=W:=⟨_,rfl⟩
    have HMZ:=Lib.hid (HM4.out.s6 (b:=gR) (by omega) (.int .i64 h.k) (.int .i64 h.op) (.int .i64 h.v) (.int .i64 h.ln) (.string (st h.nm)) (.slice a n c))
    have HAZ:=Lib.hid (args_s6 (v0:=.int .i64 h.k) (v1:=.int .i64 h.op) (v2:=.int .i64 h.v) (v3:=.int .i64 h.ln) (v4:=.string (st h.nm)) (v5:=.slice a n c) HAR4.out (fun b hb=>hb.2.1))
    have hwz2:=hwz
    unfold set6 at hwz2
    (try rw [hwz2])
    rw [hwz] at HD4 HMZ HAZ
    obtain⟨d0,d1,d2,d3,d4,d5⟩:=HD4.out.cells
    refine bodyPost_ret (v:=.tuple #[exv h (.slice a n c),.bool true]) (by simp [results,Tryd.results54,go_sem,d0,d1,d2,d3,d4,d5]) rfl ?_
    exact⟨h,a,n,c,true,at4,r4,rfl,HMZ.out.pat,HL.out.le,HMZ.out.gr,Lib.hid (.inl ⟨rfl,ar,HZ.out,args_mono HAZ.out (fun b hb _=>hb.1),HLT.out⟩)⟩
set_option maxRecDepth 100000 in
set_option maxHeartbeats 8000000 in
theorem term_of (m:Nat) (hA:CE 80 .un m):CE 70 .te m:=by
 intro K at_ rest w hP hm
 have HM1:=Lib.hid ((MS.init hP).al zex)
 have HR1:=Lib.hid (Lc.zero w)
 have HA:=Lib.hid hA
 have HMm:=Lib.hid hm
 clear hA hP hm
 go_enter Tryd.func70,Tryd.ntmps70
 go_upto_region 1 with fail
 obtain⟨w1,hw1⟩ : ∃ W,w.alloc zex=W:=⟨_,rfl⟩
 obtain⟨gR,hgR⟩ : ∃ x,w.heap.size=x:=⟨_,rfl⟩
 (try rw [show w.alloc (.cells #[.int .i64 0,.int .i64 0,.int .i64 0,.int .i64 0,.string { data := #[] },.slice none 0 0] 40)=w1 from hw1])
 rw [hw1] at HM1 HR1
 rw [hgR] at HR1
 (try rw [hgR])
 have HGR:=Lib.hid hgR
 have HS1:Hid (w1.heap.size=gR+1):=Lib.hid (by rw [<- hw1,<- hgR];simp)
 clear hw1 hgR
 go_wp2_with fail
 refine(HA.out K at_ rest _ HM1.out.pat HMm.out).mono ?_
 rintro e w2 ⟨h,a,n,c,ok,at2,r,rfl,hp2,hle2,hg2,hres⟩
 have HM2:=Lib.hid (HM1.out.call hp2 hg2)
 have HR2:=Lib.hid (HR1.out.gr hg2 (by have:=HM1.out.gl;have:=HGR.out;omega))
 have hs2:=hg2.size
 have HM3:=Lib.hid (HM2.out.al (.cells (ecs h (.slice a n c)) 40))
 have HR3:=Lib.hid (HR2.out.al (.cells (ecs h (.slice a n c)) 40))
 have HX3:=Lib.hid (Lc.new w2 h (.slice a n c))
 have HRES3:Hid ((ok=true /\ ∃ ar,(∀ z,Ps (.teL (one1 h ar)) r z->Ps .te rest z)/\ArgsAt (w2.alloc (.cells (ecs h (.slice a n c)) 40)) (TBk w gR w2.heap.size) ar (.slice a n c)/\r.length<rest.length)\/(ok=false/\Ps .te rest (.bad r))):=Lib.hid (by
  rcases hres.out with⟨h1,ar,h2,h3,h4⟩ | ⟨h1,h2⟩
  ·exact .inl ⟨h1,ar,fun z hz=>Ps.te_ok h2 hz,args_mono (args_al _ h3) (fun b hb _=>⟨by have:=hb.1;have:=HS1.out;have:=HGR.out;omega,by have:=hb.1;have:=HS1.out;omega,hb.2⟩),h4⟩
  ·exact .inr ⟨h1,Ps.te_bad h2⟩)
 clear hres hp2 hg2
 go_upto_block 0 with fail
 obtain⟨w3,hw3⟩ : ∃ W,w2.alloc (.cells (ecs h (.slice a n c)) 40)=W:=⟨_,rfl⟩
 obtain⟨gx,hgx⟩ : ∃ x,w2.heap.size=x:=⟨_,rfl⟩
 (try rw [show w2.alloc (.cells #[.int .i64 h.k,.int .i64 h.op,.int .i64 h.v,.int .i64 h.ln,.string (st h.nm),.slice a n c] 40)=w3 from hw3])
 rw [hw3] at HM3 HR3 HX3 HRES3
 rw [hgx] at HX3 HRES3
 (try rw [hgx])
 have HGX:Hid (gR<gx):=Lib.hid (by have:=HS1.out;omega)
 have HLE:=Lib.hid hle2
 clear hw3 hgx hs2 hle2 HM2 HR2 HM1 HR1
 go_wp2_with fail
 go_loopw [5] (fun v5 wr => ∃ (h:Hd) (a:Option Addr) (n c:Nat) (ok:Bool) (at2:Nat) (r:List Tk),v5=.bool ok/\Hid (LI K w gR gx .te .teL rest h a n c ok at2 r wr)) (fun _ wr=>K.ts.length - natAt wr K.g)
 case atStart=>exact⟨h,a,n,c,ok,at2,r,rfl,Lib.hid ⟨HM3.out,HR3.out,HX3.out,HLE.out,HRES3.out⟩⟩
 case round =>
  rename World=>wa
  obtain⟨h,a,n,c,ok,at2,r,rfl,HL⟩:=hrel
  obtain⟨x0,x1,x2,x3,x4,x5⟩:=HL.out.xc.cells
  obtain⟨g0,g1,g2,g3,g4,g5⟩:=HL.out.rc.froz
  obtain⟨y0,y1,y2,y3,y4,y5⟩:=HL.out.rc.cells
  have hlR:=HL.out.rc.lt
  have hlX:=HL.out.xc.lt
  have hgg:=HL.out.ms.gl
  have HGRo:=HGR.out
  have HGXo:=HGX.out
  have hend : ∀ (ok2:Bool),((ok2=true /\ ∃ ar,Ps .te rest (.ok (one1 h ar) r)/\ArgsAt wa (TBk w gR gx) ar (.slice a n c)/\r.length<rest.length)\/(ok2=false/\Ps .te rest (.bad r)))->EP K .te rest w (.returned (.tuple #[exv h (.slice a n c),.bool ok2])) (set6 wa gR (.int .i64 h.k) (.int .i64 h.op) (.int .i64 h.v) (.int .i64 h.ln) (.string (st h.nm)) (.slice a n c)):=fun ok2 hr=>by
   have hms:=HL.out.ms.s6 (b:=gR) (by omega) (.int .i64 h.k) (.int .i64 h.op) (.int .i64 h.v) (.int .i64 h.ln) (.string (st h.nm)) (.slice a n c)
   refine⟨h,a,n,c,ok2,at2,r,rfl,hms.pat,HL.out.le,hms.gr,Lib.hid ?_⟩
   rcases hr with⟨h1,ar,h2,h3,h4⟩ | hr
   ·exact .inl ⟨h1,ar,h2,args_mono (args_s6 h3 (fun b hb=>hb.2.1)) (fun b hb _=>hb.1),h4⟩
   ·exact .inr hr
  have HEND:=Lib.hid hend
  have HD0:=Lib.hid (HL.out.rc.s6 h (.slice a n c))
  clear hend
  cases ok
  ·have HB:Hid (Ps .te rest (.bad r)):=Lib.hid (by
    rcases HL.out.res with⟨h1,_⟩ | ⟨_,h1⟩
    ·cases h1
    ·exact h1)
   go_wp2_with fail
   obtain⟨wz,hwz⟩ : ∃ W,set6 wa gR (.int .i64 h.k) (.int .i64 h.op) (.int .i64 h.v) (.int .i64 h.ln) (.string (st h.nm)) (.slice a n c)=W:=⟨_,rfl⟩
   have hwz2:=hwz
   unfold set6 at hwz2
   (try rw [hwz2])
   rw [hwz] at HD0 HEND
   obtain⟨d0,d1,d2,d3,d4,d5⟩:=HD0.out.cells
   refine bodyPost_ret (v:=.tuple #[exv h (.slice a n c),.bool false]) (by simp [results,Tryd.results70,go_sem,d0,d1,d2,d3,d4,d5]) rfl ?_
   exact HEND.out _ (.inr ⟨rfl,HB.out⟩)
  ·obtain⟨ar,hcont,har,hlt⟩ : ∃ ar,(∀ z,Ps (.teL (one1 h ar)) r z->Ps .te rest z)/\ArgsAt wa (TBk w gR gx) ar (.slice a n c)/\r.length<rest.length:=by
    rcases HL.out.res with⟨_,h1⟩ | ⟨h1,_⟩
    ·exact h1
    ·cases h1
   have HCO:=Lib.hid hcont
   have HAR:=Lib.hid har
   have HLT:=Lib.hid hlt
   clear hcont har hlt
   have HOP:=Lib.hid (operator_any K 5 7 (by omega) at2 r wa HL.out.ms.pat)
   clear x0 x1 x2 x3 x4 x5 y0 y1 y2 y3 y4 y5 g0 g1 g2 g3 g4 g5
   go_wp2_with fail
   refine HOP.out.mono ?_
   rintro e w4 ⟨at4,r4,hp4,hg4,hres⟩
   have HM4:=Lib.hid (HL.out.ms.call hp4 hg4)
   have HR4:=Lib.hid (HL.out.rc.gr hg4 (by omega))
   have HX4:=Lib.hid (HL.out.xc.gr hg4 (by omega))
   have HAR4:=Lib.hid (args_gr HAR.out hg4 (fun b hb=>by have:=hb.1;omega))
   clear hp4 hg4 HEND HD0
   rcases hres with⟨hT,rfl,rfl,rfl⟩ | ⟨hT,rfl,rfl,rfl⟩
   ·have HT:=Lib.hid hT
    obtain⟨op,hop⟩ : ∃ o,opIn 5 7 r=o:=⟨_,rfl⟩
    obtain⟨tn,htn⟩ : ∃ o,lnOf r=o:=⟨_,rfl⟩
    have HLN:=Lib.hid (And.intro hop htn)
    have HRT:Hid (r.tail.length<r.length):=Lib.hid (tail_lt (by intro e;rw [e] at hT;exact hT rfl))
    have dop:(op==0)=false:=by rw [beq_eq_false_iff_ne,<- hop];exact hT
    (try rw [hop])
    (try rw [htn])
    have HM6:=Lib.hid (HM4.out.al zex)
    have HR6:=Lib.hid (HR4.out.al zex)
    have HX6:=Lib.hid (HX4.out.al zex)
    have HY6:=Lib.hid (Lc.zero w4)
    have HAR6:=Lib.hid (args_al zex HAR4.out)
    have HXL4:=Lib.hid HX4.out.lt
    clear hT hop htn HM4 HR4 HX4 HAR4
    go_upto_region 6 with fail
    obtain⟨w6,hw6⟩ : ∃ W,(w4).alloc zex=W:=⟨_,rfl⟩
    obtain⟨gy,hgy⟩ : ∃ x,w4.heap.size=x:=⟨_,rfl⟩
    have HGYX:Hid (gx<gy):=Lib.hid (by rw [<- hgy];exact HXL4.out)
    have HGY:Hid (w6.heap.size=gy+1):=Lib.hid (by rw [<- hw6,<- hgy];simp [World.setCell])
    (try rw [show (w4).alloc (.cells #[.int .i64 0,.int .i64 0,.int .i64 0,.int .i64 0,.string { data := #[] },.slice none 0 0] 40)=w6 from hw6])
    have hsz6:(w4).heap.size=gy:=by rw [<- hgy]
    rw [hw6,hsz6] at HY6 HAR6
    rw [hw6] at HM6 HR6 HX6
    (try rw [hgy])
    have hgyx:=HGYX.out
    have hgy1:=HGY.out
    clear hw6 hgy hsz6
    go_wp2_with fail
    refine(HA.out K (at2+1) r.tail _ HM6.out.pat (by have:=HRT.out;have:=HL.out.le;have:=HMm.out;omega)).mono ?_
    rintro e w7 ⟨h2,a2,n2,c2,ok2,at7,r7,rfl,hp7,hle7,hg7,hres7⟩
    have hs7:=hg7.size
    have HM7:=Lib.hid (HM6.out.call hp7 hg7)
    have HR7:=Lib.hid (HR6.out.gr hg7 (by omega))
    have HX7:=Lib.hid (HX6.out.gr hg7 (by omega))
    have HY7:=Lib.hid (HY6.out.gr hg7 (by omega))
    have HAR7:=Lib.hid (args_gr HAR6.out hg7 (fun b hb=>by have:=hb.1.1;omega))
    have hat7:at2<at7:=by
     have h1:=HM7.out.pat.lt.2
     have h2:=HL.out.ms.pat.lt.2
     have h3:=HRT.out
     omega
    obtain⟨q0,q1,q2,q3,q4,q5⟩:=HX7.out.cells
    obtain⟨k0,k1,k2,k3,k4,k5⟩:=HX7.out.froz
    obtain⟨v0,v1,v2,v3,v4,v5⟩:=HY7.out.froz
    obtain⟨u0,u1,u2,u3,u4,u5⟩:=HY7.out.cells
    have hlX7:=HX7.out.lt
    have hlY7:=HY7.out.lt
    have HY8:=Lib.hid (HY7.out.s6 h2 (.slice a2 n2 c2))
    have HX8:=Lib.hid (HX7.out.s6o (g:=gy) (v0:=.int .i64 h2.k) (v1:=.int .i64 h2.op) (v2:=.int .i64 h2.v) (v3:=.int .i64 h2.ln) (v4:=.string (st h2.nm)) (v5:=.slice a2 n2 c2) (by omega))
    have HR8:=Lib.hid (HR7.out.s6o (g:=gy) (v0:=.int .i64 h2.k) (v1:=.int .i64 h2.op) (v2:=.int .i64 h2.v) (v3:=.int .i64 h2.ln) (v4:=.string (st h2.nm)) (v5:=.slice a2 n2 c2) (by omega))
    have HM8:=Lib.hid (HM7.out.s6 (b:=gy) (by omega) (.int .i64 h2.k) (.int .i64 h2.op) (.int .i64 h2.v) (.int .i64 h2.ln) (.string (st h2.nm)) (.slice a2 n2 c2))
    have HAR8:=Lib.hid (args_mono (args_s6 (v0:=.int .i64 h2.k) (v1:=.int .i64 h2.op) (v2:=.int .i64 h2.v) (v3:=.int .i64 h2.ln) (v4:=.string (st h2.nm)) (v5:=.slice a2 n2 c2) HAR7.out (fun b hb=>hb.2)) (fun b hb _=>hb.1))
    have HRS8:Hid ((ok2=true /\ ∃ ar2,Ps .un r.tail (.ok (one1 h2 ar2) r7)/\ArgsAt (set6 w7 gy (.int .i64 h2.k) (.int .i64 h2.op) (.int .i64 h2.v) (.int .i64 h2.ln) (.string (st h2.nm)) (.slice a2 n2 c2)) (TBk w gR gx) ar2 (.slice a2 n2 c2)/\r7.length<r.tail.length)\/(ok2=false/\Ps .un r.tail (.bad r7))):=Lib.hid (by
     rcases hres7.out with⟨h1,ar2,h2',h3,h4⟩ | hr
     ·exact .inl ⟨h1,ar2,h2',args_mono (args_s6 h3 (fun b hb=>by omega)) (fun b hb _=>⟨by omega,by omega,by omega⟩),h4⟩
     ·exact .inr hr)
    clear hres7 hp7 hg7 HM7 HR7 HX7 HY7 HAR7
    go_upto_region 7 with fail
    obtain⟨w8,hw8⟩ : ∃ W,set6 w7 gy (.int .i64 h2.k) (.int .i64 h2.op) (.int .i64 h2.v) (.int .i64 h2.ln) (.string (st h2.nm)) (.slice a2 n2 c2)=W:=⟨_,rfl⟩
    have hw82:=hw8
    unfold set6 at hw82
    (try rw [hw82])
    rw [hw8] at HY8 HX8 HR8 HM8 HAR8 HRS8
    clear hw8 hw82 q0 q1 q2 q3 q4 q5 k0 k1 k2 k3 k4 k5 v0 v1 v2 v3 v4 v5 u0 u1 u2 u3 u4 u5 hlX7 hlY7
    obtain⟨q0,q1,q2,q3,q4,q5⟩:=HX8.out.cells
    obtain⟨k0,k1,k2,k3,k4,k5⟩:=HX8.out.froz
    obtain⟨v0,v1,v2,v3,v4,v5⟩:=HY8.out.cells
    have hlX8:=HX8.out.lt
    have hlY8:=HY8.out.lt
    have hfin : ∀ W,W=(set6 w8 gx (.int .i64 (Hd.k ⟨6,op,0,tn,[]⟩)) (.int .i64 (Hd.op ⟨6,op,0,tn,[]⟩)) (.int .i64 0) (.int .i64 (Hd.ln ⟨6,op,0,tn,[]⟩)) (.string { data := #[] }) (.slice (some ⟨w8.heap.size,0,none⟩) 2 2)).alloc (.cells #[.int .i64 h.k,.int .i64 h.op,.int .i64 h.v,.int .i64 h.ln,.string (st h.nm),.slice a n c,.int .i64 h2.k,.int .i64 h2.op,.int .i64 h2.v,.int .i64 h2.ln,.string (st h2.nm),.slice a2 n2 c2] 40) ->
      LI K w gR gx .te .teL rest ⟨6,op,0,tn,[]⟩ (some ⟨w8.heap.size,0,none⟩) 2 2 ok2 at7 r7 W:=fun W hW=>by
     rw [<- set6_alloc _ HX8.out.lt] at hW
     have hA:=HX8.out.al (.cells #[.int .i64 h.k,.int .i64 h.op,.int .i64 h.v,.int .i64 h.ln,.string (st h.nm),.slice a n c,.int .i64 h2.k,.int .i64 h2.op,.int .i64 h2.v,.int .i64 h2.ln,.string (st h2.nm),.slice a2 n2 c2] 40)
     subst hW
     refine⟨(HM8.out.al _).s6 (by omega) _ _ _ _ _ _,(HR8.out.al _).s6o (by omega),hA.s6 ⟨6,op,0,tn,[]⟩ (.slice (some ⟨w8.heap.size,0,none⟩) 2 2),by have:=HRT.out;have:=HL.out.le;omega,?_⟩
     rcases HRS8.out with⟨h1,ar2,h2,h3,h4⟩ | ⟨h1,h2⟩
     ·refine .inl ⟨h1,(one1 h ar).app (one1 _ ar2),fun z hz=>HCO.out z (Ps.teL_ok HT.out h2 (by rw [HLN.out.1,HLN.out.2];exact hz)),?_,by have:=HRT.out;have:=HLT.out;omega⟩
      exact args_s6 (two_made HAR8.out h3 (fun b hb _=>hb) ⟨by have:=HM8.out.gr.size;omega,by have:=HR8.out.lt;omega,by have:=HX8.out.lt;omega⟩) (fun b hb=>hb.2.2)
     ·exact .inr ⟨h1,HCO.out _ (Ps.teL_bad HT.out h2)⟩
    have HFIN:=Lib.hid hfin
    clear hfin
    go_wp2_with fail
    go_roundw
    case rel=>exact⟨⟨6,op,0,tn,[]⟩,some ⟨w8.heap.size,0,none⟩,2,2,ok2,at7,r7,rfl,Lib.hid (HFIN.out _ rfl)⟩
    case measure =>
     have h1:=(HFIN.out _ rfl).ms.pat.natAt
     have h2:=HL.out.ms.pat.natAt
     have h3:=HL.out.ms.pat.lt.1
     unfold set6 at h1
     rw [h2]
     simp only [World.setCell_alloc_past] at h1 ⊢
     first | (rw [h1];omega) | (simp at h1;rw [h1];omega)
   ·have HD4:=Lib.hid (HR4.out.s6 h (.slice a n c))
    have HZ:Hid (Ps .te rest (.ok (one1 h ar) r4)):=Lib.hid (HCO.out _ (Ps.teL_end hT))
    obtain⟨x0,x1,x2,x3,x4,x5⟩:=HX4.out.cells
    obtain⟨g0,g1,g2,g3,g4,g5⟩:=HR4.out.froz
    obtain⟨y0,y1,y2,y3,y4,y5⟩:=HR4.out.cells
    have hlR4:=HR4.out.lt
    clear hT
    go_wp2_with fail
    obtain⟨wz,hwz⟩ : ∃ W,set6 w4 gR (.int .i64 h.k) (.int .i64 h.op) (.int .i64 h.v) (.int .i64 h.ln) (.string (st h.nm)) (.slice a n c)=W:=⟨_,rfl⟩
    have HMZ:=Lib.hid (HM4.out.s6 (b:=gR) (by omega) (.int .i64 h.k) (.int .i64 h.op) (.int .i64 h.v) (.int .i64 h.ln) (.string (st h.nm)) (.slice a n c))
    have HAZ:=Lib.hid (args_s6 (v0:=.int .i64 h.k) (v1:=.int .i64 h.op) (v2:=.int .i64 h.v) (v3:=.int .i64 h.ln) (v4:=.string (st h.nm)) (v5:=.slice a n c) HAR4.out (fun b hb=>hb.2.1))
    have hwz2:=hwz
    unfold set6 at hwz2
    (try rw [hwz2])
    rw [hwz] at HD4 HMZ HAZ
    obtain⟨d0,d1,d2,d3,d4,d5⟩:=HD4.out.cells
    refine bodyPost_ret (v:=.tuple #[exv h (.slice a n c),.bool true]) (by simp [results,Tryd.results70,go_sem,d0,d1,d2,d3,d4,d5]) rfl ?_
    exact⟨h,a,n,c,true,at4,r4,rfl,HMZ.out.pat,HL.out.le,HMZ.out.gr,Lib.hid (.inl ⟨rfl,ar,HZ.out,args_mono HAZ.out (fun b hb _=>hb.1),HLT.out⟩)⟩
end Go.Proofs.YtpcdinelpfbpfaaDoor
