/-
  WORDS, PLAIN LAWS and WALKS (PqY Bdr WpA WpB WpE WpV WpF), pressed. (Filled in from templates of this repo.)
-/
import Derived.Test.YtldgghnjminhiaaGreatDoorG11
import Derived.Lib.Builder
import Derived.Lib.AppendStr
import Derived.Lib.UnsafeStr
import Derived.Lib.OthersKept
import Derived.Test.YtldgghnjminhiaaGreatDoorG2
import Derived.Deep.CutBlock
import Derived.Deep.CutRange
import Derived.Test.YtldgghnjminhiaaGreatDoorG3
namespace Go.Proofs.YtldgghnjminhiaaGreatDoor
open Go Go.ChangeAt Go.ChangeShapes Go.RowKit Go.WideShapes
set_option linter.unusedVariables false
set_option linter.unusedSimpArgs false
set_option maxRecDepth 100000
set_option maxHeartbeats 16000000
def xvs (y:PO) (w w':World) (e:Ending):Prop :=
 (∃ (gs:List (Bt×Int)) (fs:List Fu) (wr:Int) (r:List Tk) (va vb:Value),y=.ok gs fs wr r/\¬ 0<wr/\Jy w' (λ b=>w.heap.size<=b) gs fs va vb/\e=.returned (.tuple #[sov va vb,.int .i64 0,.int .i64 0])) \/
 (∃ (gs:List (Bt×Int)) (fs:List Fu) (wr:Int) (r:List Tk),y=.ok gs fs wr r/\0<wr/\e=.returned (.tuple #[sov Yk Yk,.int .i64 wr,.int .i64 1])) \/
 (∃ r,y=.bad r/\e=.returned (.tuple #[sov Yk Yk,.int .i64 (Yb r),.int .i64 7]))
def Rs (l:Bt) (w:World) (e:Ending) (w':World):Prop:=Below w.heap.size w w' /\
 ((65536<l.length/\e=.returned (.tuple #[sov Yk Yk,.int .i64 0,.int .i64 5])) \/
  (l.length<=65536/\(scan l).1=none/\e=.returned (.tuple #[sov Yk Yk,.int .i64 (scan l).2,.int .i64 6])) \/
  (l.length<=65536/\∃ (ts:List Tk) (y:PO),(scan l).1=some ts/\Xq (So 0 [] [] ts y/\xvs y w w' e)))
theorem Eq {w wx:World} {gR:Nat} {va vb:Value} (R:Lo wx gR va vb) (B:Below w.heap.size w wx) (h:w.heap.size<=gR) (a b:Value) (W:World) (hW:W=(wx.setCell ⟨gR,0,none⟩ a).setCell ⟨gR,1,none⟩ b):Lo W gR a b/\Below w.heap.size w W/\∀ k,k≠gR->W.heap[k]?=wx.heap[k]?:=by
 subst hW
 exact⟨R.s2 a b,(B.setCell (p:=⟨gR,0,none⟩) h a).setCell (p:=⟨gR,1,none⟩) h b,λ k hk=>(heap_setCell_other _ _ _ _ (by show k≠gR;exact hk)).trans (heap_setCell_other _ _ _ _ (by show k≠gR;exact hk))⟩
theorem Jy.gr {w wx:World} {P Q:Nat->Prop} {g:Nat} {gs:List (Bt×Int)} {fs:List Fu} {va vb:Value} (h:Jy w P gs fs va vb) (hk:∀ k,k≠g->wx.heap[k]?=w.heap[k]?) (hs:w.heap.size<=wx.heap.size) (hP:∀ b,P b->b≠g/\Q b):Jy wx Q gs fs va vb:=h.keep (λ b hb _=>⟨hk b (hP b hb).1,(hP b hb).2⟩) hs
theorem Cj (T:Bt) (hT:T.length<=281474976710656) (w:World) (hw:Lad w):Calls Tryz.prog 24 #[.string (st T)] w (Rs T w):=by
 have HW:=Xj (hw.below (Xw w Kr))
 have HR1:=Xj (Lo.zero w)
 have HTl:=Xj hT
 have HB1:=Xj (Xw w Kr)
 clear hw hT
 go_enter Tryz.func24,Tryz.ntmps24
 go_upto_region 1 with fail
 obtain⟨w1,hw1⟩:∃ W,w.alloc Kr=W:=⟨_,rfl⟩
 obtain⟨gR,hgR⟩:∃ x,w.heap.size=x:=⟨_,rfl⟩
 (try rw[show w.alloc (.cells #[.slice none 0 0,.slice none 0 0] 29)=w1 from hw1])
 rw[hw1] at HW HR1 HB1
 rw[hgR] at HR1
 (try rw[hgR])
 have HGR:=Xj hgR
 have HS1:Xq (w1.heap.size=gR+1):=Xj (by rw[<- hw1,<- hgR];simp)
 clear hw1 hgR
 go_wp2_with fail
 refine(Ou (st T) (by show T.length<=_;exact HTl.o) _ HW.o).mono ?_
 rintro e w2 ⟨hb2,hp⟩
 have ed:(st T).data.toList=T:=by simp
 rw[ed] at hp
 have HR2:=Xj (HR1.o.be hb2)
 have HB2:=Xj (HB1.o.trans (hb2.mono HB1.o.size))
 have HS2:Xq (gR<w2.heap.size):=Xj (by have:=HS1.o;have:=hb2.size;omega)
 clear hb2 ed
 rcases hp with⟨hqn,rfl⟩|⟨hle,hsc,rfl⟩|⟨hle,ts,v,hsc,rfl,hjj⟩
 ·have HX:=Xj hqn
  clear hqn
  obtain⟨y0,y1⟩:=HR2.o.cells
  obtain⟨g0,g1⟩:=HR2.o.froz
  have hlR:=HR2.o.lt
  have hZ:=Eq HR2.o HB2.o (by have:=HGR.o;omega) Yk Yk
  go_wp2_with fail
  obtain⟨wz,hwz⟩:∃ W,(w2.setCell ⟨gR,0,none⟩ Yk).setCell ⟨gR,1,none⟩ Yk=W:=⟨_,rfl⟩
  (try rw[hwz])
  obtain⟨hd,hbz,hkz⟩:=hZ wz hwz.symm
  obtain⟨d0,d1⟩:=hd.cells
  clear hZ
  refine bodyPost_ret (v:=.tuple #[sov Yk Yk,.int .i64 0,.int .i64 5]) (by simp[results,Tryz.results24,go_sem,d0,d1]) rfl ?_
  exact⟨hbz,.inl ⟨HX.o,rfl⟩⟩
 ·have HX:=Xj (And.intro hle hsc)
  clear hle hsc
  obtain⟨y0,y1⟩:=HR2.o.cells
  obtain⟨g0,g1⟩:=HR2.o.froz
  have hlR:=HR2.o.lt
  have hZ:=Eq HR2.o HB2.o (by have:=HGR.o;omega) Yk Yk
  go_wp2_with fail
  obtain⟨wz,hwz⟩:∃ W,(w2.setCell ⟨gR,0,none⟩ Yk).setCell ⟨gR,1,none⟩ Yk=W:=⟨_,rfl⟩
  (try rw[hwz])
  obtain⟨hd,hbz,hkz⟩:=hZ wz hwz.symm
  obtain⟨d0,d1⟩:=hd.cells
  clear hZ
  refine bodyPost_ret (v:=.tuple #[sov Yk Yk,.int .i64 (scan T).2,.int .i64 6]) (by simp[results,Tryz.results24,go_sem,d0,d1]) rfl ?_
  exact⟨hbz,.inr (.inl ⟨HX.o.1,HX.o.2,rfl⟩)⟩
 have hL:=Nf hsc
 obtain⟨al,cl,rfl,_,hc1,hc2,htl,hbl⟩:=Tks.of_own hjj
 have HX:=Xj (And.intro hle hsc)
 have HAL:Xq (∀ x,al=some x->x.block≠gR):=Xj (λ x hx=>by have:=hbl x hx;have:=HS1.o;omega)
 have HP:Xq (∀ W g,W=w2.alloc (.cells #[.slice al ts.length cl,.int .i64 0,.int .i64 0] 99)->g=w2.heap.size->PAt W ⟨g,al,cl,ts,0⟩ 0 ts):=Xj (λ W g hW hg=>by
  subst hW
  subst hg
  exact⟨heap_alloc_new w2 _,htl.below (Xw w2 _),λ x hx=>by obtain⟨b,off,e2,hb,_⟩:=htl 0 (hdT ts) (by obtain⟨x,r,e⟩:=hL.2.cons;rw[e];rfl);rw[e2] at hx;injection hx with hx;subst hx;show b≠w2.heap.size;omega,by simp,hL.2,⟨hc1,hc2⟩,by show ts.length<=100000;have:=hL.1;omega⟩)
 have HR3:=Xj (HR2.o.al (.cells #[.slice al ts.length cl,.int .i64 0,.int .i64 0] 99))
 have HB3:=Xj (HB2.o.alloc (by exact HB2.o.size) (.cells #[.slice al ts.length cl,.int .i64 0,.int .i64 0] 99))
 clear hL hc1 hc2 htl hbl hle hsc hjj
 go_upto_region 5 with fail
 obtain⟨w3,hw3⟩:∃ W,w2.alloc (.cells #[.slice al ts.length cl,.int .i64 0,.int .i64 0] 99)=W:=⟨_,rfl⟩
 obtain⟨g,hg⟩:∃ x,w2.heap.size=x:=⟨_,rfl⟩
 have HP3:=Xj (HP.o w3 g hw3.symm hg.symm)
 (try rw[hw3])
 rw[hw3] at HR3 HB3
 (try rw[hg])
 have HG3:Xq (gR<g):=Xj (by have:=HS2.o;omega)
 clear HP hw3 hg
 go_wp2_with fail
 refine(Pd ⟨g,al,cl,ts,0⟩ 0 ts _ HP3.o).mono ?_
 rintro e w4 ⟨ga,gn,gc,fa,fn,fc,wr,ok,at2,r,rfl,hp4,hg4,Ha⟩
 have hgl:gR<g:=HG3.o
 have HR4:=Xj (HR3.o.grw hg4 (by intro e;injection e with e;have e2:g=gR:=e;omega))
 have HB4:Xq (Below w.heap.size w w4):=Xj (Eg (g:=g) ⟨hg4.os.trans HB3.o.os,hg4.tape.trans HB3.o.tape,hg4.output.trans HB3.o.output,Nat.le_trans HB3.o.size hg4.size,λ k hk hn=>(hg4.block k (by have:=HB3.o.size;omega) hn).trans (HB3.o.block k hk)⟩ (by have:=HGR.o;omega))
 have HSZ:=Xj (And.intro HB3.o.size HGR.o)
 have HS3:Xq (gR<w3.heap.size):=Xj HR3.o.lt
 obtain⟨y0,y1⟩:=HR4.o.cells
 obtain⟨g0,g1⟩:=HR4.o.froz
 have hlR:=HR4.o.lt
 have hZ:=Eq HR4.o HB4.o (by have:=HGR.o;omega) (.slice ga gn gc) (.slice fa fn fc)
 have HP5:Xq (PAt ((w4.setCell ⟨gR,0,none⟩ (.slice ga gn gc)).setCell ⟨gR,1,none⟩ (.slice fa fn fc)) ⟨g,al,cl,ts,wr⟩ at2 r):=Xj ((hp4.sc1 (b:=gR) (o:=0) ⟨by show gR≠g;omega,HAL.o⟩ _).sc1 (b:=gR) (o:=1) ⟨by show gR≠g;omega,HAL.o⟩ _)
 have hyu:=Xj (Ha.o)
 clear hp4 hg4 Ha HP3 HR3 HB3
 obtain⟨⟨rk,rn,rv,rt⟩,r1,hr1⟩:=HP5.o.en.cons
 have HKR:Xq (Yb r=rn):=Xj (by rw[hr1];rfl)
 go_upto_block 0 with fail
 obtain⟨w5,hw5⟩:∃ W,(w4.setCell ⟨gR,0,none⟩ (.slice ga gn gc)).setCell ⟨gR,1,none⟩ (.slice fa fn fc)=W:=⟨_,rfl⟩
 (try rw[hw5])
 rw[hw5] at HP5
 obtain⟨hr5,hb5,hk5⟩:=hZ w5 hw5.symm
 have HR5:=Xj hr5
 have HB5:=Xj hb5
 have HK5:Xq (∀ gs fs,Jy w4 (λ b=>w3.heap.size<=b) gs fs (.slice ga gn gc) (.slice fa fn fc)->Jy w5 (λ b=>w.heap.size<=b/\b≠gR) gs fs (.slice ga gn gc) (.slice fa fn fc)):=Xj (λ gs fs h=>h.gr hk5 (by rw[<- hw5];simp[World.setCell]) (λ b hb=>by have:=HSZ.o;have:=HS3.o;exact⟨by omega,by omega,by omega⟩))
 clear hw5 hZ hr5 hb5 hk5 y0 y1 g0 g1 hlR HR4 HB4
 have hft:∀ W:World,(Instr.field 103 (.agg #[.int .i64 rk,.int .i64 rn,.int .i64 rv,.string (st rt)]) 1).run Tryz.prog W=.ok (.int .i64 rn) W:=λ _=>by kernel_rfl
 cases ok
 ·have HBD:Xq (So 0 [] [] ts (.bad r)):=Xj (by
   rcases hyu.o with⟨h1,_⟩|⟨_,h1⟩
   ·cases h1
   exact h1)
  go_wp2_with fail
  refine(Zn ⟨g,al,cl,ts,wr⟩ at2 rk rn rv rt r1 _ (hr1▸HP5.o)).mono ?_
  rintro e w6 ⟨rfl,hb⟩
  have HR6:=Xj (HR5.o.be hb)
  have HB6:=Xj (HB5.o.trans (hb.mono HB5.o.size))
  clear hb
  obtain⟨y0,y1⟩:=HR6.o.cells
  obtain⟨g0,g1⟩:=HR6.o.froz
  have hlR:=HR6.o.lt
  have hZ:=Eq HR6.o HB6.o (by have:=HGR.o;omega) Yk Yk
  go_wp2_with fail
  obtain⟨wz,hwz⟩:∃ W,(w6.setCell ⟨gR,0,none⟩ Yk).setCell ⟨gR,1,none⟩ Yk=W:=⟨_,rfl⟩
  (try rw[hwz])
  obtain⟨hd,hbz,hkz⟩:=hZ wz hwz.symm
  obtain⟨d0,d1⟩:=hd.cells
  clear hZ
  refine bodyPost_ret (v:=.tuple #[sov Yk Yk,.int .i64 rn,.int .i64 7]) (by simp[results,Tryz.results24,go_sem,d0,d1]) rfl ?_
  exact⟨hbz,.inr (.inr ⟨HX.o.1,ts,_,HX.o.2,Xj ⟨HBD.o,.inr (.inr ⟨r,rfl,by rw[HKR.o]⟩)⟩⟩)⟩
 obtain⟨gs,fs,hso,hsa⟩:∃ gs fs,So 0 [] [] ts (.ok gs fs wr r)/\Jy w4 (λ b=>w3.heap.size<=b) gs fs (.slice ga gn gc) (.slice fa fn fc):=by
  rcases hyu.o with⟨_,h1⟩|⟨h1,_⟩
  ·exact h1
  cases h1
 have HSO:=Xj hso
 have HSA:=Xj (HK5.o _ _ hsa)
 clear hso hsa hr1
 obtain⟨-,-,p2,-,f2,hlp⟩:=HP5.o.cells
 (try dsimp only at p2 f2 hlp)
 by_cases hq:0<wr
 ·have dq:decide (0<wr)=true:=decide_eq_true hq
  have dq2:decide (wr > 0)=true:=decide_eq_true hq
  have HQ:=Xj hq
  clear hq
  go_upto_region 9 with fail
  obtain⟨wd,hwd⟩:∃ W,w5.drew=W:=⟨_,rfl⟩
  have HRd:=Xj (show Lo wd gR (.slice ga gn gc) (.slice fa fn fc) by rw[<- hwd];exact HR5.o)
  have HBd:=Xj (show Below w.heap.size w wd by rw[<- hwd];exact HB5.o.drew)
  have hgl2:gR≠g:=by have:=HG3.o;omega
  refine wp_region_held_drew (S:=(λ w'=>w'.cell? ⟨g,2,none⟩=some (.int .i64 wr))) (by kernel_rfl) (by rw[hwd,<- hwd];exact p2) (λ hJ=>?_)
  rw[hwd] at hJ ⊢
  clear hwd p2 f2 hlp
  obtain⟨y0,y1⟩:=HRd.o.cells
  obtain⟨g0,g1⟩:=HRd.o.froz
  have hlR:=HRd.o.lt
  refine tkH 0 40 ?_
  refine tkH 1 41 ?_
  refine tkH 2 42 ?_
  refine tkH 3 43 ?_
  refine tkH 4 44 ?_
  refine rdH 5 λ K0 hK=>?_
  go_simp
  refine goH hK (Yn _ (by omega) (Yn _ (by omega) hJ)) λ hJ=>?_
  clear hK K0
  refine tkH 6 3 ?_
  refine tkH 7 4 ?_
  refine wpAnyH_done (by kernel_rfl) ?_ _
  refine Xz ?_
  clear y0 y1 g0 g1 hlR hJ
  have hZ:=Eq HRd.o HBd.o (by have:=HGR.o;omega) Yk Yk
  obtain⟨wz,hwz⟩:∃ W,(wd.setCell ⟨gR,0,none⟩ Yk).setCell ⟨gR,1,none⟩ Yk=W:=⟨_,rfl⟩
  (try rw[hwz])
  obtain⟨hd,hbz,hkz⟩:=hZ wz hwz.symm
  obtain⟨d0,d1⟩:=hd.cells
  clear hZ
  go_wp2_with fail
  refine bodyPost_ret (v:=.tuple #[sov Yk Yk,.int .i64 wr,.int .i64 1]) (by simp[results,Tryz.results24,go_sem,d0,d1]) rfl ?_
  exact⟨hbz,.inr (.inr ⟨HX.o.1,ts,_,HX.o.2,Xj ⟨HSO.o,.inr (.inl ⟨gs,fs,wr,r,rfl,HQ.o,rfl⟩)⟩⟩)⟩
 have dq:decide (0<wr)=false:=decide_eq_false hq
 have dq2:decide (wr > 0)=false:=decide_eq_false hq
 have HQ:=Xj hq
 clear hq
 obtain⟨y0,y1⟩:=HR5.o.cells
 obtain⟨g0,g1⟩:=HR5.o.froz
 have hlR:=HR5.o.lt
 have hZ:=Eq HR5.o HB5.o (by have:=HGR.o;omega) (.slice ga gn gc) (.slice fa fn fc)
 go_wp2_with fail
 obtain⟨wz,hwz⟩:∃ W,(w5.setCell ⟨gR,0,none⟩ (.slice ga gn gc)).setCell ⟨gR,1,none⟩ (.slice fa fn fc)=W:=⟨_,rfl⟩
 (try rw[hwz])
 obtain⟨hd,hbz,hkz⟩:=hZ wz hwz.symm
 obtain⟨d0,d1⟩:=hd.cells
 clear hZ
 refine bodyPost_ret (v:=.tuple #[sov (.slice ga gn gc) (.slice fa fn fc),.int .i64 0,.int .i64 0]) (by simp[results,Tryz.results24,go_sem,d0,d1]) rfl ?_
 exact⟨hbz,.inr (.inr ⟨HX.o.1,ts,_,HX.o.2,Xj ⟨HSO.o,.inl ⟨gs,fs,wr,r,_,_,rfl,by have:=HQ.o;omega,HSA.o.gr hkz (by rw[<- hwz];simp[World.setCell]) (λ b hb=>⟨hb.2,hb.1⟩),rfl⟩⟩⟩)⟩
def Bw (B b:Nat) (t:Bt) (w:World):Prop:=Lib.IsBuilder 78 5 B b (Lib.byteCells t) w
theorem Bw.lt {B b:Nat} {t:Bt} {w:World} (h:Bw B b t w):B<=b/\b<w.heap.size:=by
 rcases h with h|h
 ·exact⟨h.1,h.lt⟩
 exact⟨h.1,h.lt⟩
theorem Bw.at {B b:Nat} {t:Bt} {w:World} (h:Bw B b t w):∃ p,Lib.BuilderAt 78 5 B b p (Lib.byteCells t) w:=by
 rcases h with h|h
 ·exact⟨_,h⟩
 exact⟨_,h⟩
theorem Bw.keep {B b:Nat} {t:Bt} {w w':World} (h:Bw B b t w) (hb:Below w.heap.size w w'):Bw B b t w':=by
 have key:∀ p,Lib.BuilderAt 78 5 B b p (Lib.byteCells t) w->Lib.BuilderAt 78 5 B b p (Lib.byteCells t) w':=by
  rintro p ⟨h1,v,h2,h3,h4⟩
  refine⟨h1,v,?_,?_,h4⟩
  ·rw[hb.block b (Array.getElem?_eq_some_iff.1 h2).1];exact h2
  exact h3.kept (row:=none) ⟨hb.os,hb.tape,hb.output,hb.size,λ k hk _=>hb.block k hk⟩ (by cases v.ownBlock<;>simp)
 rcases h with h|h
 ·exact .inl (key _ h)
 exact .inr (key _ h)
structure WK (B b:Nat) (w w':World):Prop where
 be:Below B w w'
 ok:Lib.OthersKept 5 (some b) w w'
theorem WK.trans {B b:Nat} {w w' w'':World} (h:WK B b w w') (k:WK B b w' w''):WK B b w w'':=⟨h.be.trans k.be,h.ok.trans k.ok⟩
theorem WK.refl (B b:Nat) (w:World):WK B b w w:=⟨Below.refl _ _,Lib.OthersKept.refl _ _ _⟩
theorem WK.of {B b:Nat} {w w':World} (h:Below w.heap.size w w') (hB:B<=w.heap.size):WK B b w w' :=
 ⟨h.mono hB,λ k o hk _ _=>by rw[h.block k (Array.getElem?_eq_some_iff.1 hk).1];exact hk⟩
theorem WK.row {B b k:Nat} {w w':World} {cs:Array Value} {T:TypeId} {f:Nat×Nat} (h:WK B b w w') (hk:w.heap[k]?=some (.cells cs T f)) (hT:T≠5) (hb:k≠b):w'.heap[k]?=some (.cells cs T f) :=
 h.ok k _ hk (λ e=>hb (Option.some.inj e)) (λ c fz e=>by injection e with _ e _;exact hT e)
theorem Sj:∃ j,Tryz.prog.info? 76=some j/\j.size≠0:=by
 have h:(Tryz.prog.info? 76).map (λ i=>i.size)=some 2:=by kernel_rfl
 obtain⟨j,hj,h2⟩:=Option.map_eq_some_iff.1 h
 exact⟨j,hj,by rw[h2];decide⟩
theorem Ht:(Tryz.prog.info? 5).map (λ i=>(i.zero,i.size,i.bytes))=some (some (.int .u8 0),1,1):=by kernel_rfl
theorem Bk (b:Nat) (w:World) (h0:w.cell? ⟨b,0,none⟩=some (.pointer none)) (hsh:w.shape? b=some (78,2)) (hfz:w.frozen? ⟨b,0,none⟩=false) :
  Calls Tryz.prog 76 #[.pointer (some ⟨b,0,none⟩)] w λ e w'=>e=.returned (.tuple #[])/\w'=w.setCell ⟨b,0,none⟩ (.pointer (some ⟨b,0,none⟩)):=by
 obtain⟨j,hj,hjs⟩:=Sj
 have q1:=Lib.run_to_unsafe (P:=Tryz.prog) w (src:=74) (dst:=176) (t:=76) ⟨b,0,none⟩ (by kernel_rfl) (by kernel_rfl) hj hjs hsh (Nat.zero_lt_succ 1)
 have q2:=Lib.run_from_unsafe (P:=Tryz.prog) w (src:=176) (dst:=74) (u:=76) ⟨b,0,none⟩ (by kernel_rfl) (by kernel_rfl) hj hsh (by kernel_rfl)
 have q3:(callFunc 127 #[.pointer (some ⟨b,0,none⟩)]).run Tryz.prog w=.ok (.value (.pointer (some ⟨b,0,none⟩))) w:=by
  rw[run_callFunc_extern (fn:=Tryz.f127) (by kernel_rfl) (by kernel_rfl) (by kernel_rfl) (by kernel_rfl) (e:=Extern.AbiNoEscape.same) (by kernel_rfl)]
  rw[Lib.run_noEscape];rfl
 go_enter Tryz.func76,Tryz.ntmps76
 go_wp2
 go_end0
 exact⟨rfl,rfl⟩
theorem Lr (b:Nat) (w:World) (h0:w.cell? ⟨b,0,none⟩=some (.pointer (some ⟨b,0,none⟩))) :
  Calls Tryz.prog 76 #[.pointer (some ⟨b,0,none⟩)] w λ e w'=>e=.returned (.tuple #[])/\w'=w:=by
 obtain⟨j,hj,hjs⟩:=Sj
 have hq:=Lib.run_neq_ptr_same (P:=Tryz.prog) w (tp:=74) (te:=76) ⟨b,0,none⟩ (by kernel_rfl) hj
 go_enter Tryz.func76,Tryz.ntmps76
 go_wp2
 go_end0
 exact⟨rfl,rfl⟩
theorem Tw (B b:Nat) (t:Bt) (w:World) (h:Bw B b t w) :
  Calls Tryz.prog 76 #[.pointer (some ⟨b,0,none⟩)] w λ e w'=>e=.returned (.tuple #[])/\Lib.BuilderAt 78 5 B b (.pointer (some ⟨b,0,none⟩)) (Lib.byteCells t) w'/\WK B b w w':=by
 rcases h with h|h
 ·refine(Bk b w h.cell0 h.shape h.frozen0).mono ?_
  rintro e w' ⟨rfl,rfl⟩
  exact⟨rfl,h.used _,(Below.refl B w).setCell (p:=⟨b,0,none⟩) h.1 _,(Lib.OthersKept.refl _ _ w).setCell ⟨b,0,none⟩ rfl _⟩
 refine(Lr b w h.cell0).mono ?_
 rintro e w' ⟨rfl,rfl⟩
 exact⟨rfl,h,WK.refl B b _⟩
theorem xzd (B b:Nat) (t s:Bt) (w:World) (h:Bw B b t w) (hl:t.length+s.length<=100000000) :
  Calls Tryz.prog 42 #[.pointer (some ⟨b,0,none⟩),.string (st s)] w λ e w'=>e=.returned (.tuple #[.int .i64 s.length,.nilIface])/\Bw B b (t++s) w'/\WK B b w w':=by
 obtain⟨i0,hi,hz0,hz1,hz2⟩:=info_parts Ht
 have HBd:=Xj h
 have hbw:=h.lt
 clear h
 have hsz:(st s).size=s.length:=by show s.toArray.size=_;simp
 go_enter Tryz.func42,Tryz.ntmps42
 go_wp2_with (go_at_call 76;refine(Tw B b t _ HBd.o).mono ?_)
 rintro e w1 ⟨rfl,⟨hB,v,hbk,hjj,hne⟩,hb1,ho1⟩
 have c0:w1.cell? ⟨b,0,none⟩=some (.pointer (some ⟨b,0,none⟩)):=by rw[Lib.cell_of_heap hbk];rfl
 have c1:w1.cell? ⟨b,1,none⟩=some v:=by rw[Lib.cell_of_heap hbk];rfl
 go_wp2_with (at_builtin;refine Lib.wpList_append_own_string _ rfl _ _ 22 9 rfl B 5 i0 (by kernel_rfl) (by kernel_rfl) hi hz0 hz1 hz2 _ _ _ rfl hjj (st s) rfl ?c3 ?c4 ?c5 ?_)
 case c3=>rw[Lib.byteCells_length,hsz];unfold maxLen;omega
 case c4=>rw[Lib.byteCells_length,hsz];omega
 case c5=>have:=hb1.size;omega
 intro v' w2 hown' hgrow _
 have hlt:b<w1.heap.size:=(Array.getElem?_eq_some_iff.1 hbk).1
 have hb2:w2.heap[b]?=some (.cells #[.pointer (some ⟨b,0,none⟩),v] 78 (0,0)):=by
  rw[hgrow.block b hlt (λ e=>hne e.symm)]
  exact hbk
 have d0:w2.cell? ⟨b,0,none⟩=some (.pointer (some ⟨b,0,none⟩)):=by rw[Lib.cell_of_heap hb2];rfl
 have d1:w2.cell? ⟨b,1,none⟩=some v:=by rw[Lib.cell_of_heap hb2];rfl
 have f1:w2.frozen? ⟨b,1,none⟩=false:=Lib.frozen_of_heap hb2 1
 obtain⟨ao,n',cap,rfl⟩:∃ ao n' cap,v'=.slice ao n' cap:=by
  rcases hown'.2 with⟨hv,_⟩|⟨g,cap,cur,hv,_⟩
  ·exact⟨_,_,_,hv⟩
  exact⟨_,_,_,hv⟩
 rw[Lib.strCells_eq,show (st s).data.toList=s from rfl,<- Lib.byteCells_append,Lib.byteCells_length] at hown'
 have HN:=Xj (Lib.BuilderAt.put (T:=78) (e:=5) hB hb2 (bs':=Lib.byteCells (t++s)) (by rw[Lib.byteCells_length,List.length_append];exact hown') (by decide))
 have hki:∀ g,v.ownBlock=some g->∃ c fz,w1.heap[g]?=some (.cells c 5 fz):=by
  intro g hg
  rcases hjj.2 with⟨rfl,_⟩|⟨g',cap,cur,rfl,_,hgg,_⟩
  ·simp[Value.ownBlock] at hg
  simp[Value.ownBlock] at hg
  subst hg
  exact⟨cur,_,hgg⟩
 have HO:=Xj ((ho1.grown hgrow hki).setCell ⟨b,1,none⟩ rfl (.slice ao n' cap))
 have HF:=Xj ((hb1.grown hgrow (by have:=hb1.size;omega) (λ k hk=>(hjj.lt k hk).1)).setCell (p:=⟨b,1,none⟩) hB (.slice ao n' cap))
 clear hjj hown' hgrow hb1 ho1 hki
 go_wp2
 refine bodyPost_ret (v:=.tuple #[.int .i64 s.length,.nilIface]) (by simp[results,Tryz.results42,go_sem]) rfl ?_
 exact⟨rfl,.inr HN.o,HF.o,HO.o⟩
theorem xzl (B b:Nat) (t:Bt) (c:UInt8) (w:World) (h:Bw B b t w) (hl:t.length<=100000000) :
  Calls Tryz.prog 87 #[.pointer (some ⟨b,0,none⟩),.int .u8 c.toNat] w λ e w'=>e=.returned .nilIface/\Bw B b (t++[c]) w'/\WK B b w w':=by
 obtain⟨i0,hi,hz0,hz1,hz2⟩:=info_parts Ht
 have HBd:=Xj h
 have hbw:=h.lt
 clear h
 go_enter Tryz.func87,Tryz.ntmps87
 go_wp2_with (go_at_call 76;refine(Tw B b t _ HBd.o).mono ?_)
 rintro e w1 ⟨rfl,⟨hB,v,hbk,hjj,hne⟩,hb1,ho1⟩
 have c0:w1.cell? ⟨b,0,none⟩=some (.pointer (some ⟨b,0,none⟩)):=by rw[Lib.cell_of_heap hbk];rfl
 have c1:w1.cell? ⟨b,1,none⟩=some v:=by rw[Lib.cell_of_heap hbk];rfl
 go_wp2_with (at_builtin;refine wpList_append_own _ rfl _ _ 22 rfl B 5 i0 (.int .u8 0) 1 1 (by kernel_rfl) hi hz0 hz1 hz2 rfl (by decide) _ _ _ rfl (hjj.alloc _) ⟨w1.heap.size,0,none⟩ 1 1 [.int .u8 c.toNat] rfl rfl ?c1 ?c2 ?c3 ?c4 ?c5 ?_)
 case c1 =>
  intro j u hj
  match j,hj with
  | 0,hj=>simp at hj;subst hj;simp[Addr.add]
 case c2=>intro u hu;simp at hu;subst hu;rfl
 case c3=>rw[Lib.byteCells_length];unfold maxLen;omega
 case c4=>rw[Lib.byteCells_length];omega
 case c5=>have:=hb1.size;simp;omega
 intro v' w2 hown' hgrow _
 have hlt:b<w1.heap.size:=(Array.getElem?_eq_some_iff.1 hbk).1
 have hb2:w2.heap[b]?=some (.cells #[.pointer (some ⟨b,0,none⟩),v] 78 (0,0)):=by
  rw[hgrow.block b (by simp;omega) (λ e=>hne e.symm),Lib.alloc_old w1 _ b hlt]
  exact hbk
 have d0:w2.cell? ⟨b,0,none⟩=some (.pointer (some ⟨b,0,none⟩)):=by rw[Lib.cell_of_heap hb2];rfl
 have d1:w2.cell? ⟨b,1,none⟩=some v:=by rw[Lib.cell_of_heap hb2];rfl
 have f1:w2.frozen? ⟨b,1,none⟩=false:=Lib.frozen_of_heap hb2 1
 obtain⟨ao,n',cap,rfl⟩:∃ ao n' cap,v'=.slice ao n' cap:=by
  rcases hown'.2 with⟨hv,_⟩|⟨g,cap,cur,hv,_⟩
  ·exact⟨_,_,_,hv⟩
  exact⟨_,_,_,hv⟩
 rw[show Lib.byteCells t++[Value.int .u8 c.toNat]=Lib.byteCells (t++[c]) from by rw[Lib.byteCells_append];rfl,Lib.byteCells_length] at hown'
 have HN:=Xj (Lib.BuilderAt.put (T:=78) (e:=5) hB hb2 (bs':=Lib.byteCells (t++[c])) (by rw[Lib.byteCells_length,List.length_append];exact hown') (by decide))
 have hki:∀ g,v.ownBlock=some g->∃ c fz,w1.heap[g]?=some (.cells c 5 fz):=by
  intro g hg
  rcases hjj.2 with⟨rfl,_⟩|⟨g',cap,cur,rfl,_,hgg,_⟩
  ·simp[Value.ownBlock] at hg
  simp[Value.ownBlock] at hg
  subst hg
  exact⟨cur,_,hgg⟩
 have HO:=Xj (((ho1.alloc _).grown hgrow (λ g hg=>(hki g hg).imp λ c h=>h.imp λ fz h2=>by rw[Lib.alloc_old w1 _ g (Array.getElem?_eq_some_iff.1 h2).1];exact h2)).setCell ⟨b,1,none⟩ rfl (.slice ao n' cap))
 have HF:=Xj (((hb1.alloc (by have:=hb1.size;omega) _).grown hgrow (by have:=hb1.size;simp;omega) (λ k hk=>(hjj.lt k hk).1)).setCell (p:=⟨b,1,none⟩) hB (.slice ao n' cap))
 clear hjj hown' hgrow hb1 ho1 hki
 go_wp2
 refine bodyPost_ret (v:=.nilIface) (by simp[results,Tryz.results87,go_sem]) rfl ?_
 exact⟨rfl,.inr HN.o,HF.o,HO.o⟩
theorem Sz (B b:Nat) (t:Bt) (w:World) (h:Bw B b t w) (h0:t≠[]) :
  Calls Tryz.prog 46 #[.pointer (some ⟨b,0,none⟩)] w λ e w'=>e=.returned (.string (st t))/\Below B w w':=by
 obtain⟨p,hB,v,hbk,hjj,hne⟩:=h.at
 rw[Lib.byteCells_length] at hjj
 have hl0:t.length≠0:=by simpa using h0
 obtain⟨g,cap,cur,rfl,hbg,hg,hnc,hcm,hcs,htake⟩:∃ g cap cur,v=.slice (some ⟨g,0,none⟩) t.length cap/\B<=g/\w.heap[g]?=some (.cells cur 5 (0,0))/\t.length<=cap/\cap<=maxLen/\cur.size=cap*1/\cur.toList.take (t.length*1)=Lib.byteCells t:=by
  rcases hjj.2 with⟨_,hz⟩|⟨g,cap,cur,hv,r⟩
  ·exact absurd hz hl0
  exact⟨g,cap,cur,hv,r⟩
 have c1:w.drew.cell? ⟨b,1,none⟩=some (.slice (some ⟨g,0,none⟩) t.length cap):=by
  have:w.drew.heap[b]?=some (.cells #[p,.slice (some ⟨g,0,none⟩) t.length cap] 78 (0,0)):=hbk
  rw[Lib.cell_of_heap this];rfl
 have hSD:(Builtin.unsafeSliceData_ #[22] 135 #[.slice (some ⟨g,0,none⟩) t.length cap]).run Tryz.prog w.drew=.ok (.pointer (some ⟨g,0,none⟩)) w.drew :=
  Lib.run_unsafeSliceData_row _ _ _ _ _ _ (by omega)
 have hUS:(Builtin.unsafeString_ #[135,3] 9 #[.pointer (some ⟨g,0,none⟩),.int .i64 t.length]).run Tryz.prog w.drew=.ok (.string (st t)) (w.drew.freeze ⟨g,0,none⟩ t.length):=by
  refine Lib.run_unsafeString_row w.drew 135 3 9 5 (by kernel_rfl) (by kernel_rfl) g cur.size (by have hg':w.drew.heap[g]?=some (.cells cur 5 (0,0)):=hg;simp[World.shape?,hg']) t h0 (by omega) (by unfold maxLen at hcm;omega) ?_
  intro j x hx
  have:=hjj.cells (g:=g) rfl j (.int .u8 x.toNat) (by simp[Lib.byteCells,hx])
  exact this
 go_enter Tryz.func46,Tryz.ntmps46
 go_wp2
 have mixed:Tryz.prog.follows .mixedOrders=true:=by kernel_rfl
 go_region_o
 all_goals (go_wp2;go_ret;exact⟨rfl,Lib.below_freeze (Below.drew (Below.refl B w)) (p:=⟨g,0,none⟩) hbg _⟩)
structure LB (B:Nat) (w:World):Prop where
 lad:Lad w
 b1:3<B
 b2:2<B
 b3:0<B
theorem LB.of {w:World} (h:Lad w):LB w.heap.size w:=by
 have h0:=h
 obtain⟨⟨t1,p1,h1⟩,⟨t2,p2,h2⟩,h3⟩:=h
 exact⟨h0,Wt Wn h1,Wt Mb h2,Wt Mu h3⟩
theorem LB.below {B:Nat} {w w':World} (h:LB B w) (hb:Below B w w'):LB B w':=by
 obtain⟨⟨⟨t1,p1,h1⟩,⟨t2,p2,h2⟩,h3⟩,b1,b2,b3⟩:=h
 exact⟨⟨⟨t1,p1,var?_below hb Wn b1 h1⟩,⟨t2,p2,var?_below hb Mb b2 h2⟩,var?_below hb Mu b3 h3⟩,b1,b2,b3⟩
structure Bd (B b:Nat) (t:Bt) (w:World):Prop where
 bw:Bw B b t w
 lb:LB B w
theorem Bd.lt {B b:Nat} {t:Bt} {w:World} (h:Bd B b t w):B<=b/\b<w.heap.size:=h.bw.lt
theorem Bd.keep {B b:Nat} {t:Bt} {w w':World} (h:Bd B b t w) (hb:Below w.heap.size w w'):Bd B b t w':=⟨h.bw.keep hb,h.lb.below (hb.mono (by have:=h.lt;omega))⟩
theorem Yp (B b:Nat) (t s:Bt) (w:World) (h:Bd B b t w) (hl:t.length+s.length<=100000000) :
  Calls Tryz.prog 42 #[.pointer (some ⟨b,0,none⟩),.string (st s)] w λ e w'=>e=.returned (.tuple #[.int .i64 s.length,.nilIface])/\Bd B b (t++s) w'/\WK B b w w' :=
 (xzd B b t s w h.bw hl).mono λ _ _ ⟨h1,h2,h3⟩=>⟨h1,⟨h2,h.lb.below h3.be⟩,h3⟩
theorem Gj (B b:Nat) (t:Bt) (c:UInt8) (w:World) (h:Bd B b t w) (hl:t.length<=100000000) :
  Calls Tryz.prog 87 #[.pointer (some ⟨b,0,none⟩),.int .u8 c.toNat] w λ e w'=>e=.returned .nilIface/\Bd B b (t++[c]) w'/\WK B b w w' :=
 (xzl B b t c w h.bw hl).mono λ _ _ ⟨h1,h2,h3⟩=>⟨h1,⟨h2,h.lb.below h3.be⟩,h3⟩
theorem Xk.belowB {B:Nat} {w w':World} {ar:Fo} {sl:Value} (h:Xk w (λ k=>k<B) ar sl) (hb:Below B w w'):Xk w' (λ k=>k<B) ar sl:=h.keep (λ b h1 hlt=>⟨hb.block b h1,h1⟩) hb.size
def WP (B b:Nat) (t:Bt) (W:World) (e:Ending) (w':World):Prop:=e=.returned (.tuple #[])/\Bd B b t w'/\WK B b W w'
def enc (q:Bool) (s:Bt):Bt:=match q with|true=>Ql s|false=>s
def PE (h:Hd) (ar:Fo):Prop:=∀ (W:World) (sl:Value) (B b:Nat) (t:Bt),Xk W (λ k=>k<B) ar sl->Bd B b t W->t.length+(Yw h ar).length<=90000000 ->
 Calls Tryz.prog 51 #[.pointer (some ⟨b,0,none⟩),exv h sl] W (WP B b (t++Yw h ar) W)
structure BX (B b:Nat) (t:Bt) (h:Hd) (ar:Fo) (a:Option Addr) (c:Nat) (W w1:World) (g:Nat):Prop where
 bd:Bd B b t w1
 wk:WK B b W w1
 at':Xk w1 (λ k=>k<B) ar (.slice a ar.len c)
 row:w1.heap[g]?=some (.cells #[.int .i64 h.k,.int .i64 h.op,.int .i64 h.v,.int .i64 h.ln,.string (st h.nm),.slice a ar.len c] 37 (0,0))
 gb:b<g
 gB:B<=g
 hc:c<=9223372036854775807/\ar.len<=c
theorem BX.next {B b:Nat} {t t':Bt} {h:Hd} {ar:Fo} {a:Option Addr} {c:Nat} {W w1 w2:World} {g:Nat} (X:BX B b t h ar a c W w1 g) (hb:Bd B b t' w2) (hk:WK B b w1 w2):BX B b t' h ar a c W w2 g :=
 ⟨hb,X.wk.trans hk,X.at'.belowB hk.be,hk.row X.row (by decide) (by have:=X.gb;omega),X.gb,X.gB,X.hc⟩
theorem BX.below {B b:Nat} {t:Bt} {h:Hd} {ar:Fo} {a:Option Addr} {c:Nat} {W w1 w2:World} {g:Nat} (X:BX B b t h ar a c W w1 g) (hk:Below w1.heap.size w1 w2):BX B b t h ar a c W w2 g :=
 X.next (X.bd.keep hk) (WK.of hk (by have:=X.bd.lt;omega))
theorem Wu {B b:Nat} {t:Bt} {h:Hd} {ar:Fo} {sl:Value} {W:World} (ha:Xk W (λ k=>k<B) ar sl) (hb:Bd B b t W) :
  ∃ a c w1 g,sl=.slice a ar.len c/\W.alloc (.cells #[.int .i64 h.k,.int .i64 h.op,.int .i64 h.v,.int .i64 h.ln,.string (st h.nm),.slice a ar.len c] 37)=w1/\W.heap.size=g/\BX B b t h ar a c W w1 g:=by
 have ha0:=ha
 obtain⟨a,c,rws,rfl,hlc,hcm,-,-,-⟩:=ha
 have hl:=hb.lt
 have hb0:=Xw W (.cells #[.int .i64 h.k,.int .i64 h.op,.int .i64 h.v,.int .i64 h.ln,.string (st h.nm),.slice a ar.len c] 37)
 refine⟨a,c,_,_,rfl,rfl,rfl,hb.keep hb0,WK.of hb0 (by omega),ha0.belowB (hb0.mono (by omega)),heap_alloc_new W _,hl.2,by omega,by unfold maxLen at hcm;omega,hlc⟩
theorem Hh (op:Int) (h0:0<=op) (h1:op<=11) (w:World):Calls Tryz.prog 88 #[.int .i64 op] w λ e w'=>e=.returned (.string (st (sgn op)))/\Below w.heap.size w w':=by
 have h:op=0\/op=1\/op=2\/op=3\/op=4\/op=5\/op=6\/op=7\/op=8\/op=9\/op=10\/op=11:=by omega
 clear h0 h1
 rcases h with rfl|rfl|rfl|rfl|rfl|rfl|rfl|rfl|rfl|rfl|rfl|rfl
 all_goals (
  go_enter Tryz.func88,Tryz.ntmps88
  go_wp2_with fail
  go_ret
  exact⟨rfl,Below.refl _ _⟩)
theorem Ah (xs:List Int) (v:Int) (w:World) (g cap:Nat) (hn:xs.length<=100) (hc:xs.length<=cap) (hx:∀ j z,xs[j]?=some z->w.cell? ⟨g,j,none⟩=some (.int .i64 z)) :
  Calls Tryz.prog 166 #[.slice (some ⟨g,0,none⟩) xs.length cap,.int .i64 v] w λ e w'=>(∃ i:Int,e=.returned (.int .i64 i)/\decide (0<=i)=xs.contains v)/\w'=w:=by
 have HX:=Xj hx
 clear hx
 obtain⟨n,hn2⟩:∃ n,xs.length=n:=⟨_,rfl⟩
 rw[hn2] at hn hc ⊢
 have HN:=Xj hn2
 clear hn2
 go_enter Tryz.func166,Tryz.ntmps166
 go_upto_block 0 with fail
 go_wp2_with fail
 go_loop [8] (λ v8=>∃ i:Nat,i<=n/\v8=.int .i64 i/\Xq (∀ j z,j<i->xs[j]?=some z->z≠v)) (λ v8=>n-(intOf v8).toNat)
 case atStart=>exact⟨0,by omega,rfl,Xj (λ j z hj=>absurd hj (by omega))⟩
 obtain⟨i,hi,rfl,HR⟩:=hrel
 by_cases hlt:i<n
 ·obtain⟨z,hz⟩:∃ z,xs[i]?=some z:=⟨_,List.getElem?_eq_getElem (by rw[HN.o];exact hlt)⟩
  have k0:=HX.o i z hz
  have HZ:=Xj hz
  clear hz
  by_cases hv:v=z
  ·subst hv
   go_wp2_with fail
   go_ret
   refine⟨⟨_,rfl,?_⟩,rfl⟩
   exact⟨λ _=>List.mem_of_getElem? HZ.o,λ _=>by omega⟩
  go_wp2_with fail
  go_round
  case rel =>
   refine⟨i+1,by omega,by go_num,Xj (λ j z' hj hz'=>?_)⟩
   by_cases hji:j=i
   ·subst hji;rw[HZ.o] at hz';injection hz' with hz';subst hz';exact λ e=>hv e.symm
   exact HR.o j z' (by omega) hz'
  simp[intOf];omega
 obtain rfl:i=n:=by omega
 go_wp2_with fail
 go_ret
 refine⟨⟨-1,rfl,?_⟩,rfl⟩
 refine⟨λ hm=>absurd hm (by omega),λ hm=>?_⟩
 exfalso
 obtain⟨j,hj,e⟩:=List.mem_iff_getElem.1 hm
 exact HR.o j v (by rw[<- HN.o];exact hj) (by rw[List.getElem?_eq_getElem hj,e]) rfl
theorem Nj (xs:List Int) (v:Int) (w:World) (g cap:Nat) (hn:xs.length<=100) (hc:xs.length<=cap) (hx:∀ j z,xs[j]?=some z->w.cell? ⟨g,j,none⟩=some (.int .i64 z)) :
  Calls Tryz.prog 138 #[.slice (some ⟨g,0,none⟩) xs.length cap,.int .i64 v] w λ e w'=>e=.returned (.bool (xs.contains v))/\w'=w:=by
 have HI:=Xj (Ah xs v w g cap hn hc hx)
 clear hx
 go_enter Tryz.func138,Tryz.ntmps138
 go_wp2_with fail
 refine HI.o.mono ?_
 rintro e w' ⟨⟨i,rfl,hi⟩,rfl⟩
 have HII:=Xj hi
 clear hi
 go_wp2_with fail
 refine bodyPost_ret (v:=.bool (decide (0<=i))) (by simp[results,Tryz.results138,go_sem]) rfl ?_
 exact⟨by rw[HII.o],rfl⟩
theorem Ep (h:Hd) (ar:Fo) (hE:PE h ar) (ks:List Int) (W:World) (sl:Value) (B b:Nat) (t:Bt) (gk ck:Nat) (ha:Xk W (λ k=>k<B) ar sl) (hb:Bd B b t W) (hn:ks.length<=100) (hc:ks.length<=ck)
  (hk:W.heap[gk]?=some (.cells (ks.map (Value.int .i64)).toArray 3 (0,0))) (hl:t.length+(enc (ks.contains h.k) (Yw h ar)).length<=90000000) :
  Calls Tryz.prog 92 #[.pointer (some ⟨b,0,none⟩),exv h sl,.slice (some ⟨gk,0,none⟩) ks.length ck] W (WP B b (t++enc (ks.contains h.k) (Yw h ar)) W):=by
 have HE:=Xj hE
 clear hE
 obtain⟨a,c,w1,g,rfl,hw1,hg,hX⟩:=Wu (h:=h) ha hb
 have hkg:gk<W.heap.size:=(Array.getElem?_eq_some_iff.1 hk).1
 have hk1:w1.heap[gk]?=some (.cells (ks.map (Value.int .i64)).toArray 3 (0,0)):=by rw[<- hw1,Lib.alloc_old W _ gk hkg];exact hk
 obtain⟨cb,hcb⟩:∃ x,ks.contains h.k=x:=⟨_,rfl⟩
 have hc0:=(Nj ks h.k w1 gk ck hn hc (λ j z hj=>by rw[cell_of_row _ _ _ _ _ _ hk1];simp[hj]))
 rw[hcb] at hc0 hl ⊢
 have HC:=Xj hc0
 have HX:=Xj hX
 clear hk hk1 hkg ha hb hcb hc0
 obtain⟨p0,p1,p2,p3,p4,p5⟩:=Xl hX.row
 have hlt:=hX.bd.lt
 clear hX
 go_enter Tryz.func92,Tryz.ntmps92
 go_upto_region 1 with fail
 (try rw[hw1])
 (try rw[hg])
 clear hw1 hg
 go_wp2_with fail
 refine HC.o.mono ?_
 rintro e w' ⟨rfl,rfl⟩
 cases cb
 ·have hl2:t.length+(Yw h ar).length<=90000000:=hl
  go_wp2_with fail
  refine(HE.o _ _ B b t HX.o.at' HX.o.bd (by omega)).mono ?_
  rintro e w2 ⟨rfl,hb2,hk2⟩
  have HB2:=Xj hb2
  have HK2:=Xj (HX.o.wk.trans hk2)
  clear hb2 hk2
  go_wp2_with fail
  refine bodyPost_ret (results_none rfl _ _ _) rfl ?_
  exact⟨rfl,HB2.o,HK2.o⟩
 have hl2:t.length+((Yw h ar).length+2)<=90000000:=by have:=hl;unfold enc Ql at this;simpa using this
 go_wp2_with fail
 refine(Gj B b t 40 _ HX.o.bd (by omega)).mono ?_
 rintro e w2 ⟨rfl,hb2,hk2⟩
 have HY:=Xj (HX.o.next hb2 hk2)
 obtain⟨q0,q1,q2,q3,q4,q5⟩:=Xl HY.o.row
 clear hb2 hk2 p0 p1 p2 p3 p4 p5
 go_wp2_with fail
 refine(HE.o _ _ B b (t++[40]) HY.o.at' HY.o.bd (by rw[List.length_append];show _+1+_<=_;omega)).mono ?_
 rintro e w3 ⟨rfl,hb3,hk3⟩
 have HZ:=Xj (HY.o.next hb3 hk3)
 clear hb3 hk3 q0 q1 q2 q3 q4 q5
 go_wp2_with fail
 refine(Gj B b _ 41 _ HZ.o.bd (by simp only[List.length_append,List.length_cons,List.length_nil];omega)).mono ?_
 rintro e w4 ⟨rfl,hb4,hk4⟩
 have HB4:=Xj hb4
 have HK4:=Xj (HZ.o.wk.trans hk4)
 clear hb4 hk4
 go_wp2_with fail
 refine bodyPost_ret (results_none rfl _ _ _) rfl ?_
 refine⟨rfl,?_,HK4.o⟩
 have:=HB4.o
 simp only[List.append_assoc] at this
 exact this
theorem Su (h:Hd) (s:Bt):enc ([5,6,7,8].contains h.k) s=opd h s:=by
 unfold opd Uw enc
 by_cases h5:h.k=5
 ·simp[h5]
 by_cases h6:h.k=6
 ·simp[h6]
 by_cases h7:h.k=7
 ·simp[h7]
 by_cases h8:h.k=8
 ·simp[h8]
 simp[h5,h6,h7,h8]
theorem Vr (h:Hd) (ar:Fo) (hE:PE h ar) (W:World) (sl:Value) (B b:Nat) (t:Bt) (ha:Xk W (λ k=>k<B) ar sl) (hb:Bd B b t W) (hl:t.length+(opd h (Yw h ar)).length<=90000000) :
  Calls Tryz.prog 89 #[.pointer (some ⟨b,0,none⟩),exv h sl] W (WP B b (t++opd h (Yw h ar)) W):=by
 obtain⟨a,c,w1,g,rfl,hw1,hg,hX⟩:=Wu (h:=h) ha hb
 have HX:=Xj hX
 clear ha hb
 obtain⟨p0,p1,p2,p3,p4,p5⟩:=Xl hX.row
 have hlt:=hX.bd.lt
 clear hX
 go_enter Tryz.func89,Tryz.ntmps89
 go_upto_region 1 with fail
 (try rw[hw1])
 (try rw[hg])
 clear hw1 hg
 have hb2:=Xw w1 (.cells ([5,6,7,8].map (Value.int .i64)).toArray 3)
 have HY:=Xj (HX.o.below hb2)
 have HK:=Xj (Ep h ar hE [5,6,7,8] _ (.slice a ar.len c) B b t w1.heap.size 4 HY.o.at' HY.o.bd (by decide) (by decide) (heap_alloc_new w1 _) (by rw[Su];exact hl))
 clear hb2 hE
 go_wp2_with fail
 refine HK.o.mono ?_
 rintro e w3 ⟨rfl,hb3,hk3⟩
 have HB3:=Xj hb3
 have HK3:=Xj (HY.o.wk.trans hk3)
 clear hb3 hk3
 go_wp2_with fail
 refine bodyPost_ret (results_none rfl _ _ _) rfl ?_
 refine⟨rfl,?_,HK3.o⟩
 have:=HB3.o
 rw[Su] at this
 exact this
theorem Vx {w:World} {B:Nat} {ar:Fo} {a:Option Addr} {c:Nat} (h:Xk w (λ k=>k<B) ar (.slice a ar.len c)) {x:Hd×Fo} (hj:ar.get 0=some x) :
  ∃ b off asl csl,a=some ⟨b,off,none⟩/\Xq (Xk w (λ k=>k<B) x.2 (.slice asl x.2.len csl))/\w.cell? ⟨b,off,none⟩=some (.int .i64 x.1.k)/\w.cell? ⟨b,off+1,none⟩=some (.int .i64 x.1.op)/\w.cell? ⟨b,off+2,none⟩=some (.int .i64 x.1.v)/\w.cell? ⟨b,off+3,none⟩=some (.int .i64 x.1.ln)/\w.cell? ⟨b,off+4,none⟩=some (.string (st x.1.nm))/\w.cell? ⟨b,off+5,none⟩=some (.slice asl x.2.len csl):=by
 obtain⟨b,off,asl,csl,e,hb,_,ha,hk⟩:=h.elemP hj
 rw[Nat.zero_mul,Nat.add_zero] at hk
 exact⟨b,off,asl,csl,e,Xj ha,hk 0 _ rfl,hk 1 _ rfl,hk 2 _ rfl,hk 3 _ rfl,hk 4 _ rfl,hk 5 _ rfl⟩
theorem xzc {w:World} {B:Nat} {ar:Fo} {b off c:Nat} (h:Xk w (λ k=>k<B) ar (.slice (some ⟨b,off,none⟩) ar.len c)) {x:Hd×Fo} {j:Nat} (hj:ar.get j=some x) :
  ∃ asl csl,Xq (Xk w (λ k=>k<B) x.2 (.slice asl x.2.len csl))/\w.cell? ⟨b,off+j*6,none⟩=some (.int .i64 x.1.k)/\w.cell? ⟨b,off+j*6+1,none⟩=some (.int .i64 x.1.op)/\w.cell? ⟨b,off+j*6+2,none⟩=some (.int .i64 x.1.v)/\w.cell? ⟨b,off+j*6+3,none⟩=some (.int .i64 x.1.ln)/\w.cell? ⟨b,off+j*6+4,none⟩=some (.string (st x.1.nm))/\w.cell? ⟨b,off+j*6+5,none⟩=some (.slice asl x.2.len csl):=by
 obtain⟨b',off',asl,csl,e,hb,_,ha,hk⟩:=h.elemP hj
 injection e with e
 injection e with e1 e2
 subst e1 e2
 exact⟨asl,csl,Xj ha,hk 0 _ rfl,hk 1 _ rfl,hk 2 _ rfl,hk 3 _ rfl,hk 4 _ rfl,hk 5 _ rfl⟩
theorem Et (h:Hd) (ar:Fo) (x y:Hd×Fo) (hx:ar.get 0=some x) (hy:ar.get 1=some y) (HJ:ar.len=2) (hE:PE x.1 x.2) (hE2:PE y.1 y.2) (bt:Bt) (W:World) (sl:Value) (B b:Nat) (t:Bt) (ha:Xk W (λ k=>k<B) ar sl) (hb:Bd B b t W) (hbt:bt.length<=100) (hl:t.length+(opd x.1 (Yw x.1 x.2)++([32]++(bt++([32]++opd y.1 (Yw y.1 y.2))))).length<=90000000) :
  Calls Tryz.prog 90 #[.pointer (some ⟨b,0,none⟩),exv h sl,.string (st bt)] W (WP B b (t++(opd x.1 (Yw x.1 x.2)++([32]++(bt++([32]++opd y.1 (Yw y.1 y.2)))))) W):=by
 have hol:(Yw x.1 x.2).length<=(opd x.1 (Yw x.1 x.2)).length:=by unfold opd Ql;split<;>simp<;>omega
 have hol2:(Yw y.1 y.2).length<=(opd y.1 (Yw y.1 y.2)).length:=by unfold opd Ql;split<;>simp<;>omega
 have HE:=Xj (λ W sl B b t=>Vr x.1 x.2 hE W sl B b t)
 have HE2:=Xj (λ W sl B b t=>Vr y.1 y.2 hE2 W sl B b t)
 clear hE hE2
 obtain⟨f1,hf1⟩:∃ z,opd x.1 (Yw x.1 x.2)=z:=⟨_,rfl⟩
 obtain⟨f2,hf2⟩:∃ z,opd y.1 (Yw y.1 y.2)=z:=⟨_,rfl⟩
 rw[hf1] at hol hl HE ⊢
 rw[hf2] at hol2 hl HE2 ⊢
 clear hf1 hf2
 simp only[List.length_append,List.length_cons,List.length_nil] at hl
 obtain⟨a,c,w1,g,rfl,hw1,hg,hX⟩:=Wu (h:=h) ha hb
 obtain⟨b0,o0,as0,cs0,rfl,HA0,k0,k1,k2,k3,k4,k5⟩:=Vx hX.at' hx
 have HX:=Xj hX
 have HXX:=Xj hx
 have HYY:=Xj hy
 clear ha hb hx hy
 obtain⟨p0,p1,p2,p3,p4,p5⟩:=Xl hX.row
 have hlt:=hX.bd.lt
 have hjb:=hX.hc
 clear hX
 rw[HJ] at p5 hjb
 have HLN:=Xj HJ
 (try rw[HJ])
 clear HJ
 go_enter Tryz.func90,Tryz.ntmps90
 go_upto_region 1 with fail
 (try rw[HLN.o] at hw1)
 (try rw[hw1])
 (try rw[hg])
 clear hw1 hg
 go_wp2_with fail
 refine(HE.o _ _ B b t HA0.o HX.o.bd (by omega)).mono ?_
 rintro e w2 ⟨rfl,hb2,hk2⟩
 have HX2:=Xj (HX.o.next hb2 hk2)
 clear hb2 hk2 k0 k1 k2 k3 k4 k5 p0 p1 p2 p3 p4 p5
 have hst:=Kj
 go_wp2_with fail
 refine(Yp B b _ _ _ HX2.o.bd (by simp only[List.length_append,List.length_cons,List.length_nil];omega)).mono ?_
 rintro e w3 ⟨rfl,hb3,hk3⟩
 have HX3:=Xj (HX2.o.next hb3 hk3)
 clear hb3 hk3 hst
 obtain⟨as1,cs1,HA1,j0,j1,j2,j3,j4,j5⟩:=xzc HX3.o.at' HYY.o
 rw[Nat.one_mul] at j0 j1 j2 j3 j4 j5
 obtain⟨p0,p1,p2,p3,p4,p5⟩:=Xl HX3.o.row
 rw[HLN.o] at p5
 go_wp2_with fail
 refine(HE2.o _ _ B b _ HA1.o HX3.o.bd (by simp only[List.length_append,List.length_cons,List.length_nil];omega)).mono ?_
 rintro e w4 ⟨rfl,hb4,hk4⟩
 have HB4:=Xj hb4
 have HK4:=Xj (HX3.o.wk.trans hk4)
 clear hb4 hk4
 go_wp2_with fail
 refine bodyPost_ret (results_none rfl _ _ _) rfl ?_
 refine⟨rfl,?_,HK4.o⟩
 have:=HB4.o
 simp only[List.append_assoc,List.cons_append,List.nil_append] at this ⊢
 exact this
theorem Nq (l:List Bt) (i:Nat):(comm (l.take i)).length<=(comm l).length:=by
 induction l generalizing i with
 | nil=>simp
 | cons s r ih =>
  cases i with
  | zero=>simp[comm]
  | succ i =>
   cases r with
   | nil=>simp
   | cons s2 r2 =>
    cases i with
    | zero=>simp[comm]
    | succ i =>
     have:=ih (i+1)
     simp only[List.take_succ_cons,comm,List.length_append] at this ⊢
     omega
theorem Np (F:Fo) (hE:∀ j x,F.get j=some x->PE x.1 x.2) (W:World) (a:Option Addr) (c:Nat) (B b:Nat) (t:Bt) (ha:Xk W (λ k=>k<B) F (.slice a F.len c)) (hb:Bd B b t W) (hn:F.len<=100000) (hl:t.length+(Uj ((Yl F).map (·.2))).length<=90000000) :
  Calls Tryz.prog 91 #[.pointer (some ⟨b,0,none⟩),.slice a F.len c] W (WP B b (t++Uj ((Yl F).map (·.2))) W):=by
 have HE:=Xj hE
 have hfl:=Um F
 have hcc:c<=9223372036854775807:=by obtain⟨_,_,_,e,_,h2,_⟩:=ha;injection e with _ _ e3;subst e3;unfold maxLen at h2;omega
 have hlt:=hb.lt
 have HA:=Xj ha
 have HB:=Xj hb
 clear hE ha hb
 obtain⟨n,hn2⟩:∃ n,F.len=n:=⟨_,rfl⟩
 have hll:(Uj ((Yl F).map (·.2))).length=(comm ((Yl F).map (·.2))).length+2:=by unfold Uj Ql;simp
 rw[hll] at hl
 rw[hn2] at hn hfl HA ⊢
 have HN:=Xj hn2
 have HFL:=Xj hfl
 clear hn2 hfl hll
 go_enter Tryz.func91,Tryz.ntmps91
 go_upto_block 0 with fail
 go_wp2_with fail
 refine(Gj B b t 40 _ HB.o (by omega)).mono ?_
 rintro e w1 ⟨rfl,hb1,hk1⟩
 have HB1:=Xj hb1
 have HK1:=Xj hk1
 have hs1:=hb1.lt
 clear hb1 hk1
 go_wp2_with fail
 go_loopw [12] (λ v12 wr=>∃ i:Nat,i<=n/\v12=.int .i64 i/\Xq (Bd B b (t++(40::comm (((Yl F).map (·.2)).take i))) wr)/\Xq (WK B b W wr)) (λ v12 _=>n-(intOf v12).toNat)
 case atStart=>exact⟨0,by omega,rfl,Xj HB1.o,HK1⟩
 obtain⟨i,hi,rfl,HR,HK⟩:=hrel
 have hdj:=HR.o.lt
 by_cases hqm:i<n
 ·obtain⟨x,hx⟩:=Fo.get_lt (F:=F) (i:=i) (by rw[HN.o];exact hqm)
  have hAr:=HA.o.belowB HK.o.be
  rw[<- HN.o] at hAr
  obtain⟨b0,o0,asl,csl,rfl,-,-,HAx,hk⟩:=hAr.elemP hx
  have k0:wr.cell? ⟨b0,o0+i*6,none⟩=some (.int .i64 x.1.k):=hk 0 _ rfl
  have k1:wr.cell? ⟨b0,o0+i*6+1,none⟩=some (.int .i64 x.1.op):=hk 1 _ rfl
  have k2:wr.cell? ⟨b0,o0+i*6+2,none⟩=some (.int .i64 x.1.v):=hk 2 _ rfl
  have k3:wr.cell? ⟨b0,o0+i*6+3,none⟩=some (.int .i64 x.1.ln):=hk 3 _ rfl
  have k4:wr.cell? ⟨b0,o0+i*6+4,none⟩=some (.string (st x.1.nm)):=hk 4 _ rfl
  have k5:wr.cell? ⟨b0,o0+i*6+5,none⟩=some (.slice asl x.2.len csl):=hk 5 _ rfl
  have hg:=Qf F i x hx
  have HCT:=Xj (Bz (Yl F) i _ hg)
  have HXE:=Xj (HE.o i x hx)
  obtain⟨a2,c2,wx,gx,e2,hwx,hgx,hX⟩:=Wu (h:=x.1) HAx HR.o
  injection e2 with e2 e3 e4
  subst e2 e4
  have HX:=Xj hX
  have hyb:(comm (((Yl F).map (·.2)).take (i+1))).length<=(comm ((Yl F).map (·.2))).length:=Nq _ _
  have HPR:=Xj hyb
  clear hAr hk hX hg HAx
  go_upto_region 4 with fail
  clear hwx hgx k0 k1 k2 k3 k4 k5 hdj
  obtain⟨p0,p1,p2,p3,p4,p5⟩:=Xl HX.o.row
  have hlx:=HX.o.bd.lt
  obtain⟨s1,hdq⟩:∃ z,comm (((Yl F).map (·.2)).take i)=z:=⟨_,rfl⟩
  have HS1:=Xj hdq
  obtain⟨s2,hdx⟩:∃ z,Yw x.1 x.2=z:=⟨_,rfl⟩
  have HS2:=Xj hdx
  have hct:=HCT.o
  rw[hdq] at hct HX
  simp only[hdx] at hct
  clear hdq hdx
  by_cases hi0:i=0
  ·subst hi0
   rw[if_pos rfl] at hct
   have HCE:=Xj hct
   rw[hct] at hyb
   clear hct hyb
   go_wp2_with fail
   refine(HXE.o _ _ B b _ HX.o.at' HX.o.bd (by have h1:=HPR.o;rw[HCE.o] at h1;rw[HS2.o];have h2:s1=[]:=HS1.o.symm;subst h2;simp only[List.length_append,List.length_cons,List.length_nil];omega)).mono ?_
   rintro e w2 ⟨rfl,hb2,hk2⟩
   have HB2:=Xj hb2
   have HK2:=Xj ((HK.o.trans HX.o.wk).trans hk2)
   clear hb2 hk2 p0 p1 p2 p3 p4 p5
   go_wp2_with fail
   go_roundw
   case rel =>
    refine⟨1,by omega,by go_num,Xj ?_,HK2⟩
    have h1:=HB2.o
    have h2:s1=[]:=HS1.o.symm
    rw[HS2.o,h2] at h1
    rw[HCE.o]
    simpa using h1
   simp[intOf];omega
  rw[if_neg hi0] at hct
  have hip:decide ((0:Int)<(i:Int))=true:=by rw[decide_eq_true_iff];omega
  have hip2:0<i:=by omega
  have HCE:=Xj hct
  rw[hct] at hyb
  simp only[List.length_append,List.length_cons,List.length_nil] at hyb
  clear hct hi0
  go_wp2_with fail
  refine(Yp B b _ [44,32] _ HX.o.bd (by simp only[List.length_append,List.length_cons,List.length_nil];omega)).mono ?_
  rintro e w2 ⟨rfl,hb2,hk2⟩
  have HY:=Xj (HX.o.next hb2 hk2)
  clear hb2 hk2 p0 p1 p2 p3 p4 p5
  obtain⟨p0,p1,p2,p3,p4,p5⟩:=Xl HY.o.row
  go_wp2_with fail
  refine(HXE.o _ _ B b _ HY.o.at' HY.o.bd (by rw[HS2.o];simp only[List.length_append,List.length_cons,List.length_nil];omega)).mono ?_
  rintro e w3 ⟨rfl,hb3,hk3⟩
  have HB3:=Xj hb3
  have HK3:=Xj ((HK.o.trans HY.o.wk).trans hk3)
  clear hb3 hk3 p0 p1 p2 p3 p4 p5
  go_wp2_with fail
  go_roundw
  case rel =>
   refine⟨i+1,by omega,by go_num,Xj ?_,HK3⟩
   have h1:=HB3.o
   rw[HS2.o] at h1
   rw[HCE.o]
   simpa using h1
  simp[intOf];omega
 obtain rfl:i=n:=by omega
 have HCE:Xq (comm (((Yl F).map (·.2)).take i)=comm ((Yl F).map (·.2))):=Xj (by rw[List.take_of_length_le (by rw[List.length_map,HFL.o];exact Nat.le_refl _)])
 have hR:=HR.o
 rw[HCE.o] at hR
 have HR2:=Xj hR
 clear hR
 go_wp2_with fail
 refine(Gj B b _ 41 _ HR2.o (by simp only[List.length_append,List.length_cons,List.length_nil];omega)).mono ?_
 rintro e w2 ⟨rfl,hb2,hk2⟩
 have HB2:=Xj hb2
 have HK2:=Xj (HK.o.trans hk2)
 clear hb2 hk2
 go_wp2_with fail
 refine bodyPost_ret (results_none rfl _ _ _) rfl ?_
 refine⟨rfl,?_,HK2.o⟩
 have:=HB2.o
 simp only[List.append_assoc] at this
 exact this
theorem Cw (h:Hd) (ar:Fo) (kk:Int) (hkk:h.k=kk) (hq:kk=13\/kk=2\/kk=3):PE h ar:=by
 have hv:Yw h ar=h.nm:=by show Zj h (Yl ar)=_;unfold Zj;rcases hq with rfl|rfl|rfl<;>simp[hkk]
 have HV:=Xj hv
 intro W sl B b t ha hb hl
 rw[hv] at hl
 clear hv
 revert W sl B b t ha hb hl
 rcases hq with rfl|rfl|rfl
 all_goals (
  intro W sl B b t ha hb hl
  obtain⟨a,c,w1,g,rfl,hw1,hg,hX⟩:=Wu (h:=h) ha hb
  have HX:=Xj hX
  obtain⟨p0,p1,p2,p3,p4,p5⟩:=Xl hX.row
  have hlt:=hX.bd.lt
  have hjb:=hX.hc
  rw[hkk] at p0
  clear hX ha hb hkk
  have HXd:=Xj (HX.o.below (Below.refl _ _).drew)
  go_enter Tryz.func51,Tryz.ntmps51
  go_upto_region 7 with fail
  (try rw[hw1])
  (try rw[hg])
  clear hw1 hg
  go_still_tail 5,(by kernel_rfl)
  change wpList _ _ _ _ _ w1.drew
  go_wp2_with fail
  refine(Yp B b t _ _ HXd.o.bd (by first|omega|(simp only[List.length_append,List.length_cons,List.length_nil] at *;omega))).mono ?_
  rintro e w2 ⟨rfl,hb2,hk2⟩
  have HX2:=Xj (HXd.o.next hb2 hk2)
  clear hb2 hk2 p0 p1 p2 p3 p4 p5
  go_wp2_with fail
  refine bodyPost_ret (results_none rfl _ _ _) rfl ?_
  refine⟨rfl,?_,HX2.o.wk⟩
  have:=HX2.o.bd
  rw[HV.o]
  simpa [List.append_assoc] using this)
theorem Cv (h:Hd) (ar:Fo) (hkk:h.k=12):PE h ar:=by
 have hv:Yw h ar=[114,101,97,100]:=by show Zj h (Yl ar)=_;unfold Zj;simp[hkk]
 have HV:=Xj hv
 clear hv
 intro W sl B b t ha hb hl
 obtain⟨a,c,w1,g,rfl,hw1,hg,hX⟩:=Wu (h:=h) ha hb
 have HX:=Xj hX
 obtain⟨p0,p1,p2,p3,p4,p5⟩:=Xl hX.row
 have hlt:=hX.bd.lt
 have hjb:=hX.hc
 rw[hkk] at p0
 clear hX ha hb hkk
 have HXd:=Xj (HX.o.below (Below.refl _ _).drew)
 go_enter Tryz.func51,Tryz.ntmps51
 go_upto_region 30 with fail
 (try rw[hw1])
 (try rw[hg])
 clear hw1 hg
 go_wp2_with fail
 refine(Yp B b t [114,101,97,100] _ HX.o.bd (by rw[HV.o] at hl;simp only[List.length_cons,List.length_nil] at *;omega)).mono ?_
 rintro e w2 ⟨rfl,hb2,hk2⟩
 have HX2:=Xj (HX.o.next hb2 hk2)
 clear hb2 hk2 p0 p1 p2 p3 p4 p5
 go_wp2_with fail
 refine bodyPost_ret (results_none rfl _ _ _) rfl ?_
 refine⟨rfl,?_,HX2.o.wk⟩
 have:=HX2.o.bd
 rw[HV.o]
 simpa [List.append_assoc] using this
theorem Ck (h:Hd) (ar:Fo) (hkk:h.k=11):PE h ar:=by
 have hv:Yw h ar=38::h.nm:=by show Zj h (Yl ar)=_;unfold Zj;simp[hkk]
 have HV:=Xj hv
 intro W sl B b t ha hb hl
 rw[hv] at hl
 clear hv
 simp only[List.length_cons] at hl
 have hst:=Kj
 obtain⟨a,c,w1,g,rfl,hw1,hg,hX⟩:=Wu (h:=h) ha hb
 have HX:=Xj hX
 obtain⟨p0,p1,p2,p3,p4,p5⟩:=Xl hX.row
 have hlt:=hX.bd.lt
 have hjb:=hX.hc
 rw[hkk] at p0
 clear hX ha hb hkk
 have HXd:=Xj (HX.o.below (Below.refl _ _).drew)
 go_enter Tryz.func51,Tryz.ntmps51
 go_upto_region 28 with fail
 (try rw[hw1])
 (try rw[hg])
 clear hw1 hg
 refine wp_region_held_drew (S:=(λ w'=>w'.cell? ⟨g,4,none⟩=some (.string (st h.nm)))) (by kernel_rfl) p4 (λ hJ=>?_)
 refine tkH 0 105 ?_
 refine tkH 1 106 ?_
 refine tkH 2 107 ?_
 refine tkH 3 108 ?_
 refine tkH 4 109 ?_
 refine tkH 5 110 (v:=.string (st (38::h.nm))) ?_ (hy:=by intro w hSw;go_simp;omega)
 refine rdH 6 λ K0 hK=>?_
 go_simp
 refine(Yp B b t (38::h.nm) _ HXd.o.bd (by simp only[List.length_cons];omega)).mono ?_
 rintro e w2 ⟨rfl,hb2,hk2⟩
 have HX2:=Xj (HXd.o.next hb2 hk2)
 refine goH hK (cell_of_row _ _ 4 _ _ _ HX2.o.row) λ hJ=>?_
 clear hb2 hk2 p0 p1 p2 p3 p4 p5 hK K0
 refine wpAnyH_done (by kernel_rfl) ?_ _
 go_wp2_with fail
 refine bodyPost_ret (results_none rfl _ _ _) rfl ?_
 refine⟨rfl,?_,HX2.o.wk⟩
 have:=HX2.o.bd
 rw[HV.o]
 simpa [List.append_assoc] using this
theorem Pb (h:Hd) (ar:Fo) (hkk:h.k=1) (h0:0<=h.v) (h1:h.v<=9223372036854775807):PE h ar:=by
 have hv:Yw h ar=Lib.decDigits h.v.toNat:=by show Zj h (Yl ar)=_;unfold Zj;simp[hkk]
 have HV:=Xj hv
 have hit:Lib.itoa h.v=Lib.decDigits h.v.toNat:=by unfold Lib.itoa;rw[if_neg (by omega)]
 have HIT:=Xj hit
 have HR:=Xj (And.intro h0 h1)
 clear hit h0 h1
 intro W sl B b t ha hb hl
 rw[hv] at hl
 clear hv
 (try simp only[List.length_append,List.length_cons,List.length_nil] at hl)
 obtain⟨a,c,w1,g,rfl,hw1,hg,hX⟩:=Wu (h:=h) ha hb
 have HX:=Xj hX
 obtain⟨p0,p1,p2,p3,p4,p5⟩:=Xl hX.row
 have hlt:=hX.bd.lt
 have hjb:=hX.hc
 rw[hkk] at p0
 clear hX ha hb hkk
 have HXd:=Xj (HX.o.below (Below.refl _ _).drew)
 go_enter Tryz.func51,Tryz.ntmps51
 go_upto_region 3 with fail
 (try rw[hw1])
 (try rw[hg])
 clear hw1 hg
 refine wp_region_held_drew (S:=(λ w'=>w'.cell? ⟨g,2,none⟩=some (.int .i64 h.v))) (by kernel_rfl) p2 (λ hJ=>?_)
 refine tkH 0 8 ?_
 refine tkH 1 9 ?_
 refine tkH 2 10 ?_
 refine tkH 3 11 ?_
 refine tkH 4 12 ?_
 refine rdH 5 λ K0 hK=>?_
 go_simp
 refine(Hx h.v (by have:=HR.o;omega) (by have:=HR.o;omega) _ HXd.o.bd.lb.lad).mono ?_
 rintro e w2 ⟨rfl,hb2⟩
 have HX2:=Xj (HXd.o.below hb2)
 rw[HIT.o]
 refine goH hK (cell_of_row _ _ 2 _ _ _ HX2.o.row) λ hJ=>?_
 clear hb2 hK K0
 refine rdH 6 λ K0 hK=>?_
 go_simp
 refine(Yp B b t _ _ HX2.o.bd (by omega)).mono ?_
 rintro e w3 ⟨rfl,hb3,hk3⟩
 have HX3:=Xj (HX2.o.next hb3 hk3)
 refine goH hK (cell_of_row _ _ 2 _ _ _ HX3.o.row) λ hJ=>?_
 clear hb3 hk3 p0 p1 p2 p3 p4 p5 hK K0
 refine wpAnyH_done (by kernel_rfl) ?_ _
 go_wp2_with fail
 refine bodyPost_ret (results_none rfl _ _ _) rfl ?_
 refine⟨rfl,?_,HX3.o.wk⟩
 have:=HX3.o.bd
 rw[HV.o]
 simpa [List.append_assoc] using this
theorem Ng (h:Hd) (ar:Fo) (hkk:h.k=4) (x:Hd×Fo) (hx:ar.get 0=some x) (HJ:ar.len=1) (hE:PE x.1 x.2):PE h ar:=by
 have hv:Yw h ar=h.nm++([91]++(Yw x.1 x.2++[93])):=by
  have h1:=Qf ar 0 x hx
  have h3:=Um ar
  show Zj h (Yl ar)=_
  match hf:Yl ar,h1,h3 with
  | [q],h1,_=>simp at h1;subst h1;unfold Zj;simp[hkk]
  | [],h1,_=>simp at h1
  | _::_::_,_,h3=>simp[HJ] at h3
 have HV:=Xj hv
 have HE:=Xj hE
 have HXX:=Xj hx
 clear hE hx
 intro W sl B b t ha hb hl
 rw[hv] at hl
 clear hv
 (try simp only[List.length_append,List.length_cons,List.length_nil] at hl)
 obtain⟨a,c,w1,g,rfl,hw1,hg,hX⟩:=Wu (h:=h) ha hb
 have HX:=Xj hX
 obtain⟨p0,p1,p2,p3,p4,p5⟩:=Xl hX.row
 have hlt:=hX.bd.lt
 have hjb:=hX.hc
 rw[hkk] at p0
 rw[HJ] at p5 hjb
 have HLN:=Xj HJ
 clear hX ha hb hkk HJ
 have HXd:=Xj (HX.o.below (Below.refl _ _).drew)
 go_enter Tryz.func51,Tryz.ntmps51
 go_upto_region 9 with fail
 (try rw[hw1])
 (try rw[hg])
 clear hw1 hg
 have hst:=Kj
 refine wp_region_held_drew (S:=(λ w'=>w'.cell? ⟨g,4,none⟩=some (.string (st h.nm)))) (by kernel_rfl) p4 (λ hJ=>?_)
 refine tkH 0 27 ?_
 refine tkH 1 28 ?_
 refine tkH 2 29 ?_
 refine tkH 3 30 ?_
 refine tkH 4 31 ?_
 refine tkH 5 32 (v:=.string (st (h.nm++[91]))) ?_ (hy:=by intro w hSw;go_simp;omega)
 refine rdH 6 λ K0 hK=>?_
 go_simp
 refine(Yp B b t (h.nm++[91]) _ HXd.o.bd (by simp only[List.length_append,List.length_cons,List.length_nil];omega)).mono ?_
 rintro e w2 ⟨rfl,hb2,hk2⟩
 have HX2:=Xj (HXd.o.next hb2 hk2)
 refine goH hK (cell_of_row _ _ 4 _ _ _ HX2.o.row) λ hJ=>?_
 clear hb2 hk2 p0 p1 p2 p3 p4 p5 hK K0 hst
 refine wpAnyH_done (by kernel_rfl) ?_ _
 obtain⟨b0,o0,as0,cs0,rfl,HA0,k0,k1,k2,k3,k4,k5⟩:=Vx HX2.o.at' HXX.o
 obtain⟨p0,p1,p2,p3,p4,p5⟩:=Xl HX2.o.row
 rw[HLN.o] at p5
 go_wp2_with fail
 refine(HE.o _ _ B b _ HA0.o HX2.o.bd (by simp only[List.length_append,List.length_cons,List.length_nil];omega)).mono ?_
 rintro e w3 ⟨rfl,hb3,hk3⟩
 have HX3:=Xj (HX2.o.next hb3 hk3)
 clear hb3 hk3 p0 p1 p2 p3 p4 p5 k0 k1 k2 k3 k4 k5
 go_wp2_with fail
 refine(Gj B b _ 93 _ HX3.o.bd (by simp only[List.length_append,List.length_cons,List.length_nil];omega)).mono ?_
 rintro e w4 ⟨rfl,hb4,hk4⟩
 have HX4:=Xj (HX3.o.next hb4 hk4)
 clear hb4 hk4
 go_wp2_with fail
 refine bodyPost_ret (results_none rfl _ _ _) rfl ?_
 refine⟨rfl,?_,HX4.o.wk⟩
 have:=HX4.o.bd
 rw[HV.o]
 simpa [List.append_assoc] using this
theorem xxz (h:Hd) (s:Bt):s.length<=(opd h s).length:=by unfold opd Ql;split<;>simp<;>omega
theorem Tm (h:Hd) (ar:Fo) (hkk:h.k=5) (ho0:0<=h.op) (ho1:h.op<=11) (x:Hd×Fo) (hx:ar.get 0=some x) (HJ:ar.len=1) (hE:PE x.1 x.2):PE h ar:=by
 have hv:Yw h ar=sgn h.op++opd x.1 (Yw x.1 x.2):=by
  have h1:=Qf ar 0 x hx
  have h3:=Um ar
  show Zj h (Yl ar)=_
  match hf:Yl ar,h1,h3 with
  | [q],h1,_=>simp at h1;subst h1;unfold Zj;simp[hkk]
  | [],h1,_=>simp at h1
  | _::_::_,_,h3=>simp[HJ] at h3
 have HV:=Xj hv
 have HE:=Xj hE
 have HXX:=Xj hx
 have HOP:=Xj (And.intro ho0 ho1)
 have hol:(Yw x.1 x.2).length<=(opd x.1 (Yw x.1 x.2)).length:=xxz _ _
 have hsl:=Eh h.op
 clear hE hx ho0 ho1
 intro W sl B b t ha hb hl
 rw[hv] at hl
 clear hv
 (try simp only[List.length_append,List.length_cons,List.length_nil] at hl)
 obtain⟨a,c,w1,g,rfl,hw1,hg,hX⟩:=Wu (h:=h) ha hb
 have HX:=Xj hX
 obtain⟨p0,p1,p2,p3,p4,p5⟩:=Xl hX.row
 have hlt:=hX.bd.lt
 have hjb:=hX.hc
 rw[hkk] at p0
 rw[HJ] at p5 hjb
 have HLN:=Xj HJ
 clear hX ha hb hkk HJ
 have HXd:=Xj (HX.o.below (Below.refl _ _).drew)
 go_enter Tryz.func51,Tryz.ntmps51
 go_upto_region 13 with fail
 (try rw[hw1])
 (try rw[hg])
 clear hw1 hg
 refine wp_region_held_drew (S:=(λ w'=>w'.cell? ⟨g,1,none⟩=some (.int .i64 h.op))) (by kernel_rfl) p1 (λ hJ=>?_)
 refine tkH 0 46 ?_
 refine tkH 1 47 ?_
 refine tkH 2 48 ?_
 refine tkH 3 49 ?_
 refine tkH 4 50 ?_
 refine rdH 5 λ K0 hK=>?_
 go_simp
 refine(Hh h.op HOP.o.1 HOP.o.2 _).mono ?_
 rintro e w2 ⟨rfl,hb2⟩
 have HX2:=Xj (HXd.o.below hb2)
 refine goH hK (cell_of_row _ _ 1 _ _ _ HX2.o.row) λ hJ=>?_
 clear hb2 hK K0
 refine rdH 6 λ K0 hK=>?_
 go_simp
 refine(Yp B b t _ _ HX2.o.bd (by omega)).mono ?_
 rintro e w3 ⟨rfl,hb3,hk3⟩
 have HX3:=Xj (HX2.o.next hb3 hk3)
 refine goH hK (cell_of_row _ _ 1 _ _ _ HX3.o.row) λ hJ=>?_
 clear hb3 hk3 p0 p1 p2 p3 p4 p5 hK K0
 refine wpAnyH_done (by kernel_rfl) ?_ _
 obtain⟨b0,o0,as0,cs0,rfl,HA0,k0,k1,k2,k3,k4,k5⟩:=Vx HX3.o.at' HXX.o
 obtain⟨p0,p1,p2,p3,p4,p5⟩:=Xl HX3.o.row
 rw[HLN.o] at p5
 go_wp2_with fail
 refine(Vr x.1 x.2 HE.o _ _ B b _ HA0.o HX3.o.bd (by rw[List.length_append];omega)).mono ?_
 rintro e w4 ⟨rfl,hb4,hk4⟩
 have HX4:=Xj (HX3.o.next hb4 hk4)
 clear hb4 hk4 p0 p1 p2 p3 p4 p5 k0 k1 k2 k3 k4 k5
 go_wp2_with fail
 refine bodyPost_ret (results_none rfl _ _ _) rfl ?_
 refine⟨rfl,?_,HX4.o.wk⟩
 have:=HX4.o.bd
 rw[HV.o]
 simpa [List.append_assoc] using this
theorem Od (h:Hd) (ar:Fo) (hkk:h.k=7) (x y:Hd×Fo) (hx:ar.get 0=some x) (hy:ar.get 1=some y) (HJ:ar.len=2) (hE:PE x.1 x.2) (hE2:PE y.1 y.2):PE h ar:=by
 have hv:Yw h ar=opd x.1 (Yw x.1 x.2)++([32,38,38,32]++opd y.1 (Yw y.1 y.2)):=by
  have h1:=Qf ar 0 x hx
  have h2:=Qf ar 1 y hy
  have h3:=Um ar
  show Zj h (Yl ar)=_
  match hf:Yl ar,h1,h2,h3 with
  | [q,q2],h1,h2,_=>simp at h1 h2;subst h1 h2;unfold Zj;simp[hkk]
  | [],h1,_,_=>simp at h1
  | [_],_,h2,_=>simp at h2
  | _::_::_::_,_,_,h3=>simp[HJ] at h3
 have HV:=Xj hv
 have HP:=Xj (Et h ar x y hx hy HJ hE hE2 [38,38])
 clear hE hE2 hx hy
 intro W sl B b t ha hb hl
 rw[hv] at hl
 clear hv
 (try simp only[List.length_append,List.length_cons,List.length_nil] at hl)
 obtain⟨a,c,w1,g,rfl,hw1,hg,hX⟩:=Wu (h:=h) ha hb
 have HX:=Xj hX
 obtain⟨p0,p1,p2,p3,p4,p5⟩:=Xl hX.row
 have hlt:=hX.bd.lt
 have hjb:=hX.hc
 have HKK:=Xj hkk
 rw[hkk] at p0
 clear hX ha hb hkk HJ
 have HXd:=Xj (HX.o.below (Below.refl _ _).drew)
 go_enter Tryz.func51,Tryz.ntmps51
 go_upto_region 18 with fail
 (try rw[hw1])
 (try rw[hg])
 clear hw1 hg
 rw[<- HKK.o] at p0
 go_wp2_with fail
 refine(HP.o _ _ B b t HX.o.at' HX.o.bd (by decide) (by simp only[List.length_append,List.length_cons,List.length_nil];omega)).mono ?_
 rintro e w2 ⟨rfl,hb2,hk2⟩
 have HX2:=Xj (HX.o.next hb2 hk2)
 clear hb2 hk2 p0 p1 p2 p3 p4 p5
 go_wp2_with fail
 refine bodyPost_ret (results_none rfl _ _ _) rfl ?_
 refine⟨rfl,?_,HX2.o.wk⟩
 have:=HX2.o.bd
 rw[HV.o]
 simpa [List.append_assoc] using this
theorem xzh (h:Hd) (ar:Fo) (hkk:h.k=8) (x y:Hd×Fo) (hx:ar.get 0=some x) (hy:ar.get 1=some y) (HJ:ar.len=2) (hE:PE x.1 x.2) (hE2:PE y.1 y.2):PE h ar:=by
 have hv:Yw h ar=opd x.1 (Yw x.1 x.2)++([32,124,124,32]++opd y.1 (Yw y.1 y.2)):=by
  have h1:=Qf ar 0 x hx
  have h2:=Qf ar 1 y hy
  have h3:=Um ar
  show Zj h (Yl ar)=_
  match hf:Yl ar,h1,h2,h3 with
  | [q,q2],h1,h2,_=>simp at h1 h2;subst h1 h2;unfold Zj;simp[hkk]
  | [],h1,_,_=>simp at h1
  | [_],_,h2,_=>simp at h2
  | _::_::_::_,_,_,h3=>simp[HJ] at h3
 have HV:=Xj hv
 have HP:=Xj (Et h ar x y hx hy HJ hE hE2 [124,124])
 clear hE hE2 hx hy
 intro W sl B b t ha hb hl
 rw[hv] at hl
 clear hv
 (try simp only[List.length_append,List.length_cons,List.length_nil] at hl)
 obtain⟨a,c,w1,g,rfl,hw1,hg,hX⟩:=Wu (h:=h) ha hb
 have HX:=Xj hX
 obtain⟨p0,p1,p2,p3,p4,p5⟩:=Xl hX.row
 have hlt:=hX.bd.lt
 have hjb:=hX.hc
 have HKK:=Xj hkk
 rw[hkk] at p0
 clear hX ha hb hkk HJ
 have HXd:=Xj (HX.o.below (Below.refl _ _).drew)
 go_enter Tryz.func51,Tryz.ntmps51
 go_upto_region 20 with fail
 (try rw[hw1])
 (try rw[hg])
 clear hw1 hg
 rw[<- HKK.o] at p0
 go_wp2_with fail
 refine(HP.o _ _ B b t HX.o.at' HX.o.bd (by decide) (by simp only[List.length_append,List.length_cons,List.length_nil];omega)).mono ?_
 rintro e w2 ⟨rfl,hb2,hk2⟩
 have HX2:=Xj (HX.o.next hb2 hk2)
 clear hb2 hk2 p0 p1 p2 p3 p4 p5
 go_wp2_with fail
 refine bodyPost_ret (results_none rfl _ _ _) rfl ?_
 refine⟨rfl,?_,HX2.o.wk⟩
 have:=HX2.o.bd
 rw[HV.o]
 simpa [List.append_assoc] using this
theorem Pp (h:Hd) (ar:Fo) (hkk:h.k=6) (ho0:0<=h.op) (ho1:h.op<=11) (x y:Hd×Fo) (hx:ar.get 0=some x) (hy:ar.get 1=some y) (HJ:ar.len=2) (hE:PE x.1 x.2) (hE2:PE y.1 y.2):PE h ar:=by
 have hv:Yw h ar=opd x.1 (Yw x.1 x.2)++([32]++(sgn h.op++([32]++opd y.1 (Yw y.1 y.2)))):=by
  have h1:=Qf ar 0 x hx
  have h2:=Qf ar 1 y hy
  have h3:=Um ar
  show Zj h (Yl ar)=_
  match hf:Yl ar,h1,h2,h3 with
  | [q,q2],h1,h2,_=>simp at h1 h2;subst h1 h2;unfold Zj;simp[hkk]
  | [],h1,_,_=>simp at h1
  | [_],_,h2,_=>simp at h2
  | _::_::_::_,_,_,h3=>simp[HJ] at h3
 have HV:=Xj hv
 have HP:=Xj (Et h ar x y hx hy HJ hE hE2 (sgn h.op))
 have HOP:=Xj (And.intro ho0 ho1)
 have hsl:=Eh h.op
 clear hE hE2 hx hy ho0 ho1
 intro W sl B b t ha hb hl
 rw[hv] at hl
 clear hv
 (try simp only[List.length_append,List.length_cons,List.length_nil] at hl)
 obtain⟨a,c,w1,g,rfl,hw1,hg,hX⟩:=Wu (h:=h) ha hb
 have HX:=Xj hX
 obtain⟨p0,p1,p2,p3,p4,p5⟩:=Xl hX.row
 have hlt:=hX.bd.lt
 have hjb:=hX.hc
 have HKK:=Xj hkk
 have p00:=p0
 rw[hkk] at p0
 clear hX ha hb hkk HJ
 have HXd:=Xj (HX.o.below (Below.refl _ _).drew)
 go_enter Tryz.func51,Tryz.ntmps51
 go_upto_region 16 with fail
 (try rw[hw1])
 (try rw[hg])
 clear hw1 hg
 refine wp_region_held_drew (S:=(λ w'=>w'.cell? ⟨g,0,none⟩=some (.int .i64 h.k)/\w'.cell? ⟨g,1,none⟩=some (.int .i64 h.op)/\w'.cell? ⟨g,2,none⟩=some (.int .i64 h.v)/\w'.cell? ⟨g,3,none⟩=some (.int .i64 h.ln)/\w'.cell? ⟨g,4,none⟩=some (.string (st h.nm))/\w'.cell? ⟨g,5,none⟩=some (.slice a ar.len c))) (by kernel_rfl) ⟨by rw[HKK.o];exact p0,p1,p2,p3,p4,p5⟩ (λ hJ=>?_)
 refine tkH 0 61 ?_
 refine tkH 1 62 ?_
 refine tkH 2 63 ?_
 refine tkH 3 64 ?_
 refine rdH 4 λ K0 hK=>?_
 go_simp
 refine(Hh h.op HOP.o.1 HOP.o.2 _).mono ?_
 rintro e w2 ⟨rfl,hb2⟩
 have HX2:=Xj (HXd.o.below hb2)
 refine goH hK (Xl HX2.o.row) λ hJ=>?_
 clear hb2 hK K0
 refine rdH 5 λ K0 hK=>?_
 go_simp
 refine(HP.o _ _ B b t HX2.o.at' HX2.o.bd (by omega) (by simp only[List.length_append,List.length_cons,List.length_nil];omega)).mono ?_
 rintro e w3 ⟨rfl,hb3,hk3⟩
 have HX3:=Xj (HX2.o.next hb3 hk3)
 refine goH hK (Xl HX3.o.row) λ hJ=>?_
 clear hb3 hk3 p00 p0 p1 p2 p3 p4 p5 hK K0
 refine wpAnyH_done (by kernel_rfl) ?_ _
 go_wp2_with fail
 refine bodyPost_ret (results_none rfl _ _ _) rfl ?_
 refine⟨rfl,?_,HX3.o.wk⟩
 have:=HX3.o.bd
 rw[HV.o]
 simpa [List.append_assoc] using this
theorem Cu (h:Hd) (ar:Fo) (hkk:h.k=9) (hE:∀ j x,ar.get j=some x->PE x.1 x.2) (hn:ar.len<=100000):PE h ar:=by
 have hv:Yw h ar=h.nm++Uj ((Yl ar).map (·.2)):=by show Zj h (Yl ar)=_;unfold Zj;simp[hkk]
 have HV:=Xj hv
 have HL:=Xj (Np ar hE)
 clear hE
 intro W sl B b t ha hb hl
 rw[hv] at hl
 clear hv
 (try simp only[List.length_append,List.length_cons,List.length_nil] at hl)
 obtain⟨a,c,w1,g,rfl,hw1,hg,hX⟩:=Wu (h:=h) ha hb
 have HX:=Xj hX
 obtain⟨p0,p1,p2,p3,p4,p5⟩:=Xl hX.row
 have hlt:=hX.bd.lt
 have hjb:=hX.hc
 rw[hkk] at p0
 clear hX ha hb hkk
 have HXd:=Xj (HX.o.below (Below.refl _ _).drew)
 go_enter Tryz.func51,Tryz.ntmps51
 go_upto_region 22 with fail
 (try rw[hw1])
 (try rw[hg])
 clear hw1 hg
 go_still_tail 5,(by kernel_rfl)
 change wpList _ _ _ _ _ w1.drew
 go_wp2_with fail
 refine(Yp B b t _ _ HXd.o.bd (by first|omega|(simp only[List.length_append,List.length_cons,List.length_nil] at *;omega))).mono ?_
 rintro e w2 ⟨rfl,hb2,hk2⟩
 have HX2:=Xj (HXd.o.next hb2 hk2)
 clear hb2 hk2 p0 p1 p2 p3 p4 p5
 obtain⟨p0,p1,p2,p3,p4,p5⟩:=Xl HX2.o.row
 go_wp2_with fail
 refine(HL.o _ _ _ B b _ HX2.o.at' HX2.o.bd hn (by rw[List.length_append];omega)).mono ?_
 rintro e w3 ⟨rfl,hb3,hk3⟩
 have HX3:=Xj (HX2.o.next hb3 hk3)
 clear hb3 hk3 p0 p1 p2 p3 p4 p5
 go_wp2_with fail
 refine bodyPost_ret (results_none rfl _ _ _) rfl ?_
 refine⟨rfl,?_,HX3.o.wk⟩
 have:=HX3.o.bd
 rw[HV.o]
 simpa [List.append_assoc] using this
theorem Bm {w:World} {B:Nat} {hd:Hd} {bs r:Fo} {b off c c2:Nat} (h:Xk w (λ k=>k<B) (.cons hd bs r) (.slice (some ⟨b,off,none⟩) (r.len+1) c)) (h2:r.len<=c2) (h3:c2<=maxLen):Xk w (λ k=>k<B) r (.slice (some ⟨b,off+6,none⟩) r.len c2):=by
 obtain⟨a',c',rws,e,_,_,_,h4,h5⟩:=h
 injection e with e1 e2 e3
 subst e1 e3
 obtain⟨a1,c1,rw1,cs',rfl,_,_,_,_,_,h6⟩:=h5
 refine⟨some ⟨b,off+6,none⟩,c2,cs',rfl,h2,h3,λ e=>(nomatch e),λ hne=>?_,h6⟩
 obtain⟨b',off',e,hp,hb,hc⟩:=h4 (by simp)
 injection e with e
 injection e with e1 e2
 subst e1 e2
 refine⟨b,off+6,rfl,hp,hb,λ j u hj=>?_⟩
 have:=hc (6+j) u (by
  rw[List.getElem?_append_right (by show 6<=_;omega)]
  show cs'[6+j-6]?=_
  rw[Nat.add_sub_cancel_left];exact hj)
 rw[Nat.add_assoc];exact this
theorem Oh (h:Hd) (s:Bt):enc ([5,6,7,8,13,2,3].contains h.k) s=(if h.k=13\/h.k=2\/h.k=3 then Ql (opd h s) else opd h s):=by
 unfold opd Uw enc
 by_cases h5:h.k=5
 ·simp[h5]
 by_cases h6:h.k=6
 ·simp[h6]
 by_cases h7:h.k=7
 ·simp[h7]
 by_cases h8:h.k=8
 ·simp[h8]
 by_cases h9:h.k=13
 ·simp[h9]
 by_cases h10:h.k=2
 ·simp[h10]
 by_cases h11:h.k=3
 ·simp[h11]
 simp[h5,h6,h7,h8,h9,h10,h11]
theorem Tg (h:Hd) (ar:Fo) (hkk:h.k=10) (x:Hd×Fo) (r:Fo) (har:ar=.cons x.1 x.2 r) (hE:PE x.1 x.2) (hEr:∀ j y,r.get j=some y->PE y.1 y.2) (hn:r.len<=100000):PE h ar:=by
 have hv:Yw h ar=enc ([5,6,7,8,13,2,3].contains x.1.k) (Yw x.1 x.2)++Uj ((Yl r).map (·.2)):=by
  rw[Oh]
  subst har
  show Zj h ((x.1,Zj x.1 (Yl x.2))::Yl r)=_
  show Zj h ((x.1,Yw x.1 x.2)::Yl r)=_
  generalize Yw x.1 x.2=t
  generalize Yl r=os
  unfold Zj
  simp[hkk]
 have HJ:ar.len=r.len+1:=by subst har;rfl
 have HXX:Xq (ar.get 0=some x):=Xj (by subst har;rfl)
 have HV:=Xj hv
 have HAR:=Xj har
 have HE:=Xj hE
 have HL:=Xj (Np r hEr)
 have hol:(Yw x.1 x.2).length<=(enc ([5,6,7,8,13,2,3].contains x.1.k) (Yw x.1 x.2)).length:=by
  generalize [5,6,7,8,13,2,3].contains x.1.k=q
  cases q
  ·exact Nat.le_refl _
  show _<=(Ql _).length;unfold Ql;simp;omega
 clear hE hEr har
 intro W sl B b t ha hb hl
 rw[hv] at hl
 clear hv
 (try simp only[List.length_append,List.length_cons,List.length_nil] at hl)
 obtain⟨a,c,w1,g,rfl,hw1,hg,hX⟩:=Wu (h:=h) ha hb
 have HX:=Xj hX
 obtain⟨p0,p1,p2,p3,p4,p5⟩:=Xl hX.row
 have hlt:=hX.bd.lt
 have hjb:=hX.hc
 rw[hkk] at p0
 rw[HJ] at p5 hjb
 have HLN:=Xj HJ
 clear hX ha hb hkk HJ
 have HXd:=Xj (HX.o.below (Below.refl _ _).drew)
 go_enter Tryz.func51,Tryz.ntmps51
 go_upto_region 25 with fail
 (try rw[hw1])
 (try rw[hg])
 clear hw1 hg
 obtain⟨b0,o0,as0,cs0,rfl,HA0,k0,k1,k2,k3,k4,k5⟩:=Vx HX.o.at' HXX.o
 have hb2:=Xw w1 (.cells ([5,6,7,8,13,2,3].map (Value.int .i64)).toArray 3)
 have HY:=Xj (HX.o.below hb2)
 have HAB:=Xj (HA0.o.belowB (hb2.mono (by have:=HX.o.bd.lt;omega)))
 have HK:=Xj (Ep x.1 x.2 HE.o [5,6,7,8,13,2,3] _ (.slice as0 x.2.len cs0) B b t w1.heap.size 7 HAB.o HY.o.bd (by decide) (by decide) (heap_alloc_new w1 _) (by omega))
 clear hb2
 go_wp2_with fail
 refine HK.o.mono ?_
 rintro e w3 ⟨rfl,hb3,hk3⟩
 have HX3:=Xj (HY.o.next hb3 hk3)
 clear hb3 hk3 p0 p1 p2 p3 p4 p5 k0 k1 k2 k3 k4 k5
 obtain⟨p0,p1,p2,p3,p4,p5⟩:=Xl HX3.o.row
 rw[HLN.o] at p5
 have HT:Xq (∀ c2,r.len<=c2->c2<=maxLen->Xk w3 (λ k=>k<B) r (.slice (some ⟨b0,o0+6,none⟩) r.len c2)):=Xj (λ c2 h2 h3=>Bm (hd:=x.1) (bs:=x.2) (by
  have:=HX3.o.at'
  rw[HLN.o,HAR.o] at this
  exact this) h2 h3)
 have hcc:c<=9223372036854775807:=hjb.1
 by_cases hr0:r.len=0
 ·have HL0:Xq (∀ a2 c2,c2<=9223372036854775807->Calls Tryz.prog 91 #[.pointer (some ⟨b,0,none⟩),.slice (some a2) 0 c2] w3 (WP B b ((t++enc ([5,6,7,8,13,2,3].contains x.1.k) (Yw x.1 x.2))++Uj ((Yl r).map (·.2))) w3)):=Xj (λ a2 c2 hc2=>by
   cases r with
   | nil=>exact HL.o _ _ _ B b _ ⟨_,c2,[],rfl,Nat.zero_le _,by unfold maxLen;omega,λ e=>(nomatch e),λ h=>absurd rfl h,rfl⟩ HX3.o.bd hn (by rw[List.length_append];omega)
   | cons _ _ _=>simp[Fo.len] at hr0)
  rw[hr0] at p5 hjb
  clear hr0
  go_wp2_with fail
  all_goals (
   refine(HL0.o _ _ (by omega)).mono ?_
   rintro e w4 ⟨rfl,hb4,hk4⟩
   have HX4:=Xj (HX3.o.next hb4 hk4)
   clear hb4 hk4 p0 p1 p2 p3 p4 p5
   go_wp2_with fail
   refine bodyPost_ret (results_none rfl _ _ _) rfl ?_
   refine⟨rfl,?_,HX4.o.wk⟩
   have:=HX4.o.bd
   rw[HV.o]
   simpa [List.append_assoc] using this)
 go_wp2_with fail
 all_goals first|(exfalso;omega)|skip
 refine(HL.o _ _ _ B b _ (HT.o _ (by omega) (by unfold maxLen;omega)) HX3.o.bd hn (by rw[List.length_append];omega)).mono ?_
 rintro e w4 ⟨rfl,hb4,hk4⟩
 have HX4:=Xj (HX3.o.next hb4 hk4)
 clear hb4 hk4 p0 p1 p2 p3 p4 p5
 go_wp2_with fail
 refine bodyPost_ret (results_none rfl _ _ _) rfl ?_
 refine⟨rfl,?_,HX4.o.wk⟩
 have:=HX4.o.bd
 rw[HV.o]
 simpa [List.append_assoc] using this
def prH (h:Hd) (ar:Fo):Prop :=
 (h.k=13\/h.k=2\/h.k=3)\/h.k=12\/h.k=11\/(h.k=1/\0<=h.v/\h.v<=9223372036854775807)\/(h.k=4/\ar.len=1)\/(h.k=5/\0<=h.op/\h.op<=11/\ar.len=1) \/
  (h.k=6/\0<=h.op/\h.op<=11/\ar.len=2)\/(h.k=7/\ar.len=2)\/(h.k=8/\ar.len=2)\/h.k=9\/(h.k=10/\1<=ar.len)
def Fo.pr:Fo->Prop
 | .nil=>True
 | .cons h ar r=>prH h ar/\ar.len<=100000/\ar.pr/\r.pr
theorem xvy (h:Hd) (ar:Fo) (hp:prH h ar) (hn:ar.len<=100000) (hE:∀ j x,ar.get j=some x->PE x.1 x.2):PE h ar:=by
 have g:∀ i,i<ar.len->∃ x,ar.get i=some x:=λ i hi=>Fo.get_lt hi
 rcases hp with hk|hk|hk|⟨hk,h0,h1⟩|⟨hk,hl⟩|⟨hk,h0,h1,hl⟩|⟨hk,h0,h1,hl⟩|⟨hk,hl⟩|⟨hk,hl⟩|hk|⟨hk,hl⟩
 ·exact Cw h ar h.k rfl hk
 ·exact Cv h ar hk
 ·exact Ck h ar hk
 ·exact Pb h ar hk h0 h1
 ·obtain⟨x,hx⟩:=g 0 (by omega)
  exact Ng h ar hk x hx hl (hE _ _ hx)
 ·obtain⟨x,hx⟩:=g 0 (by omega)
  exact Tm h ar hk h0 h1 x hx hl (hE _ _ hx)
 ·obtain⟨x,hx⟩:=g 0 (by omega)
  obtain⟨y,hy⟩:=g 1 (by omega)
  exact Pp h ar hk h0 h1 x y hx hy hl (hE _ _ hx) (hE _ _ hy)
 ·obtain⟨x,hx⟩:=g 0 (by omega)
  obtain⟨y,hy⟩:=g 1 (by omega)
  exact Od h ar hk x y hx hy hl (hE _ _ hx) (hE _ _ hy)
 ·obtain⟨x,hx⟩:=g 0 (by omega)
  obtain⟨y,hy⟩:=g 1 (by omega)
  exact xzh h ar hk x y hx hy hl (hE _ _ hx) (hE _ _ hy)
 ·exact Cu h ar hk hE hn
 match ar,hl,hn,hE with
 | .cons f bs r,_,hn,hE=>exact Tg h _ hk (f,bs) r rfl (hE 0 _ rfl) (λ j y hj=>hE (j+1) y hj) (by simp only[Fo.len] at hn;omega)
theorem Rt (F:Fo) (hw:F.pr):∀ j x,F.get j=some x->PE x.1 x.2:=by
 induction F with
 | nil=>intro j x h;cases h
 | cons h ar r ih1 ih2 =>
  intro j x hj
  cases j with
  | zero =>
   have e:(h,ar)=x:=by injection hj
   subst e
   exact xvy h ar hw.1 hw.2.1 (ih1 hw.2.2.1)
  | succ j=>exact ih2 hw.2.2.2 j x hj
theorem Bh (h:Hd) (ar:Fo) (hp:(Xb h ar).pr) (hl:(Yw h ar).length<=90000000) (hne:Yw h ar≠[]) (w:World) (sl:Value) (ha:Xk w (λ _=>True) ar sl) (hw:Lad w) :
  Calls Tryz.prog 16 #[exv h sl] w λ e w'=>e=.returned (.string (st (Yw h ar)))/\Below w.heap.size w w':=by
 have HE:=Xj (Rt _ hp 0 _ rfl)
 have ha2:Xk w (λ k=>k<w.heap.size) ar sl:=ha.keep (λ b _ hb=>⟨rfl,hb⟩) (Nat.le_refl _)
 have HLB:=Xj (LB.of hw)
 obtain⟨B,hB⟩:∃ B,w.heap.size=B:=⟨_,rfl⟩
 rw[hB] at ha2 HLB ⊢
 have HA:=Xj ha2
 obtain⟨a,c,rws,rfl,-⟩:=id ha2
 have hb1:=Xw w (.cells #[.int .i64 h.k,.int .i64 h.op,.int .i64 h.v,.int .i64 h.ln,.string (st h.nm),.slice a ar.len c] 37)
 have hr1:=heap_alloc_new w (.cells #[.int .i64 h.k,.int .i64 h.op,.int .i64 h.v,.int .i64 h.ln,.string (st h.nm),.slice a ar.len c] 37)
 have HNE:=Xj hne
 clear ha ha2 hp hw hne
 go_enter Tryz.func16,Tryz.ntmps16
 go_upto_region 1 with fail
 obtain⟨w1,hw1⟩:∃ W,w.alloc (.cells #[.int .i64 h.k,.int .i64 h.op,.int .i64 h.v,.int .i64 h.ln,.string (st h.nm),.slice a ar.len c] 37)=W:=⟨_,rfl⟩
 rw[hw1] at hb1 hr1
 (try rw[hw1])
 rw[hB] at hb1 hr1
 (try rw[hB])
 have hlt:=Xv hr1
 have HB1:=Xj hb1
 have HR1:=Xj hr1
 have hs1:w1.heap.size=B+1:=by rw[<- hw1,<- hB];simp
 clear hw1 hB hr1 hb1
 have hb2:=Xw w1 (.cells #[.pointer none,.slice none 0 0] 78)
 have hr2:=heap_alloc_new w1 (.cells #[.pointer none,.slice none 0 0] 78)
 rw[hs1] at hr2
 have HD2:Xq (Bd B (B+1) [] (w1.alloc (.cells #[.pointer none,.slice none 0 0] 78))):=Xj ⟨.inl ⟨by omega,.slice none 0 0,hr2,⟨rfl,.inl ⟨rfl,rfl⟩⟩,by simp[Value.ownBlock]⟩,HLB.o.below (HB1.o.trans (hb2.mono (by omega)))⟩
 have HA2:=Xj (HA.o.belowB (HB1.o.trans (hb2.mono (by omega))))
 have HB2:=Xj (HB1.o.trans (hb2.mono (by omega)))
 have HR2:=(hb2.block B hlt).trans HR1.o
 obtain⟨p0,p1,p2,p3,p4,p5⟩:=Xl HR2
 go_upto_region 2 with fail
 obtain⟨w2,hw2⟩:∃ W,w1.alloc (.cells #[.pointer none,.slice none 0 0] 78)=W:=⟨_,rfl⟩
 rw[hw2] at HD2 HA2 HB2 p0 p1 p2 p3 p4 p5 ⊢
 clear hw2 hb2 hr2 HR2 hlt hs1
 go_wp2_with fail
 refine(HE.o _ _ B (B+1) [] HA2.o HD2.o (by simpa using hl)).mono ?_
 rintro e w3 ⟨rfl,hb3,hk3⟩
 rw[List.nil_append] at hb3
 have HD3:=Xj hb3
 have HB3:=Xj (HB2.o.trans hk3.be)
 clear hb3 hk3 p0 p1 p2 p3 p4 p5
 go_wp2_with fail
 refine(Sz B (B+1) _ _ HD3.o.bw HNE.o).mono ?_
 rintro e w4 ⟨rfl,hb4⟩
 have HB4:=Xj (HB3.o.trans hb4)
 clear hb4
 go_wp2_with fail
 refine bodyPost_ret (v:=.string (st (Yw h ar))) (by simp[results,Tryz.results16,go_sem]) rfl ?_
 exact⟨rfl,HB4.o⟩
end Go.Proofs.YtldgghnjminhiaaGreatDoor
