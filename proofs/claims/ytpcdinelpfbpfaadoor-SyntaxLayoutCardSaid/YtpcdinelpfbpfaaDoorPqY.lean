/-
  WALK of the implementation's Parse. (Filled in from a template of this repo, printed by mk_pqy.py.)
-/
import Derived.Test.YtpcdinelpfbpfaaDoorPqX
import Derived.Test.YtpcdinelpfbpfaaDoorPsE
namespace Go.Proofs.YtpcdinelpfbpfaaDoor
open Go.ChangeShapes Go.WideShapes Go.ChangeAt Go.RowKit
set_option linter.unusedVariables false
set_option linter.unusedSimpArgs false

def PaRes (y:PO) (w w':World) (e:Ending):Prop :=
 (∃ (gs:List (Bt×Int)) (fs:List Fu) (wr:Int) (r:List Tk) (va vb:Value),y=.ok gs fs wr r /\ ¬ 0<wr/\SoAt w' (fun b=>w.heap.size<=b) gs fs va vb/\e=.returned (.tuple #[sov va vb,.int .i64 0,.int .i64 0])) \/
 (∃ (gs:List (Bt×Int)) (fs:List Fu) (wr:Int) (r:List Tk),y=.ok gs fs wr r/\0<wr/\e=.returned (.tuple #[sov nilS nilS,.int .i64 wr,.int .i64 1])) \/
 (∃ r,y=.bad r/\e=.returned (.tuple #[sov nilS nilS,.int .i64 (lnOf r),.int .i64 7]))
def PaPost (l:Bt) (w:World) (e:Ending) (w':World):Prop:=Below w.heap.size w w' /\
 ((65536<l.length/\e=.returned (.tuple #[sov nilS nilS,.int .i64 0,.int .i64 5])) \/
  (l.length<=65536/\(scan l).1=none/\e=.returned (.tuple #[sov nilS nilS,.int .i64 (scan l).2,.int .i64 6])) \/
  (l.length<=65536 /\ ∃ (ts:List Tk) (y:PO),(scan l).1=some ts/\Hid (So 0 [] [] ts y/\PaRes y w w' e)))
theorem pa_fin {w wx:World} {gR:Nat} {va vb:Value} (R:Lo wx gR va vb) (B:Below w.heap.size w wx) (h:w.heap.size<=gR) (a b:Value) (W:World) (hW:W=(wx.setCell ⟨gR,0,none⟩ a).setCell ⟨gR,1,none⟩ b):Lo W gR a b/\Below w.heap.size w W /\ ∀ k,k≠gR->W.heap[k]?=wx.heap[k]?:=by
 subst hW
 exact⟨R.s2 a b,(B.setCell (p:=⟨gR,0,none⟩) h a).setCell (p:=⟨gR,1,none⟩) h b,fun k hk=>(heap_setCell_other _ _ _ _ (by show k≠gR;exact hk)).trans (heap_setCell_other _ _ _ _ (by show k≠gR;exact hk))⟩
theorem SoAt.gr {w wx:World} {P Q:Nat->Prop} {g:Nat} {gs:List (Bt×Int)} {fs:List Fu} {va vb:Value} (h:SoAt w P gs fs va vb) (hk : ∀ k,k≠g->wx.heap[k]?=w.heap[k]?) (hs:w.heap.size<=wx.heap.size) (hP : ∀ b,P b->b≠g/\Q b):SoAt wx Q gs fs va vb:=h.keep (fun b hb _=>⟨hk b (hP b hb).1,(hP b hb).2⟩) hs
set_option maxRecDepth 100000 in
set_option maxHeartbeats 8000000 in
theorem Parse_any (T:Bt) (hT:T.length<=281474976710656) (w:World) (hw:Lad w):Calls Tryd.prog 8 #[.string (st T)] w (PaPost T w):=by
 have HW:=Lib.hid (hw.below (below_alloc w zsrc))
 have HR1:=Lib.hid (Lo.zero w)
 have HTl:=Lib.hid hT
 have HB1:=Lib.hid (below_alloc w zsrc)
 clear hw hT
 go_enter Tryd.func8,Tryd.ntmps8
 go_upto_region 1 with fail
 obtain⟨w1,hw1⟩ : ∃ W,w.alloc zsrc=W:=⟨_,rfl⟩
 obtain⟨gR,hgR⟩ : ∃ x,w.heap.size=x:=⟨_,rfl⟩
 (try rw [show w.alloc (.cells #[.slice none 0 0,.slice none 0 0] 32)=w1 from hw1])
 rw [hw1] at HW HR1 HB1
 rw [hgR] at HR1
 (try rw [hgR])
 have HGR:=Lib.hid hgR
 have HS1:Hid (w1.heap.size=gR+1):=Lib.hid (by rw [<- hw1,<- hgR];simp)
 clear hw1 hgR
 go_wp2_with fail
 refine(Scan_any (st T) (by show T.length<=_;exact HTl.out) _ HW.out).mono ?_
 rintro e w2 ⟨hb2,hp⟩
 have ed:(st T).data.toList=T:=by simp
 rw [ed] at hp
 have HR2:=Lib.hid (HR1.out.be hb2)
 have HB2:=Lib.hid (HB1.out.trans (hb2.mono HB1.out.size))
 have HS2:Hid (gR<w2.heap.size):=Lib.hid (by have:=HS1.out;have:=hb2.size;omega)
 clear hb2 ed
 rcases hp with⟨hbig,rfl⟩ | ⟨hle,hsc,rfl⟩ | ⟨hle,ts,v,hsc,rfl,hown⟩
 ·have HX:=Lib.hid hbig
  clear hbig
  obtain⟨y0,y1⟩:=HR2.out.cells
  obtain⟨g0,g1⟩:=HR2.out.froz
  have hlR:=HR2.out.lt
  have hfin:=pa_fin HR2.out HB2.out (by have:=HGR.out;omega) nilS nilS
  go_wp2_with fail
  obtain⟨wz,hwz⟩ : ∃ W,(w2.setCell ⟨gR,0,none⟩ nilS).setCell ⟨gR,1,none⟩ nilS=W:=⟨_,rfl⟩
  (try rw [hwz])
  obtain⟨hd,hbz,hkz⟩:=hfin wz hwz.symm
  obtain⟨d0,d1⟩:=hd.cells
  clear hfin
  refine bodyPost_ret (v:=.tuple #[sov nilS nilS,.int .i64 0,.int .i64 5]) (by simp [results,Tryd.results8,go_sem,d0,d1]) rfl ?_
  exact⟨hbz,.inl ⟨HX.out,rfl⟩⟩
 ·have HX:=Lib.hid (And.intro hle hsc)
  clear hle hsc
  obtain⟨y0,y1⟩:=HR2.out.cells
  obtain⟨g0,g1⟩:=HR2.out.froz
  have hlR:=HR2.out.lt
  have hfin:=pa_fin HR2.out HB2.out (by have:=HGR.out;omega) nilS nilS
  go_wp2_with fail
  obtain⟨wz,hwz⟩ : ∃ W,(w2.setCell ⟨gR,0,none⟩ nilS).setCell ⟨gR,1,none⟩ nilS=W:=⟨_,rfl⟩
  (try rw [hwz])
  obtain⟨hd,hbz,hkz⟩:=hfin wz hwz.symm
  obtain⟨d0,d1⟩:=hd.cells
  clear hfin
  refine bodyPost_ret (v:=.tuple #[sov nilS nilS,.int .i64 (scan T).2,.int .i64 6]) (by simp [results,Tryd.results8,go_sem,d0,d1]) rfl ?_
  exact⟨hbz,.inr (.inl ⟨HX.out.1,HX.out.2,rfl⟩)⟩
 ·have hL:=scan_len hsc
  obtain⟨al,cl,rfl,_,hc1,hc2,htl,hbl⟩:=Tks.of_own hown
  have HX:=Lib.hid (And.intro hle hsc)
  have HAL:Hid (∀ x,al=some x->x.block≠gR):=Lib.hid (fun x hx=>by have:=hbl x hx;have:=HS1.out;omega)
  have HP:Hid (∀ W g,W=w2.alloc (.cells #[.slice al ts.length cl,.int .i64 0,.int .i64 0] 52)->g=w2.heap.size->PAt W ⟨g,al,cl,ts,0⟩ 0 ts):=Lib.hid (fun W g hW hg=>by
   subst hW
   subst hg
   exact⟨heap_alloc_new w2 _,htl.below (below_alloc w2 _),fun x hx=>by obtain⟨b,off,e2,hb,_⟩:=htl 0 (hdT ts) (by obtain⟨x,r,e⟩:=hL.2.cons;rw [e];rfl);rw [e2] at hx;injection hx with hx;subst hx;show b≠w2.heap.size;omega,by simp,hL.2,⟨hc1,hc2⟩,by show ts.length<=100000;have:=hL.1;omega⟩)
  have HR3:=Lib.hid (HR2.out.al (.cells #[.slice al ts.length cl,.int .i64 0,.int .i64 0] 52))
  have HB3:=Lib.hid (HB2.out.alloc (by exact HB2.out.size) (.cells #[.slice al ts.length cl,.int .i64 0,.int .i64 0] 52))
  clear hL hc1 hc2 htl hbl hle hsc hown
  go_upto_region 5 with fail
  obtain⟨w3,hw3⟩ : ∃ W,w2.alloc (.cells #[.slice al ts.length cl,.int .i64 0,.int .i64 0] 52)=W:=⟨_,rfl⟩
  obtain⟨g,hg⟩ : ∃ x,w2.heap.size=x:=⟨_,rfl⟩
  have HP3:=Lib.hid (HP.out w3 g hw3.symm hg.symm)
  (try rw [hw3])
  rw [hw3] at HR3 HB3
  (try rw [hg])
  have HG3:Hid (gR<g):=Lib.hid (by have:=HS2.out;omega)
  clear HP hw3 hg
  go_wp2_with fail
  refine(source_any ⟨g,al,cl,ts,0⟩ 0 ts _ HP3.out).mono ?_
  rintro e w4 ⟨ga,gn,gc,fa,fn,fc,wr,ok,at2,r,rfl,hp4,hg4,hres⟩
  have hgl:gR<g:=HG3.out
  have HR4:=Lib.hid (HR3.out.grw hg4 (by intro e;injection e with e;have e2:g=gR:=e;omega))
  have HB4:Hid (Below w.heap.size w w4):=Lib.hid (below_of_gr (g:=g) ⟨hg4.os.trans HB3.out.os,hg4.tape.trans HB3.out.tape,hg4.output.trans HB3.out.output,Nat.le_trans HB3.out.size hg4.size,fun k hk hn=>(hg4.block k (by have:=HB3.out.size;omega) hn).trans (HB3.out.block k hk)⟩ (by have:=HGR.out;omega))
  have HSZ:=Lib.hid (And.intro HB3.out.size HGR.out)
  have HS3:Hid (gR<w3.heap.size):=Lib.hid HR3.out.lt
  obtain⟨y0,y1⟩:=HR4.out.cells
  obtain⟨g0,g1⟩:=HR4.out.froz
  have hlR:=HR4.out.lt
  have hfin:=pa_fin HR4.out HB4.out (by have:=HGR.out;omega) (.slice ga gn gc) (.slice fa fn fc)
  have HP5:Hid (PAt ((w4.setCell ⟨gR,0,none⟩ (.slice ga gn gc)).setCell ⟨gR,1,none⟩ (.slice fa fn fc)) ⟨g,al,cl,ts,wr⟩ at2 r):=Lib.hid ((hp4.sc1 (b:=gR) (o:=0) ⟨by show gR≠g;omega,HAL.out⟩ _).sc1 (b:=gR) (o:=1) ⟨by show gR≠g;omega,HAL.out⟩ _)
  have HRES:=Lib.hid (hres.out)
  clear hp4 hg4 hres HP3 HR3 HB3
  obtain⟨⟨rk,rn,rv,rt⟩,r1,hr1⟩:=HP5.out.en.cons
  have HKR:Hid (lnOf r=rn):=Lib.hid (by rw [hr1];rfl)
  go_upto_block 0 with fail
  obtain⟨w5,hw5⟩ : ∃ W,(w4.setCell ⟨gR,0,none⟩ (.slice ga gn gc)).setCell ⟨gR,1,none⟩ (.slice fa fn fc)=W:=⟨_,rfl⟩
  (try rw [hw5])
  rw [hw5] at HP5
  obtain⟨hr5,hb5,hk5⟩:=hfin w5 hw5.symm
  have HR5:=Lib.hid hr5
  have HB5:=Lib.hid hb5
  have HK5:Hid (∀ gs fs,SoAt w4 (fun b=>w3.heap.size<=b) gs fs (.slice ga gn gc) (.slice fa fn fc)->SoAt w5 (fun b=>w.heap.size<=b/\b≠gR) gs fs (.slice ga gn gc) (.slice fa fn fc)):=Lib.hid (fun gs fs h=>h.gr hk5 (by rw [<- hw5];simp [World.setCell]) (fun b hb=>by have:=HSZ.out;have:=HS3.out;exact⟨by omega,by omega,by omega⟩))
  clear hw5 hfin hr5 hb5 hk5 y0 y1 g0 g1 hlR HR4 HB4
  have hfd1 : ∀ W:World,(Instr.field 56 (.agg #[.int .i64 rk,.int .i64 rn,.int .i64 rv,.string (st rt)]) 1).run Tryd.prog W=.ok (.int .i64 rn) W:=fun _=>by kernel_rfl
  cases ok
  ·have HBD:Hid (So 0 [] [] ts (.bad r)):=Lib.hid (by
    rcases HRES.out with⟨h1,_⟩ | ⟨_,h1⟩
    ·cases h1
    ·exact h1)
   go_wp2_with fail
   refine(look_at ⟨g,al,cl,ts,wr⟩ at2 rk rn rv rt r1 _ (hr1▸HP5.out)).mono ?_
   rintro e w6 ⟨rfl,hb⟩
   have HR6:=Lib.hid (HR5.out.be hb)
   have HB6:=Lib.hid (HB5.out.trans (hb.mono HB5.out.size))
   clear hb
   obtain⟨y0,y1⟩:=HR6.out.cells
   obtain⟨g0,g1⟩:=HR6.out.froz
   have hlR:=HR6.out.lt
   have hfin:=pa_fin HR6.out HB6.out (by have:=HGR.out;omega) nilS nilS
   go_wp2_with fail
   obtain⟨wz,hwz⟩ : ∃ W,(w6.setCell ⟨gR,0,none⟩ nilS).setCell ⟨gR,1,none⟩ nilS=W:=⟨_,rfl⟩
   (try rw [hwz])
   obtain⟨hd,hbz,hkz⟩:=hfin wz hwz.symm
   obtain⟨d0,d1⟩:=hd.cells
   clear hfin
   refine bodyPost_ret (v:=.tuple #[sov nilS nilS,.int .i64 rn,.int .i64 7]) (by simp [results,Tryd.results8,go_sem,d0,d1]) rfl ?_
   exact⟨hbz,.inr (.inr ⟨HX.out.1,ts,_,HX.out.2,Lib.hid ⟨HBD.out,.inr (.inr ⟨r,rfl,by rw [HKR.out]⟩)⟩⟩)⟩
  ·obtain⟨gs,fs,hso,hsa⟩ : ∃ gs fs,So 0 [] [] ts (.ok gs fs wr r)/\SoAt w4 (fun b=>w3.heap.size<=b) gs fs (.slice ga gn gc) (.slice fa fn fc):=by
    rcases HRES.out with⟨_,h1⟩ | ⟨h1,_⟩
    ·exact h1
    ·cases h1
   have HSO:=Lib.hid hso
   have HSA:=Lib.hid (HK5.out _ _ hsa)
   clear hso hsa hr1
   obtain⟨-,-,p2,-,f2,hlp⟩:=HP5.out.cells
   (try dsimp only at p2 f2 hlp)
   by_cases hq:0<wr
   ·have dq:decide (0<wr)=true:=decide_eq_true hq
    have dq2:decide (wr > 0)=true:=decide_eq_true hq
    have HQ:=Lib.hid hq
    clear hq
    go_upto_region 9 with fail
    obtain⟨wd,hwd⟩ : ∃ W,w5.drew=W:=⟨_,rfl⟩
    have HRd:=Lib.hid (show Lo wd gR (.slice ga gn gc) (.slice fa fn fc) by rw [<- hwd];exact HR5.out)
    have HBd:=Lib.hid (show Below w.heap.size w wd by rw [<- hwd];exact HB5.out.drew)
    have hgl2:gR≠g:=by have:=HG3.out;omega
    refine wp_region_held_drew (S:=(fun w'=>w'.cell? ⟨g,2,none⟩=some (.int .i64 wr))) (by kernel_rfl) (by rw [hwd,<- hwd];exact p2) (fun hHeld=>?_)
    rw [hwd] at hHeld ⊢
    clear hwd p2 f2 hlp
    obtain⟨y0,y1⟩:=HRd.out.cells
    obtain⟨g0,g1⟩:=HRd.out.froz
    have hlR:=HRd.out.lt
    refine tkH 0 40 ?_
    refine tkH 1 41 ?_
    refine tkH 2 42 ?_
    refine tkH 3 43 ?_
    refine tkH 4 44 ?_
    refine rdH 5 fun K0 hK=>?_
    go_simp
    refine goH hK (cell_setn _ (by omega) (cell_setn _ (by omega) hHeld)) fun hHeld=>?_
    clear hK K0
    refine tkH 6 3 ?_
    refine tkH 7 4 ?_
    refine wpAnyH_done (by kernel_rfl) ?_ _
    (try simp only [Act.put,List.setIfInBounds_toArray,List.set_cons_zero,List.set_cons_succ])
    clear y0 y1 g0 g1 hlR hHeld
    have hfin:=pa_fin HRd.out HBd.out (by have:=HGR.out;omega) nilS nilS
    obtain⟨wz,hwz⟩ : ∃ W,(wd.setCell ⟨gR,0,none⟩ nilS).setCell ⟨gR,1,none⟩ nilS=W:=⟨_,rfl⟩
    (try rw [hwz])
    obtain⟨hd,hbz,hkz⟩:=hfin wz hwz.symm
    obtain⟨d0,d1⟩:=hd.cells
    clear hfin
    go_wp2_with fail
    refine bodyPost_ret (v:=.tuple #[sov nilS nilS,.int .i64 wr,.int .i64 1]) (by simp [results,Tryd.results8,go_sem,d0,d1]) rfl ?_
    exact⟨hbz,.inr (.inr ⟨HX.out.1,ts,_,HX.out.2,Lib.hid ⟨HSO.out,.inr (.inl ⟨gs,fs,wr,r,rfl,HQ.out,rfl⟩)⟩⟩)⟩
   ·have dq:decide (0<wr)=false:=decide_eq_false hq
    have dq2:decide (wr > 0)=false:=decide_eq_false hq
    have HQ:=Lib.hid hq
    clear hq
    obtain⟨y0,y1⟩:=HR5.out.cells
    obtain⟨g0,g1⟩:=HR5.out.froz
    have hlR:=HR5.out.lt
    have hfin:=pa_fin HR5.out HB5.out (by have:=HGR.out;omega) (.slice ga gn gc) (.slice fa fn fc)
    go_wp2_with fail
    obtain⟨wz,hwz⟩ : ∃ W,(w5.setCell ⟨gR,0,none⟩ (.slice ga gn gc)).setCell ⟨gR,1,none⟩ (.slice fa fn fc)=W:=⟨_,rfl⟩
    (try rw [hwz])
    obtain⟨hd,hbz,hkz⟩:=hfin wz hwz.symm
    obtain⟨d0,d1⟩:=hd.cells
    clear hfin
    refine bodyPost_ret (v:=.tuple #[sov (.slice ga gn gc) (.slice fa fn fc),.int .i64 0,.int .i64 0]) (by simp [results,Tryd.results8,go_sem,d0,d1]) rfl ?_
    exact⟨hbz,.inr (.inr ⟨HX.out.1,ts,_,HX.out.2,Lib.hid ⟨HSO.out,.inl ⟨gs,fs,wr,r,_,_,rfl,by have:=HQ.out;omega,HSA.out.gr hkz (by rw [<- hwz];simp [World.setCell]) (fun b hb=>⟨hb.2,hb.1⟩),rfl⟩⟩⟩)⟩
end Go.Proofs.YtpcdinelpfbpfaaDoor
