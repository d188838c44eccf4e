/-
  WORDS, PLAIN LAWS and WALKS (PqS PqJ PqG PqF PqO PqX PsE), pressed. (Filled in from templates of this repo.)
-/
import Derived.Test.YtldgghnjminhiaaGreatDoorG10
namespace Go.Proofs.YtldgghnjminhiaaGreatDoor
open Go Go.ChangeAt Go.ChangeShapes Go.RowKit Go.WideShapes
set_option linter.unusedVariables false
set_option linter.unusedSimpArgs false
set_option maxRecDepth 100000
set_option maxHeartbeats 16000000
section
structure SD (K:PC) (w:World) (gR gs:Nat) (k ln:Int) (nm:Bt) (vx:Value) (nn:Nat) (xs:List Value) (at2:Nat) (r:List Tk) (wx:World):Prop where
 ms:MS K w wx at2 r
 rc:Ls wx gR 0 0 [] Yk Yk Yk
 sc:Ls wx gs k ln nm vx Yk Yk
 own:wx.ownsRow w.heap.size 37 6 vx nn xs
 ne:w.heap.size<=gR/\gR<gs/\vx.ownBlock≠some gR/\vx.ownBlock≠some gs
def FS (w:World) (gR gs:Nat) (vx:Value) (nn:Nat) (xs:List Value) (F:Fo) (wx:World):Prop:=Zb wx (λ b=>w.heap.size<=b/\b≠gR/\b≠gs/\some b≠vx.ownBlock) F xs/\F.len=nn
section
variable {K:PC} {w wx wy:World} {gR gs:Nat} {k ln:Int} {nm:Bt} {vx:Value} {nn:Nat} {xs:List Value} {at2 at3:Nat} {r r3:List Tk} {F:Fo}
theorem SD.gr (d:SD K w gR gs k ln nm vx nn xs at2 r wx) (hp:PAt wy K at3 r3) (hg:wx.grownBy wy (some K.g)):SD K w gR gs k ln nm vx nn xs at3 r3 wy:=by
 have hl:=d.ms.gl
 obtain⟨n1,n2,n3,n4⟩:=d.ne
 exact⟨d.ms.call hp hg,d.rc.grw hg (by intro e;injection e with e;omega),d.sc.grw hg (by intro e;injection e with e;omega),Yx d.own hg hl,d.ne⟩
theorem SD.be (d:SD K w gR gs k ln nm vx nn xs at2 r wx) (hb:Below wx.heap.size wx wy):SD K w gR gs k ln nm vx nn xs at2 r wy:=d.gr (d.ms.be hb).pat (Xm hb _)
theorem SD.sk (d:SD K w gR gs k ln nm vx nn xs at2 r wx) (k2:Int):SD K w gR gs k2 ln nm vx nn xs at2 r (wx.setCell ⟨gs,0,none⟩ (.int .i64 k2)):=by
 obtain⟨n1,n2,n3,n4⟩:=d.ne
 exact⟨d.ms.sc (p:=⟨gs,0,none⟩) (by show _<=gs;omega) _,d.rc.s1 (p:=⟨gs,0,none⟩) (by show gR≠gs;omega),d.sc.sk k2,d.own.kept (Xu wx gs 0 _) (.inr n4),d.ne⟩
theorem SD.sn (d:SD K w gR gs k ln nm vx nn xs at2 r wx) (m2:Bt):SD K w gR gs k ln m2 vx nn xs at2 r (wx.setCell ⟨gs,2,none⟩ (.string (st m2))):=by
 obtain⟨n1,n2,n3,n4⟩:=d.ne
 exact⟨d.ms.sc (p:=⟨gs,2,none⟩) (by show _<=gs;omega) _,d.rc.s1 (p:=⟨gs,2,none⟩) (by show gR≠gs;omega),d.sc.sn m2,d.own.kept (Xu wx gs 2 _) (.inr n4),d.ne⟩
theorem SD.vl (d:SD K w gR gs k ln nm vx nn xs at2 r wx) {g9 c9:Nat} {ys:List Value} (hM:MS K w wy at3 r3) (hL:Ls wy gs k ln nm (.slice (some ⟨g9,0,none⟩) (nn+1) c9) Yk Yk) (hO:wy.ownsRow w.heap.size 37 6 (.slice (some ⟨g9,0,none⟩) (nn+1) c9) (nn+1) ys)
  (hg:vx.ownBlock=some g9\/wx.heap.size<=g9) (hfr:∀ b,b<wx.heap.size->b≠K.g->b≠gs->some b≠vx.ownBlock->wy.heap[b]?=wx.heap[b]?):SD K w gR gs k ln nm (.slice (some ⟨g9,0,none⟩) (nn+1) c9) (nn+1) ys at3 r3 wy:=by
 obtain⟨n1,n2,n3,n4⟩:=d.ne
 have hl:=d.ms.gl
 have h1:=d.rc.lt
 have h2:=d.sc.lt
 refine⟨hM,(hfr gR h1 (by omega) (by omega) (λ e=>n3 e.symm)).trans d.rc,hL,hO,n1,n2,?_,?_⟩
 ·show some g9≠some gR
  rcases hg with e|e
  ·rw[<- e];exact n3
  simp;omega
 show some g9≠some gs
 rcases hg with e|e
 ·rw[<- e];exact n4
 simp;omega
theorem FS.vl (f:FS w gR gs vx nn xs F wx) (d:SD K w gR gs k ln nm vx nn xs at2 r wx) {g9 c9:Nat} {h:Hd} {s:Value} {ar:Fo} (ha:Xk wy (λ b=>wx.heap.size<=b/\b≠g9) ar s) (hsz:wx.heap.size<=wy.heap.size)
  (hg:vx.ownBlock=some g9\/wx.heap.size<=g9) (hfr:∀ b,b<wx.heap.size->b≠K.g->b≠gs->some b≠vx.ownBlock->wy.heap[b]?=wx.heap[b]?):FS w gR gs (.slice (some ⟨g9,0,none⟩) (nn+1) c9) (nn+1) (xs++hdc h s) (F.app (Xb h ar)) wy:=by
 have hl:=d.ms.gl
 have hs:=d.ms.gr.size
 have h1:=d.rc.lt
 have h2:=d.sc.lt
 refine⟨Zb.app (f.1.keep (λ b hb hlt=>⟨hfr b hlt (by have:=hb.1;omega) hb.2.2.1 hb.2.2.2,hb.1,hb.2.1,hb.2.2.1,?_⟩) hsz) (Xk.one (Xg ha (λ b hb _=>⟨by omega,by omega,by omega,?_⟩))),by rw[Fo.len_app,f.2];rfl⟩
 ·show some b≠some g9
  rcases hg with e|e
  ·rw[<- e];exact hb.2.2.2
  simp;omega
 show some b≠some g9
 simp
 exact hb.2
theorem SD.args (d:SD K w gR gs k ln nm vx nn xs at2 r wx) (f:FS w gR gs vx nn xs F wx):Xk wx (λ b=>w.heap.size<=b/\b≠gR) F vx :=
 Xk.of_own (e:=37) (size:=6) (base:=w.heap.size) (by rw[f.2];exact d.own) (f.1.keep (λ b hb _=>⟨rfl,hb.1,hb.2.1⟩) (Nat.le_refl _)) (λ b hb=>⟨(d.own.lt b hb).1,λ e=>d.ne.2.2.1 (by rw[hb,e])⟩)
end
theorem Fc (m:Nat) (hB:∀ j,j<m->CBl j):CSt m:=by
 intro K at_ rest w hP hm
 have HM1:=Xj ((MS.init hP).al Tp)
 have HR1:=Xj (Ls.zero w)
 have HB:=Xj hB
 have HMm:=Xj hm
 obtain⟨⟨tk,tn,tv,tt⟩,r0,hr0⟩:=hP.en.cons
 have HX0:=Xj hr0
 have HLN:Xq (Yb rest=tn):=Xj (by rw[hr0];rfl)
 have HRT:Xq (rest.tail.length<rest.length):=Xj (by rw[hr0];simp)
 have hfd:∀ W:World,(Instr.field 103 (.agg #[.int .i64 tk,.int .i64 tn,.int .i64 tv,.string (st tt)]) 1).run Tryz.prog W=.ok (.int .i64 tn) W:=λ _=>by kernel_rfl
 clear hB hP hm hr0
 go_enter Tryz.func171,Tryz.ntmps171
 go_upto_region 1 with fail
 obtain⟨w1,hw1⟩:∃ W,w.alloc Tp=W:=⟨_,rfl⟩
 obtain⟨gR,hgR⟩:∃ x,w.heap.size=x:=⟨_,rfl⟩
 (try rw[show w.alloc (.cells #[.int .i64 0,.int .i64 0,.string { data := #[] },.slice none 0 0,.slice none 0 0,.slice none 0 0] 110)=w1 from hw1])
 rw[hw1] at HM1 HR1
 rw[hgR] at HR1
 (try rw[hgR])
 have HGR:=Xj hgR
 clear hw1 hgR
 go_wp2_with fail
 refine(Zn K at_ tk tn tv tt r0 w1 (HX0.o▸HM1.o.pat)).mono ?_
 rintro e w2 ⟨rfl,hb2⟩
 have HD3:Xq (SD K w gR w2.heap.size 0 tn [] Yk 0 [] at_ rest (w2.alloc (.cells (scs 0 tn [] Yk Yk Yk) 110))):=Xj ⟨(HM1.o.be hb2).al _,(HR1.o.be hb2).al _,Ls.new w2 0 tn [] Yk Yk Yk,World.ownsRow_nil _ _ _ _,by have:=HGR.o;omega,(HR1.o.be hb2).lt,(λ e=>nomatch e),(λ e=>nomatch e)⟩
 clear hb2 HM1 HR1
 go_upto_block 0 with fail
 obtain⟨w3,hw3⟩:∃ W,w2.alloc (.cells (scs 0 tn [] Yk Yk Yk) 110)=W:=⟨_,rfl⟩
 obtain⟨gs,hgs⟩:∃ x,w2.heap.size=x:=⟨_,rfl⟩
 (try rw[show w2.alloc (.cells #[.int .i64 0,.int .i64 tn,.string { data := #[] },.slice none 0 0,.slice none 0 0,.slice none 0 0] 110)=w3 from hw3])
 rw[hw3,hgs] at HD3
 (try rw[hgs])
 clear hw3 hgs
 go_cut [5] from 10 to 83 (λ _ wx=>∃ (k:Int) (nm:Bt) (ax:Option Addr) (nx cx:Nat) (xs:List Value) (F:Fo) (at4:Nat) (r4:List Tk),Xq (SD K w gR gs k tn nm (.slice ax nx cx) nx xs at4 r4 wx/\FS w gR gs (.slice ax nx cx) nx xs F wx/\nx<=1/\r4.length<rest.length/\(∀ y,Ps .ex r4 y->Qs .st rest (Dr k tn nm F y))))
 case first =>
  go_wp2_with fail
  refine(Xn K (at_) rest [118,97,114] _ HD3.o.ms.pat).mono ?_
  rintro e w4 ⟨at5,r5,rfl,hp5,hg5,hc5⟩
  have HD4:=Xj (HD3.o.gr hp5 hg5)
  clear hp5 hg5 HD3
  rcases hc5 with⟨hT,ha5,hr5⟩|⟨hT,ha5,hr5⟩<;>subst at5 r5
  ·have HV:=Xj hT
   (try rw[hT])
   clear hT
   obtain⟨s0,s1,s2,s3,s4,s5⟩:=HD4.o.sc.cells
   obtain⟨j0,j1,j2,j3,j4,j5⟩:=HD4.o.sc.froz
   have hlS:=HD4.o.sc.lt
   have HD6:=Xj (HD4.o.sk 1)
   go_upto_region 15 with fail
   obtain⟨w6,hwy⟩:∃ W,w4.setCell ⟨gs,0,none⟩ (.int .i64 1)=W:=⟨_,rfl⟩
   (try rw[hwy])
   rw[hwy] at HD6
   clear hwy s0 s1 s2 s3 s4 s5 j0 j1 j2 j3 j4 j5 hlS HD4
   go_wp2_with fail
   refine(Vz K (at_+1) rest.tail _ HD6.o.ms.pat).mono ?_
   rintro e w7 ⟨at7,r7,hp7,hg7,hc7⟩
   have HD7:=Xj (HD6.o.gr hp7 hg7)
   clear hp7 hg7 HD6
   obtain⟨nm,hnm⟩:∃ x,tOf rest.tail=x:=⟨_,rfl⟩
   have HNM:=Xj hnm
   (try rw[hnm] at hc7)
   clear hnm
   rcases hc7 with⟨hk1,rfl,ha7,hr7⟩|⟨hk1,rfl,ha7,hr7⟩<;>subst at7 r7
   ·have HK1:=Xj hk1
    clear hk1
    obtain⟨s0,s1,s2,s3,s4,s5⟩:=HD7.o.sc.cells
    obtain⟨j0,j1,j2,j3,j4,j5⟩:=HD7.o.sc.froz
    have hlS:=HD7.o.sc.lt
    have HD8:=Xj (HD7.o.sn nm)
    go_upto_region 16 with fail
    obtain⟨w8,hwy⟩:∃ W,w7.setCell ⟨gs,2,none⟩ (.string (st nm))=W:=⟨_,rfl⟩
    (try rw[hwy])
    rw[hwy] at HD8
    clear hwy s0 s1 s2 s3 s4 s5 j0 j1 j2 j3 j4 j5 hlS HD7
    go_wp2_with fail
    refine(Xn K (at_+1+1) rest.tail.tail [61] _ HD8.o.ms.pat).mono ?_
    rintro e w9 ⟨at5,r5,rfl,hp5,hg5,hc5⟩
    have HD9:=Xj (HD8.o.gr hp5 hg5)
    clear hp5 hg5 HD8
    rcases hc5 with⟨hT,ha5,hr5⟩|⟨hT,ha5,hr5⟩<;>subst at5 r5
    ·have HE:=Xj hT
     (try rw[hT])
     clear hT
     go_wp2_with fail
     go_meet
     exact⟨1,nm,none,0,0,[],.nil,at_+1+1+1,rest.tail.tail.tail,Xj ⟨HD9.o,⟨rfl,rfl⟩,by omega,by have:=HRT.o;simp only[List.length_tail] at *;omega,λ y hy=>by
       have h:=Qs.st_val (ts:=rest) (k:=1) (nm:=nm) (by rw[Dh HV.o,if_pos HK1.o,if_pos HE.o,HNM.o]) hy
       rw[HLN.o] at h
       exact h⟩⟩
    have HE:=Xj hT
    (try rw[hT])
    clear hT
    obtain⟨y0,y1,y2,y3,y4,y5⟩:=HD9.o.rc.cells
    obtain⟨g0,g1,g2,g3,g4,g5⟩:=HD9.o.rc.froz
    have hlR:=HD9.o.rc.lt
    obtain⟨s0,s1,s2,s3,s4,s5⟩:=HD9.o.sc.cells
    have hlS:=HD9.o.sc.lt
    go_wp2_with fail
    have hZ:=Qp (ts:=rest) (m:=rest.length) HD9.o.ms HD9.o.rc HD9.o.ne.1 (by have:=HRT.o;simp only[List.length_tail] at *;omega) 1 tn nm none 0 0 none 0 0 none 0 0 false (.inr ⟨rfl,Qs.st_bad (by rw[Dh HV.o,if_pos HK1.o,if_neg (by rw[HE.o];simp)])⟩)
    obtain⟨wz,hwz⟩:∃ W,set6 w9 gR (.int .i64 1) (.int .i64 tn) (.string (st nm)) (.slice none 0 0) (.slice none 0 0) (.slice none 0 0)=W:=⟨_,rfl⟩
    have hY:=hwz
    unfold set6 at hY
    (try rw[hY])
    obtain⟨hd,hep⟩:=hZ wz hwz.symm
    obtain⟨d0,d1,d2,d3,d4,d5⟩:=hd.cells
    clear hZ
    refine bodyPost_ret (v:=.tuple #[stv 1 tn nm (.slice none 0 0) (.slice none 0 0) (.slice none 0 0),.bool false]) (by simp[results,Tryz.results171,go_sem,d0,d1,d2,d3,d4,d5]) rfl ?_
    exact hep
   have HK1:=Xj hk1
   clear hk1
   obtain⟨s0,s1,s2,s3,s4,s5⟩:=HD7.o.sc.cells
   obtain⟨j0,j1,j2,j3,j4,j5⟩:=HD7.o.sc.froz
   have hlS:=HD7.o.sc.lt
   have HD8:=Xj (HD7.o.sn [])
   go_upto_region 16 with fail
   obtain⟨w8,hwy⟩:∃ W,w7.setCell ⟨gs,2,none⟩ (.string (st []))=W:=⟨_,rfl⟩
   (try rw[hwy])
   (try rw[show w7.setCell ⟨gs,2,none⟩ (.string { data := #[] })=w8 from hwy])
   rw[hwy] at HD8
   clear hwy s0 s1 s2 s3 s4 s5 j0 j1 j2 j3 j4 j5 hlS HD7
   obtain⟨y0,y1,y2,y3,y4,y5⟩:=HD8.o.rc.cells
   obtain⟨g0,g1,g2,g3,g4,g5⟩:=HD8.o.rc.froz
   have hlR:=HD8.o.rc.lt
   obtain⟨s0,s1,s2,s3,s4,s5⟩:=HD8.o.sc.cells
   have hlS:=HD8.o.sc.lt
   go_wp2_with fail
   have hZ:=Qp (ts:=rest) (m:=rest.length) HD8.o.ms HD8.o.rc HD8.o.ne.1 (by have:=HRT.o;simp only[List.length_tail] at *;omega) 1 tn [] none 0 0 none 0 0 none 0 0 false (.inr ⟨rfl,Qs.st_bad (by rw[Dh HV.o,if_neg HK1.o])⟩)
   obtain⟨wz,hwz⟩:∃ W,set6 w8 gR (.int .i64 1) (.int .i64 tn) (.string (st [])) (.slice none 0 0) (.slice none 0 0) (.slice none 0 0)=W:=⟨_,rfl⟩
   have hY:=hwz
   unfold set6 at hY
   (try rw[hY])
   obtain⟨hd,hep⟩:=hZ wz hwz.symm
   obtain⟨d0,d1,d2,d3,d4,d5⟩:=hd.cells
   clear hZ
   refine bodyPost_ret (v:=.tuple #[stv 1 tn [] (.slice none 0 0) (.slice none 0 0) (.slice none 0 0),.bool false]) (by simp[results,Tryz.results171,go_sem,d0,d1,d2,d3,d4,d5]) rfl ?_
   exact hep
  have HN1:=Xj hT
  (try rw[hT])
  clear hT
  go_wp2_with fail
  refine(Xn K (at_) rest [105,102] _ HD4.o.ms.pat).mono ?_
  rintro e w5 ⟨at5,r5,rfl,hp5,hg5,hc5⟩
  have HD5:=Xj (HD4.o.gr hp5 hg5)
  clear hp5 hg5 HD4
  rcases hc5 with⟨hT,ha5,hr5⟩|⟨hT,ha5,hr5⟩<;>subst at5 r5
  ·have HV:=Xj hT
   (try rw[hT])
   clear hT
   obtain⟨s0,s1,s2,s3,s4,s5⟩:=HD5.o.sc.cells
   obtain⟨j0,j1,j2,j3,j4,j5⟩:=HD5.o.sc.froz
   have hlS:=HD5.o.sc.lt
   have HD6:=Xj (HD5.o.sk 4)
   go_upto_region 20 with fail
   obtain⟨w6,hwy⟩:∃ W,w5.setCell ⟨gs,0,none⟩ (.int .i64 4)=W:=⟨_,rfl⟩
   (try rw[hwy])
   rw[hwy] at HD6
   clear hwy s0 s1 s2 s3 s4 s5 j0 j1 j2 j3 j4 j5 hlS HD5
   obtain⟨s0,s1,s2,s3,s4,s5⟩:=HD6.o.sc.cells
   have hlS:=HD6.o.sc.lt
   go_wp2_with fail
   refine(Dv rest.tail.length (HB.o _ (by have:=HRT.o;have:=HMm.o;omega)) K (at_+1) rest.tail rest 4 tn w6 HD6.o.ms.pat (Nat.le_refl _) (Ig HV.o) HLN.o HRT.o).mono ?_
   rintro e w7 ⟨k2,ln2,nm2,ax,nx,cx,ta,tn2,tc,ea,en,ec,ok,at7,r7,rfl,hp7,He,hg7,hI⟩
   have HM7:=Xj (HD6.o.ms.call hp7 hg7)
   have HR7:=Xj (HD6.o.rc.grw hg7 (by have:=HD6.o.ms.gl;have:=HD6.o.ne.1;intro e;injection e with e;omega))
   have HS7:Xq (w.heap.size<=gR/\gR<w6.heap.size/\w.heap.size<=w6.heap.size/\r7.length<=rest.length):=Xj ⟨HD6.o.ne.1,HD6.o.rc.lt,HD6.o.ms.gr.size,by have:=HRT.o;omega⟩
   have HRS:=hI
   clear hp7 He hg7 hI s0 s1 s2 s3 s4 s5 hlS HD6
   obtain⟨y0,y1,y2,y3,y4,y5⟩:=HR7.o.cells
   obtain⟨g0,g1,g2,g3,g4,g5⟩:=HR7.o.froz
   have hlR:=HR7.o.lt
   go_wp2_with fail
   have hZ:=Qp (ts:=rest) (m:=rest.length) HM7.o HR7.o HS7.o.1 HS7.o.2.2.2 k2 ln2 nm2 ax nx cx ta tn2 tc ea en ec ok (by
    have hs:=HS7.o
    rcases HRS.o with⟨e1,xs,th,el,e2,e3,e4,e5,e6⟩|hr
    ·exact .inl ⟨e1,xs,th,el,e2,Xg e3 (λ b hb _=>⟨by omega,by omega⟩),Qj e4 (λ b hb _=>⟨by omega,by omega⟩),Qj e5 (λ b hb _=>⟨by omega,by omega⟩),e6⟩
    exact .inr hr)
   obtain⟨wz,hwz⟩:∃ W,set6 w7 gR (.int .i64 k2) (.int .i64 ln2) (.string (st nm2)) (.slice ax nx cx) (.slice ta tn2 tc) (.slice ea en ec)=W:=⟨_,rfl⟩
   have hY:=hwz
   unfold set6 at hY
   (try rw[hY])
   obtain⟨hd,hep⟩:=hZ wz hwz.symm
   obtain⟨d0,d1,d2,d3,d4,d5⟩:=hd.cells
   clear hZ
   refine bodyPost_ret (v:=.tuple #[stv k2 ln2 nm2 (.slice ax nx cx) (.slice ta tn2 tc) (.slice ea en ec),.bool ok]) (by simp[results,Tryz.results171,go_sem,d0,d1,d2,d3,d4,d5]) rfl ?_
   exact hep
  have HN2:=Xj hT
  (try rw[hT])
  clear hT
  go_wp2_with fail
  refine(Xn K (at_) rest [119,104,105,108,101] _ HD5.o.ms.pat).mono ?_
  rintro e wa ⟨at5,r5,rfl,hp5,hg5,hc5⟩
  have HDa:=Xj (HD5.o.gr hp5 hg5)
  clear hp5 hg5 HD5
  rcases hc5 with⟨hT,ha5,hr5⟩|⟨hT,ha5,hr5⟩<;>subst at5 r5
  ·have HV:=Xj hT
   (try rw[hT])
   clear hT
   obtain⟨s0,s1,s2,s3,s4,s5⟩:=HDa.o.sc.cells
   obtain⟨j0,j1,j2,j3,j4,j5⟩:=HDa.o.sc.froz
   have hlS:=HDa.o.sc.lt
   have HD6:=Xj (HDa.o.sk 5)
   go_upto_region 23 with fail
   obtain⟨w6,hwy⟩:∃ W,wa.setCell ⟨gs,0,none⟩ (.int .i64 5)=W:=⟨_,rfl⟩
   (try rw[hwy])
   rw[hwy] at HD6
   clear hwy s0 s1 s2 s3 s4 s5 j0 j1 j2 j3 j4 j5 hlS HDa
   obtain⟨s0,s1,s2,s3,s4,s5⟩:=HD6.o.sc.cells
   have hlS:=HD6.o.sc.lt
   go_wp2_with fail
   refine(Dv rest.tail.length (HB.o _ (by have:=HRT.o;have:=HMm.o;omega)) K (at_+1) rest.tail rest 5 tn w6 HD6.o.ms.pat (Nat.le_refl _) (Mv HV.o) HLN.o HRT.o).mono ?_
   rintro e w7 ⟨k2,ln2,nm2,ax,nx,cx,ta,tn2,tc,ea,en,ec,ok,at7,r7,rfl,hp7,He,hg7,hI⟩
   have HM7:=Xj (HD6.o.ms.call hp7 hg7)
   have HR7:=Xj (HD6.o.rc.grw hg7 (by have:=HD6.o.ms.gl;have:=HD6.o.ne.1;intro e;injection e with e;omega))
   have HS7:Xq (w.heap.size<=gR/\gR<w6.heap.size/\w.heap.size<=w6.heap.size/\r7.length<=rest.length):=Xj ⟨HD6.o.ne.1,HD6.o.rc.lt,HD6.o.ms.gr.size,by have:=HRT.o;omega⟩
   have HRS:=hI
   clear hp7 He hg7 hI s0 s1 s2 s3 s4 s5 hlS HD6
   obtain⟨y0,y1,y2,y3,y4,y5⟩:=HR7.o.cells
   obtain⟨g0,g1,g2,g3,g4,g5⟩:=HR7.o.froz
   have hlR:=HR7.o.lt
   go_wp2_with fail
   have hZ:=Qp (ts:=rest) (m:=rest.length) HM7.o HR7.o HS7.o.1 HS7.o.2.2.2 k2 ln2 nm2 ax nx cx ta tn2 tc ea en ec ok (by
    have hs:=HS7.o
    rcases HRS.o with⟨e1,xs,th,el,e2,e3,e4,e5,e6⟩|hr
    ·exact .inl ⟨e1,xs,th,el,e2,Xg e3 (λ b hb _=>⟨by omega,by omega⟩),Qj e4 (λ b hb _=>⟨by omega,by omega⟩),Qj e5 (λ b hb _=>⟨by omega,by omega⟩),e6⟩
    exact .inr hr)
   obtain⟨wz,hwz⟩:∃ W,set6 w7 gR (.int .i64 k2) (.int .i64 ln2) (.string (st nm2)) (.slice ax nx cx) (.slice ta tn2 tc) (.slice ea en ec)=W:=⟨_,rfl⟩
   have hY:=hwz
   unfold set6 at hY
   (try rw[hY])
   obtain⟨hd,hep⟩:=hZ wz hwz.symm
   obtain⟨d0,d1,d2,d3,d4,d5⟩:=hd.cells
   clear hZ
   refine bodyPost_ret (v:=.tuple #[stv k2 ln2 nm2 (.slice ax nx cx) (.slice ta tn2 tc) (.slice ea en ec),.bool ok]) (by simp[results,Tryz.results171,go_sem,d0,d1,d2,d3,d4,d5]) rfl ?_
   exact hep
  have HN3:=Xj hT
  (try rw[hT])
  clear hT
  go_wp2_with fail
  refine(Xn K (at_) rest [114,101,116,117,114,110] _ HDa.o.ms.pat).mono ?_
  rintro e wb ⟨at5,r5,rfl,hp5,hg5,hc5⟩
  have HDb:=Xj (HDa.o.gr hp5 hg5)
  clear hp5 hg5 HDa
  rcases hc5 with⟨hT,ha5,hr5⟩|⟨hT,ha5,hr5⟩<;>subst at5 r5
  ·have HV:=Xj hT
   (try rw[hT])
   clear hT
   obtain⟨s0,s1,s2,s3,s4,s5⟩:=HDb.o.sc.cells
   obtain⟨j0,j1,j2,j3,j4,j5⟩:=HDb.o.sc.froz
   have hlS:=HDb.o.sc.lt
   have HD6:=Xj (HDb.o.sk 6)
   go_wp2_with fail
   go_meet
   exact⟨6,[],none,0,0,[],.nil,at_+1,rest.tail,Xj ⟨HD6.o,⟨rfl,rfl⟩,by omega,HRT.o,λ y hy=>by
     have h:=Qs.st_val (ts:=rest) (k:=6) (nm:=[]) (Dj HV.o) hy
     rw[HLN.o] at h
     exact h⟩⟩
  have HN4:=Xj hT
  (try rw[hT])
  clear hT
  go_wp2_with fail
  refine(Xn K (at_) rest [112,114,105,110,116] _ HDb.o.ms.pat).mono ?_
  rintro e wc ⟨at5,r5,rfl,hp5,hg5,hc5⟩
  have HDc:=Xj (HDb.o.gr hp5 hg5)
  clear hp5 hg5 HDb
  rcases hc5 with⟨hT,ha5,hr5⟩|⟨hT,ha5,hr5⟩<;>subst at5 r5
  ·have HV:=Xj hT
   (try rw[hT])
   clear hT
   obtain⟨s0,s1,s2,s3,s4,s5⟩:=HDc.o.sc.cells
   obtain⟨j0,j1,j2,j3,j4,j5⟩:=HDc.o.sc.froz
   have hlS:=HDc.o.sc.lt
   have HD6:=Xj (HDc.o.sk 7)
   go_wp2_with fail
   go_meet
   exact⟨7,[],none,0,0,[],.nil,at_+1,rest.tail,Xj ⟨HD6.o,⟨rfl,rfl⟩,by omega,HRT.o,λ y hy=>by
     have h:=Qs.st_val (ts:=rest) (k:=7) (nm:=[]) (Mw HV.o) hy
     rw[HLN.o] at h
     exact h⟩⟩
  have HN5:=Xj hT
  (try rw[hT])
  clear hT
  go_wp2_with fail
  refine(Xn K (at_) rest [99,97,108,108] _ HDc.o.ms.pat).mono ?_
  rintro e wd ⟨at5,r5,rfl,hp5,hg5,hc5⟩
  have HDd:=Xj (HDc.o.gr hp5 hg5)
  clear hp5 hg5 HDc
  rcases hc5 with⟨hT,ha5,hr5⟩|⟨hT,ha5,hr5⟩<;>subst at5 r5
  ·have HV:=Xj hT
   (try rw[hT])
   clear hT
   obtain⟨s0,s1,s2,s3,s4,s5⟩:=HDd.o.sc.cells
   obtain⟨j0,j1,j2,j3,j4,j5⟩:=HDd.o.sc.froz
   have hlS:=HDd.o.sc.lt
   have HD6:=Xj (HDd.o.sk 8)
   go_wp2_with fail
   go_meet
   exact⟨8,[],none,0,0,[],.nil,at_+1,rest.tail,Xj ⟨HD6.o,⟨rfl,rfl⟩,by omega,HRT.o,λ y hy=>by
     have h:=Qs.st_val (ts:=rest) (k:=8) (nm:=[]) (Sl HV.o) hy
     rw[HLN.o] at h
     exact h⟩⟩
  have HN6:=Xj hT
  (try rw[hT])
  clear hT
  have HNW:Xq (noW rest):=Xj ⟨HN1.o,HN2.o,HN3.o,HN4.o,HN5.o,HN6.o⟩
  clear HN1 HN2 HN3 HN4 HN5 HN6
  go_wp2_with fail
  refine(Vz K at_ rest _ HDd.o.ms.pat).mono ?_
  rintro e w7 ⟨at7,r7,hp7,hg7,hc7⟩
  have HD7:=Xj (HDd.o.gr hp7 hg7)
  clear hp7 hg7 HDd
  obtain⟨nm,hnm⟩:∃ x,tOf rest=x:=⟨_,rfl⟩
  have HNM:=Xj hnm
  (try rw[hnm] at hc7)
  clear hnm
  rcases hc7 with⟨hk1,rfl,ha7,hr7⟩|⟨hk1,rfl,ha7,hr7⟩<;>subst at7 r7
  rotate_left
  ·have HK1:=Xj hk1
   clear hk1
   obtain⟨s0,s1,s2,s3,s4,s5⟩:=HD7.o.sc.cells
   obtain⟨j0,j1,j2,j3,j4,j5⟩:=HD7.o.sc.froz
   have hlS:=HD7.o.sc.lt
   have HD8:=Xj (HD7.o.sn [])
   go_upto_region 4 with fail
   obtain⟨w8,hwy⟩:∃ W,w7.setCell ⟨gs,2,none⟩ (.string (st []))=W:=⟨_,rfl⟩
   (try rw[hwy])
   (try rw[show w7.setCell ⟨gs,2,none⟩ (.string { data := #[] })=w8 from hwy])
   rw[hwy] at HD8
   clear hwy s0 s1 s2 s3 s4 s5 j0 j1 j2 j3 j4 j5 hlS HD7
   obtain⟨y0,y1,y2,y3,y4,y5⟩:=HD8.o.rc.cells
   obtain⟨g0,g1,g2,g3,g4,g5⟩:=HD8.o.rc.froz
   have hlR:=HD8.o.rc.lt
   obtain⟨s0,s1,s2,s3,s4,s5⟩:=HD8.o.sc.cells
   have hlS:=HD8.o.sc.lt
   go_wp2_with fail
   have hZ:=Qp (ts:=rest) (m:=rest.length) HD8.o.ms HD8.o.rc HD8.o.ne.1 (Nat.le_refl _) 0 tn [] none 0 0 none 0 0 none 0 0 false (.inr ⟨rfl,Qs.st_bad (by rw[Kd HNW.o,if_neg HK1.o])⟩)
   obtain⟨wz,hwz⟩:∃ W,set6 w8 gR (.int .i64 0) (.int .i64 tn) (.string (st [])) (.slice none 0 0) (.slice none 0 0) (.slice none 0 0)=W:=⟨_,rfl⟩
   have hY:=hwz
   unfold set6 at hY
   (try rw[hY])
   obtain⟨hd,hep⟩:=hZ wz hwz.symm
   obtain⟨d0,d1,d2,d3,d4,d5⟩:=hd.cells
   clear hZ
   refine bodyPost_ret (v:=.tuple #[stv 0 tn [] (.slice none 0 0) (.slice none 0 0) (.slice none 0 0),.bool false]) (by simp[results,Tryz.results171,go_sem,d0,d1,d2,d3,d4,d5]) rfl ?_
   exact hep
  have HK1:=Xj hk1
  clear hk1
  obtain⟨s0,s1,s2,s3,s4,s5⟩:=HD7.o.sc.cells
  obtain⟨j0,j1,j2,j3,j4,j5⟩:=HD7.o.sc.froz
  have hlS:=HD7.o.sc.lt
  have HD8:=Xj (HD7.o.sn nm)
  go_upto_region 4 with fail
  obtain⟨w8,hwy⟩:∃ W,w7.setCell ⟨gs,2,none⟩ (.string (st nm))=W:=⟨_,rfl⟩
  (try rw[hwy])
  rw[hwy] at HD8
  clear hwy s0 s1 s2 s3 s4 s5 j0 j1 j2 j3 j4 j5 hlS HD7
  obtain⟨s0,s1,s2,s3,s4,s5⟩:=HD8.o.sc.cells
  obtain⟨j0,j1,j2,j3,j4,j5⟩:=HD8.o.sc.froz
  have hlS:=HD8.o.sc.lt
  have HD9:=Xj (HD8.o.sk 2)
  go_upto_region 7 with fail
  obtain⟨w9,hwy⟩:∃ W,w8.setCell ⟨gs,0,none⟩ (.int .i64 2)=W:=⟨_,rfl⟩
  (try rw[hwy])
  rw[hwy] at HD9
  clear hwy s0 s1 s2 s3 s4 s5 j0 j1 j2 j3 j4 j5 hlS HD8
  go_wp2_with fail
  refine(Xn K (at_+1) rest.tail [91] _ HD9.o.ms.pat).mono ?_
  rintro e wA ⟨at5,r5,rfl,hp5,hg5,hc5⟩
  have HDA:=Xj (HD9.o.gr hp5 hg5)
  clear hp5 hg5 HD9
  rcases hc5 with⟨hT,ha5,hr5⟩|⟨hT,ha5,hr5⟩<;>subst at5 r5
  ·have HB1:=Xj hT
   (try rw[hT])
   clear hT
   obtain⟨s0,s1,s2,s3,s4,s5⟩:=HDA.o.sc.cells
   obtain⟨j0,j1,j2,j3,j4,j5⟩:=HDA.o.sc.froz
   have hlS:=HDA.o.sc.lt
   have HDB:=Xj (HDA.o.sk 3)
   go_upto_region 9 with fail
   obtain⟨wB,hwy⟩:∃ W,wA.setCell ⟨gs,0,none⟩ (.int .i64 3)=W:=⟨_,rfl⟩
   (try rw[hwy])
   rw[hwy] at HDB
   clear hwy s0 s1 s2 s3 s4 s5 j0 j1 j2 j3 j4 j5 hlS HDA
   go_wp2_with fail
   refine(Wx K w (at_+1+1) gs rest.tail.tail 3 tn nm Yk Yk Yk 0 [] wB HDB.o.ms HDB.o.sc HDB.o.own (by have:=HDB.o.ne;omega) (λ e=>nomatch e) (by omega)).mono ?_
   rintro e wC ⟨okv,atC,rC,g9,c9,h,a,n,c,rfl,hmC,hleC,hsC,hoC,hgC,hszC,hxq⟩
   have HDC:=Xj (HDB.o.vl hmC hsC hoC hgC hxq.o.1)
   have hbr:=Xj hleC
   have HRC:Xq ((okv=true/\∃ ar,Ps .ex rest.tail.tail (.ok (Xb h ar) rC)/\FS w gR gs (.slice (some ⟨g9,0,none⟩) (0+1) c9) (0+1) ([]++hdc h (.slice a n c)) (Fo.nil.app (Xb h ar)) wC)\/(okv=false/\Ps .ex rest.tail.tail (.bad rC))):=Xj (by
    rcases hxq.o.2 with⟨e1,ar,e2,e3,e4⟩|hr
    ·exact .inl ⟨e1,ar,e2,FS.vl (F:=.nil) ⟨rfl,rfl⟩ HDB.o e3 hszC hgC hxq.o.1⟩
    exact .inr hr)
   clear hmC hleC hsC hoC hgC hszC hxq HDB
   have HKS:Xq (hk rest=.sto nm rest.tail.tail):=Xj (by rw[Kd HNW.o,if_pos HK1.o,if_pos HB1.o,HNM.o])
   cases okv
   ·have HBD:Xq (Qs .st rest (.bad rC)):=Xj (by
     rcases HRC.o with⟨h1,_⟩|⟨_,h1⟩
     ·cases h1
     exact Qs.sto_bad HKS.o h1)
    obtain⟨y0,y1,y2,y3,y4,y5⟩:=HDC.o.rc.cells
    obtain⟨g0,g1,g2,g3,g4,g5⟩:=HDC.o.rc.froz
    have hlR:=HDC.o.rc.lt
    obtain⟨s0,s1,s2,s3,s4,s5⟩:=HDC.o.sc.cells
    have hlS:=HDC.o.sc.lt
    go_wp2_with fail
    have hZ:=Qp (ts:=rest) (m:=rest.length) HDC.o.ms HDC.o.rc HDC.o.ne.1 (by have:=hbr.o;have:=HRT.o;simp only[List.length_tail] at *;omega) 3 tn nm (some ⟨g9,0,none⟩) (0+1) c9 none 0 0 none 0 0 false (.inr ⟨rfl,HBD.o⟩)
    obtain⟨wz,hwz⟩:∃ W,set6 wC gR (.int .i64 3) (.int .i64 tn) (.string (st nm)) (.slice (some ⟨g9,0,none⟩) (0+1) c9) (.slice none 0 0) (.slice none 0 0)=W:=⟨_,rfl⟩
    have hY:=hwz
    unfold set6 at hY
    (try rw[hY])
    obtain⟨hd,hep⟩:=hZ wz hwz.symm
    obtain⟨d0,d1,d2,d3,d4,d5⟩:=hd.cells
    clear hZ
    refine bodyPost_ret (v:=.tuple #[stv 3 tn nm (.slice (some ⟨g9,0,none⟩) (0+1) c9) (.slice none 0 0) (.slice none 0 0),.bool false]) (by simp[results,Tryz.results171,go_sem,d0,d1,d2,d3,d4,d5]) rfl ?_
    exact hep
   obtain⟨ar,hps,hfs⟩:∃ ar,Ps .ex rest.tail.tail (.ok (Xb h ar) rC)/\FS w gR gs (.slice (some ⟨g9,0,none⟩) (0+1) c9) (0+1) ([]++hdc h (.slice a n c)) (Fo.nil.app (Xb h ar)) wC:=by
    rcases HRC.o with⟨_,h1⟩|⟨h1,_⟩
    ·exact h1
    cases h1
   have HPS:=Xj hps
   have HFS:=Xj hfs
   clear hps hfs HRC
   go_wp2_with fail
   refine(Xn K atC rC [93] _ HDC.o.ms.pat).mono ?_
   rintro e wD ⟨at5,r5,rfl,hp5,hg5,hc5⟩
   have HDD:=Xj (HDC.o.gr hp5 hg5)
   have HFD:Xq (FS w gR gs (.slice (some ⟨g9,0,none⟩) (0+1) c9) (0+1) ([]++hdc h (.slice a n c)) (Fo.nil.app (Xb h ar)) wD):=Xj ⟨HFS.o.1.keep (λ b hb hlt=>⟨hg5.block b hlt (λ e=>by injection e with e;have:=HDC.o.ms.gl;have:=hb.1;omega),hb⟩) hg5.size,HFS.o.2⟩
   clear hp5 hg5 HDC HFS
   rcases hc5 with⟨hT,ha5,hr5⟩|⟨hT,ha5,hr5⟩<;>subst at5 r5
   rotate_left
   ·have HC:=Xj hT
    (try rw[hT])
    clear hT
    obtain⟨y0,y1,y2,y3,y4,y5⟩:=HDD.o.rc.cells
    obtain⟨g0,g1,g2,g3,g4,g5⟩:=HDD.o.rc.froz
    have hlR:=HDD.o.rc.lt
    obtain⟨s0,s1,s2,s3,s4,s5⟩:=HDD.o.sc.cells
    have hlS:=HDD.o.sc.lt
    go_wp2_with fail
    have hZ:=Qp (ts:=rest) (m:=rest.length) HDD.o.ms HDD.o.rc HDD.o.ne.1 (by have:=hbr.o;have:=HRT.o;simp only[List.length_tail] at *;omega) 3 tn nm (some ⟨g9,0,none⟩) (0+1) c9 none 0 0 none 0 0 false (.inr ⟨rfl,Qs.sto_no1 HKS.o HPS.o HC.o⟩)
    obtain⟨wz,hwz⟩:∃ W,set6 wD gR (.int .i64 3) (.int .i64 tn) (.string (st nm)) (.slice (some ⟨g9,0,none⟩) (0+1) c9) (.slice none 0 0) (.slice none 0 0)=W:=⟨_,rfl⟩
    have hY:=hwz
    unfold set6 at hY
    (try rw[hY])
    obtain⟨hd,hep⟩:=hZ wz hwz.symm
    obtain⟨d0,d1,d2,d3,d4,d5⟩:=hd.cells
    clear hZ
    refine bodyPost_ret (v:=.tuple #[stv 3 tn nm (.slice (some ⟨g9,0,none⟩) (0+1) c9) (.slice none 0 0) (.slice none 0 0),.bool false]) (by simp[results,Tryz.results171,go_sem,d0,d1,d2,d3,d4,d5]) rfl ?_
    exact hep
   have HC:=Xj hT
   (try rw[hT])
   clear hT
   go_wp2_with fail
   refine(Xn K (atC+1) rC.tail [61] _ HDD.o.ms.pat).mono ?_
   rintro e wE ⟨at5,r5,rfl,hp5,hg5,hc5⟩
   have HDE:=Xj (HDD.o.gr hp5 hg5)
   have HFE:Xq (FS w gR gs (.slice (some ⟨g9,0,none⟩) (0+1) c9) (0+1) ([]++hdc h (.slice a n c)) (Fo.nil.app (Xb h ar)) wE):=Xj ⟨HFD.o.1.keep (λ b hb hlt=>⟨hg5.block b hlt (λ e=>by injection e with e;have:=HDD.o.ms.gl;have:=hb.1;omega),hb⟩) hg5.size,HFD.o.2⟩
   clear hp5 hg5 HDD HFD
   rcases hc5 with⟨hT,ha5,hr5⟩|⟨hT,ha5,hr5⟩<;>subst at5 r5
   ·have HE:=Xj hT
    (try rw[hT])
    clear hT
    go_wp2_with fail
    go_meet
    exact⟨3,nm,some ⟨g9,0,none⟩,0+1,c9,_,_,atC+1+1,rC.tail.tail,Xj ⟨HDE.o,HFE.o,by omega,by have:=hbr.o;have:=HRT.o;simp only[List.length_tail] at *;omega,λ y hy=>by
      have h:=Qs.sto_ok HKS.o HPS.o HC.o HE.o hy
      rw[HLN.o] at h
      exact h⟩⟩
   have HE:=Xj hT
   (try rw[hT])
   clear hT
   obtain⟨y0,y1,y2,y3,y4,y5⟩:=HDE.o.rc.cells
   obtain⟨g0,g1,g2,g3,g4,g5⟩:=HDE.o.rc.froz
   have hlR:=HDE.o.rc.lt
   obtain⟨s0,s1,s2,s3,s4,s5⟩:=HDE.o.sc.cells
   have hlS:=HDE.o.sc.lt
   go_wp2_with fail
   have hZ:=Qp (ts:=rest) (m:=rest.length) HDE.o.ms HDE.o.rc HDE.o.ne.1 (by have:=hbr.o;have:=HRT.o;simp only[List.length_tail] at *;omega) 3 tn nm (some ⟨g9,0,none⟩) (0+1) c9 none 0 0 none 0 0 false (.inr ⟨rfl,Qs.sto_no2 HKS.o HPS.o HC.o HE.o⟩)
   obtain⟨wz,hwz⟩:∃ W,set6 wE gR (.int .i64 3) (.int .i64 tn) (.string (st nm)) (.slice (some ⟨g9,0,none⟩) (0+1) c9) (.slice none 0 0) (.slice none 0 0)=W:=⟨_,rfl⟩
   have hY:=hwz
   unfold set6 at hY
   (try rw[hY])
   obtain⟨hd,hep⟩:=hZ wz hwz.symm
   obtain⟨d0,d1,d2,d3,d4,d5⟩:=hd.cells
   clear hZ
   refine bodyPost_ret (v:=.tuple #[stv 3 tn nm (.slice (some ⟨g9,0,none⟩) (0+1) c9) (.slice none 0 0) (.slice none 0 0),.bool false]) (by simp[results,Tryz.results171,go_sem,d0,d1,d2,d3,d4,d5]) rfl ?_
   exact hep
  have HB1:=Xj hT
  (try rw[hT])
  clear hT
  go_wp2_with fail
  refine(Xn K (at_+1) rest.tail [61] _ HDA.o.ms.pat).mono ?_
  rintro e wB ⟨at5,r5,rfl,hp5,hg5,hc5⟩
  have HDB:=Xj (HDA.o.gr hp5 hg5)
  clear hp5 hg5 HDA
  rcases hc5 with⟨hT,ha5,hr5⟩|⟨hT,ha5,hr5⟩<;>subst at5 r5
  ·have HE:=Xj hT
   (try rw[hT])
   clear hT
   go_wp2_with fail
   go_meet
   exact⟨2,nm,none,0,0,[],.nil,at_+1+1,rest.tail.tail,Xj ⟨HDB.o,⟨rfl,rfl⟩,by omega,by have:=HRT.o;simp only[List.length_tail] at *;omega,λ y hy=>by
     have h:=Qs.st_val (ts:=rest) (k:=2) (nm:=nm) (by rw[Kd HNW.o,if_pos HK1.o,if_neg (by rw[HB1.o];simp),if_pos HE.o,HNM.o]) hy
     rw[HLN.o] at h
     exact h⟩⟩
  have HE:=Xj hT
  (try rw[hT])
  clear hT
  obtain⟨y0,y1,y2,y3,y4,y5⟩:=HDB.o.rc.cells
  obtain⟨g0,g1,g2,g3,g4,g5⟩:=HDB.o.rc.froz
  have hlR:=HDB.o.rc.lt
  obtain⟨s0,s1,s2,s3,s4,s5⟩:=HDB.o.sc.cells
  have hlS:=HDB.o.sc.lt
  go_wp2_with fail
  have hZ:=Qp (ts:=rest) (m:=rest.length) HDB.o.ms HDB.o.rc HDB.o.ne.1 (by have:=HRT.o;simp only[List.length_tail] at *;omega) 2 tn nm none 0 0 none 0 0 none 0 0 false (.inr ⟨rfl,Qs.st_bad (by rw[Kd HNW.o,if_pos HK1.o,if_neg (by rw[HB1.o];simp),if_neg (by rw[HE.o];simp)])⟩)
  obtain⟨wz,hwz⟩:∃ W,set6 wB gR (.int .i64 2) (.int .i64 tn) (.string (st nm)) (.slice none 0 0) (.slice none 0 0) (.slice none 0 0)=W:=⟨_,rfl⟩
  have hY:=hwz
  unfold set6 at hY
  (try rw[hY])
  obtain⟨hd,hep⟩:=hZ wz hwz.symm
  obtain⟨d0,d1,d2,d3,d4,d5⟩:=hd.cells
  clear hZ
  refine bodyPost_ret (v:=.tuple #[stv 2 tn nm (.slice none 0 0) (.slice none 0 0) (.slice none 0 0),.bool false]) (by simp[results,Tryz.results171,go_sem,d0,d1,d2,d3,d4,d5]) rfl ?_
  exact hep
 case rest =>
 rename World=>wq
 obtain⟨k,nm,ax,nx,cx,xs,F,at4,r4,HC⟩:=hcut
 go_wp2_with fail
 refine(Wx K w at4 gs r4 k tn nm (.slice ax nx cx) Yk Yk nx xs wq HC.o.1.ms HC.o.1.sc HC.o.1.own (by have:=HC.o.1.ne;omega) HC.o.1.ne.2.2.2 HC.o.2.2.1).mono ?_
 rintro e w5 ⟨okv,at5,r5,g9,c9,h,a,n,c,rfl,hm5,hzy,hs5,ho5,hg5,hsz5,hjm⟩
 have HD5:=Xj (HC.o.1.vl hm5 hs5 ho5 hg5 hjm.o.1)
 have hwu:Xq (r5.length<=r4.length/\r5.length<rest.length):=Xj ⟨hzy,by have:=HC.o.2.2.2.1;omega⟩
 have HR5:Xq ((okv=true/\∃ ar,Ps .ex r4 (.ok (Xb h ar) r5)/\FS w gR gs (.slice (some ⟨g9,0,none⟩) (nx+1) c9) (nx+1) (xs++hdc h (.slice a n c)) (F.app (Xb h ar)) w5)\/(okv=false/\Ps .ex r4 (.bad r5))):=Xj (by
  rcases hjm.o.2 with⟨e1,ar,e2,e3,e4⟩|hr
  ·exact .inl ⟨e1,ar,e2,FS.vl HC.o.2.1 HC.o.1 e3 hsz5 hg5 hjm.o.1⟩
  exact .inr hr)
 clear hm5 hzy hs5 ho5 hg5 hsz5 hjm
 cases okv
 ·have HBD:Xq (Qs .st rest (.bad r5)):=Xj (by
   rcases HR5.o with⟨h1,_⟩|⟨_,h1⟩
   ·cases h1
   exact HC.o.2.2.2.2 _ h1)
  obtain⟨y0,y1,y2,y3,y4,y5⟩:=HD5.o.rc.cells
  obtain⟨g0,g1,g2,g3,g4,g5⟩:=HD5.o.rc.froz
  have hlR:=HD5.o.rc.lt
  obtain⟨s0,s1,s2,s3,s4,s5⟩:=HD5.o.sc.cells
  have hlS:=HD5.o.sc.lt
  go_wp2_with fail
  have hZ:=Qp (ts:=rest) (m:=rest.length) HD5.o.ms HD5.o.rc HD5.o.ne.1 (Nat.le_of_lt hwu.o.2) k tn nm (some ⟨g9,0,none⟩) (nx+1) c9 none 0 0 none 0 0 false (.inr ⟨rfl,HBD.o⟩)
  obtain⟨wz,hwz⟩:∃ W,set6 w5 gR (.int .i64 k) (.int .i64 tn) (.string (st nm)) (.slice (some ⟨g9,0,none⟩) (nx+1) c9) (.slice none 0 0) (.slice none 0 0)=W:=⟨_,rfl⟩
  have hY:=hwz
  unfold set6 at hY
  (try rw[hY])
  obtain⟨hd,hep⟩:=hZ wz hwz.symm
  obtain⟨d0,d1,d2,d3,d4,d5⟩:=hd.cells
  clear hZ
  refine bodyPost_ret (v:=.tuple #[stv k tn nm (.slice (some ⟨g9,0,none⟩) (nx+1) c9) (.slice none 0 0) (.slice none 0 0),.bool false]) (by simp[results,Tryz.results171,go_sem,d0,d1,d2,d3,d4,d5]) rfl ?_
  exact hep
 obtain⟨ar,hps,hfs⟩:∃ ar,Ps .ex r4 (.ok (Xb h ar) r5)/\FS w gR gs (.slice (some ⟨g9,0,none⟩) (nx+1) c9) (nx+1) (xs++hdc h (.slice a n c)) (F.app (Xb h ar)) w5:=by
  rcases HR5.o with⟨_,h1⟩|⟨h1,_⟩
  ·exact h1
  cases h1
 have HPS:=Xj (HC.o.2.2.2.2 _ hps)
 have HFS:=Xj hfs
 clear hps hfs HR5
 go_wp2_with fail
 refine(Xn K at5 r5 [59] _ HD5.o.ms.pat).mono ?_
 rintro e w6 ⟨at6,r6,rfl,hp6,hg6,hc6⟩
 have HD6:=Xj (HD5.o.gr hp6 hg6)
 have HF6:Xq (FS w gR gs (.slice (some ⟨g9,0,none⟩) (nx+1) c9) (nx+1) (xs++hdc h (.slice a n c)) (F.app (Xb h ar)) w6):=Xj ⟨HFS.o.1.keep (λ b hb hlt=>⟨hg6.block b hlt (λ e=>by injection e with e;have:=HD5.o.ms.gl;have:=hb.1;omega),hb⟩) hg6.size,HFS.o.2⟩
 clear hp6 hg6 HD5 HFS
 rcases hc6 with⟨hT,ha6,hr6⟩|⟨hT,ha6,hr6⟩<;>subst at6 r6
 ·have HQ:Xq (Qs .st rest (.ok (Zq k tn nm (F.app (Xb h ar)) .nil .nil) r5.tail)):=Xj (by
   have h:=HPS.o
   unfold Dr at h
   dsimp only at h
   rw[if_pos hT] at h
   exact h)
  (try rw[hT])
  clear hT
  obtain⟨y0,y1,y2,y3,y4,y5⟩:=HD6.o.rc.cells
  obtain⟨g0,g1,g2,g3,g4,g5⟩:=HD6.o.rc.froz
  have hlR:=HD6.o.rc.lt
  obtain⟨s0,s1,s2,s3,s4,s5⟩:=HD6.o.sc.cells
  have hlS:=HD6.o.sc.lt
  go_wp2_with fail
  have hZ:=Qp (ts:=rest) (m:=rest.length) HD6.o.ms HD6.o.rc HD6.o.ne.1 (by have:=hwu.o;simp only[List.length_tail];omega) k tn nm (some ⟨g9,0,none⟩) (nx+1) c9 none 0 0 none 0 0 true (.inl ⟨rfl,_,.nil,.nil,HQ.o,HD6.o.args HF6.o,Xf.nil _ _,Xf.nil _ _,by have:=hwu.o;simp only[List.length_tail];omega⟩)
  obtain⟨wz,hwz⟩:∃ W,set6 w6 gR (.int .i64 k) (.int .i64 tn) (.string (st nm)) (.slice (some ⟨g9,0,none⟩) (nx+1) c9) (.slice none 0 0) (.slice none 0 0)=W:=⟨_,rfl⟩
  have hY:=hwz
  unfold set6 at hY
  (try rw[hY])
  obtain⟨hd,hep⟩:=hZ wz hwz.symm
  obtain⟨d0,d1,d2,d3,d4,d5⟩:=hd.cells
  clear hZ
  refine bodyPost_ret (v:=.tuple #[stv k tn nm (.slice (some ⟨g9,0,none⟩) (nx+1) c9) (.slice none 0 0) (.slice none 0 0),.bool true]) (by simp[results,Tryz.results171,go_sem,d0,d1,d2,d3,d4,d5]) rfl ?_
  exact hep
 have HQ:Xq (Qs .st rest (.bad r5)):=Xj (by
  have h:=HPS.o
  unfold Dr at h
  dsimp only at h
  rw[if_neg (by rw[hT];simp)] at h
  exact h)
 (try rw[hT])
 clear hT
 obtain⟨y0,y1,y2,y3,y4,y5⟩:=HD6.o.rc.cells
 obtain⟨g0,g1,g2,g3,g4,g5⟩:=HD6.o.rc.froz
 have hlR:=HD6.o.rc.lt
 obtain⟨s0,s1,s2,s3,s4,s5⟩:=HD6.o.sc.cells
 have hlS:=HD6.o.sc.lt
 go_wp2_with fail
 have hZ:=Qp (ts:=rest) (m:=rest.length) HD6.o.ms HD6.o.rc HD6.o.ne.1 (Nat.le_of_lt hwu.o.2) k tn nm (some ⟨g9,0,none⟩) (nx+1) c9 none 0 0 none 0 0 false (.inr ⟨rfl,HQ.o⟩)
 obtain⟨wz,hwz⟩:∃ W,set6 w6 gR (.int .i64 k) (.int .i64 tn) (.string (st nm)) (.slice (some ⟨g9,0,none⟩) (nx+1) c9) (.slice none 0 0) (.slice none 0 0)=W:=⟨_,rfl⟩
 have hY:=hwz
 unfold set6 at hY
 (try rw[hY])
 obtain⟨hd,hep⟩:=hZ wz hwz.symm
 obtain⟨d0,d1,d2,d3,d4,d5⟩:=hd.cells
 clear hZ
 refine bodyPost_ret (v:=.tuple #[stv k tn nm (.slice (some ⟨g9,0,none⟩) (nx+1) c9) (.slice none 0 0) (.slice none 0 0),.bool false]) (by simp[results,Tryz.results171,go_sem,d0,d1,d2,d3,d4,d5]) rfl ?_
 exact hep
end
theorem qall (m:Nat):CBl m/\CSt m:=by
 induction m using Nat.strongRecOn with
 | ind m ih=>exact⟨Ag m λ j hj=>(ih j hj).2,Fc m λ j hj=>(ih j hj).1⟩
theorem Bp (K:PC) (at_:Nat) (rest:List Tk) (w:World) (h:PAt w K at_ rest):Calls Tryz.prog 147 #[.pointer (some ⟨K.g,0,none⟩)] w (BlQ K rest w) :=
 (qall rest.length).1 K at_ rest w h (Nat.le_refl _)
section
abbrev PC.mk' (K:PC) (x:Int):PC:={ K with wr:=x }
theorem MS.wr {K:PC} {w wx:World} {at_:Nat} {r:List Tk} (h:MS K w wx at_ r) (x:Int):MS (K.mk' x) w (wx.setCell ⟨K.g,2,none⟩ (.int .i64 x)) at_ r :=
 have hjf:=Xu wx K.g 2 (.int .i64 x)
 {pat :=
   {row:=heap_setCell_same wx K.g 2 _ _ _ h.pat.row
    tk:=λ j y hj=>by
     obtain⟨b,off,e,hb,h0,h1,h2,h3⟩:=h.pat.tk j y hj
     have key:(wx.setCell ⟨K.g,2,none⟩ (.int .i64 x)).heap[b]?=wx.heap[b]?:=hjf.block b hb (λ e2=>by injection e2 with e2;exact h.pat.ne _ e e2)
     have kc:∀ o,(wx.setCell ⟨K.g,2,none⟩ (.int .i64 x)).cell? ⟨b,o,none⟩=wx.cell? ⟨b,o,none⟩:=λ o=>World.cell?_of_block (a:=⟨b,o,none⟩) key
     exact⟨b,off,e,by have:=hjf.size;omega,(kc _).trans h0,(kc _).trans h1,(kc _).trans h2,(kc _).trans h3⟩
    ne:=h.pat.ne
    dr:=h.pat.dr
    en:=h.pat.en
    cap:=h.pat.cap
    n:=h.pat.n }
  gr:=Xp h.gr hjf
  gl:=h.gl
  tl:=h.tl }
theorem MS.mk' {K:PC} {w wx:World} {at_:Nat} {r:List Tk} (h:MS K w wx at_ r):MS (K.mk' K.wr) w wx at_ r:=h
def Lg (wx:World) (b:Nat) (nm:Bt) (sz:Int):Prop:=wx.heap[b]?=some (.cells #[.string (st nm),.int .i64 sz] 60 (0,0))
section
variable {wx wy:World} {b:Nat} {nm:Bt} {sz:Int}
theorem Lg.lt (h:Lg wx b nm sz):b<wx.heap.size:=Xv h
theorem Lg.al (h:Lg wx b nm sz) (o:Obj):Lg (wx.alloc o) b nm sz:=(Below.heap_alloc wx o b h.lt).trans h
theorem Lg.be (h:Lg wx b nm sz) (hb:Below wx.heap.size wx wy):Lg wy b nm sz:=(hb.block b h.lt).trans h
theorem Lg.grw {row:Option Nat} (h:Lg wx b nm sz) (hg:wx.grownBy wy row) (hn:row≠some b):Lg wy b nm sz:=(hg.block b h.lt (λ e=>hn e.symm)).trans h
theorem Lg.s1 (h:Lg wx b nm sz) {p:Addr} {v:Value} (hn:b≠p.block):Lg (wx.setCell p v) b nm sz:=(heap_setCell_other wx p b v hn).trans h
theorem Lg.ss (h:Lg wx b nm sz) (z:Int):Lg (wx.setCell ⟨b,1,none⟩ (.int .i64 z)) b nm z:=heap_setCell_same wx b 1 _ _ _ h
theorem Lg.st2 (h:Lg wx b nm sz) (n2:Bt) (z:Int):Lg ((wx.setCell ⟨b,0,none⟩ (.string (st n2))).setCell ⟨b,1,none⟩ (.int .i64 z)) b n2 z:=heap_setCell_same _ b 1 _ _ _ (heap_setCell_same wx b 0 _ _ _ h)
theorem Lg.cells (h:Lg wx b nm sz):wx.cell? ⟨b,0,none⟩=some (.string (st nm))/\wx.cell? ⟨b,1,none⟩=some (.int .i64 sz):=⟨cell_of_row _ b 0 _ _ _ h,cell_of_row _ b 1 _ _ _ h⟩
theorem Lg.froz (h:Lg wx b nm sz):wx.frozen? ⟨b,0,none⟩=false/\wx.frozen? ⟨b,1,none⟩=false:=⟨frozen_of_row _ b 0 _ _ h,frozen_of_row _ b 1 _ _ h⟩
theorem Lg.new (w:World) (nm:Bt) (sz:Int):Lg (w.alloc (.cells #[.string (st nm),.int .i64 sz] 60)) w.heap.size nm sz:=heap_alloc_new w _
end
abbrev glv (nm:Bt) (sz:Int):Value:=.agg #[.string (st nm),.int .i64 sz]
def GlQ (K:PC) (rest:List Tk) (w:World) (e:Ending) (w':World):Prop :=
 ∃ (nm:Bt) (sz wr:Int) (ok:Bool) (at2:Nat) (r:List Tk),e=.returned (.tuple #[glv nm sz,.bool ok])/\PAt w' (K.mk' wr) at2 r/\r.length<=rest.length/\w.grownBy w' (some K.g) /\
  Xq ((ok=true/\glP K.wr rest=.ok nm sz wr r/\r.length<rest.length)\/(ok=false/\glP K.wr rest=.bad r))
theorem Wy {K:PC} {rest r:List Tk} {at2 gR:Nat} {w wx:World} {n0:Bt} {z0 wr:Int} (M:MS (K.mk' wr) w wx at2 r) (R:Lg wx gR n0 z0) (b1:w.heap.size<=gR) (hl:r.length<=rest.length) (nm:Bt) (sz:Int) (ok:Bool)
  (Ha:(ok=true/\glP K.wr rest=.ok nm sz wr r/\r.length<rest.length)\/(ok=false/\glP K.wr rest=.bad r)) (W:World) (hW:W=(wx.setCell ⟨gR,0,none⟩ (.string (st nm))).setCell ⟨gR,1,none⟩ (.int .i64 sz)) :
  Lg W gR nm sz/\GlQ K rest w (.returned (.tuple #[glv nm sz,.bool ok])) W:=by
 subst hW
 have h2:=(M.sc (p:=⟨gR,0,none⟩) b1 (.string (st nm))).sc (p:=⟨gR,1,none⟩) b1 (.int .i64 sz)
 exact⟨R.st2 nm sz,nm,sz,wr,ok,at2,r,rfl,h2.pat,hl,h2.gr,Xj Ha⟩
theorem Rb (K:PC) (at_:Nat) (rest:List Tk) (w:World) (hP:PAt w K at_ rest):Calls Tryz.prog 100 #[.pointer (some ⟨K.g,0,none⟩)] w (GlQ K rest w):=by
 have HM1:=Xj ((MS.init hP).al (.cells #[.string (st []),.int .i64 0] 60))
 have HR1:=Xj (Lg.new w [] 0)
 have HRT:Xq (rest.tail.length<rest.length):=Xj (by obtain⟨x,r,e⟩:=hP.en.cons;rw[e];simp)
 clear hP
 go_enter Tryz.func100,Tryz.ntmps100
 go_upto_region 1 with fail
 obtain⟨w1,hw1⟩:∃ W,w.alloc (.cells #[.string (st []),.int .i64 0] 60)=W:=⟨_,rfl⟩
 obtain⟨gR,hgR⟩:∃ x,w.heap.size=x:=⟨_,rfl⟩
 (try rw[show w.alloc (.cells #[.string { data := #[] },.int .i64 0] 60)=w1 from hw1])
 rw[hw1] at HM1 HR1
 rw[hgR] at HR1
 (try rw[hgR])
 have HGR:=Xj hgR
 clear hw1 hgR
 go_wp2_with fail
 refine(Vz K at_ rest w1 HM1.o.pat).mono ?_
 rintro e w2 ⟨at2,r2,hp2,hg2,hc2⟩
 have HM2:=Xj (HM1.o.call hp2 hg2)
 have HR2:=Xj (HR1.o.grw hg2 (by have:=HM1.o.gl;have:=HGR.o;intro e;injection e with e;omega))
 clear hp2 hg2 HM1 HR1
 obtain⟨nm,hnm⟩:∃ x,tOf rest=x:=⟨_,rfl⟩
 have HNM:=Xj hnm
 (try rw[hnm] at hc2)
 clear hnm
 rcases hc2 with⟨hk1,rfl,ha2,hr2⟩|⟨hk1,rfl,ha2,hr2⟩<;>subst at2 r2
 rotate_left
 ·have HK1:=Xj hk1
  clear hk1
  obtain⟨y0,y1⟩:=HR2.o.cells
  obtain⟨g0,g1⟩:=HR2.o.froz
  have hlR:=HR2.o.lt
  go_wp2_with fail
  have hZ:=Wy (K:=K) (rest:=rest) (wr:=K.wr) HM2.o HR2.o (show w.heap.size<=gR by have:=HGR.o;omega) (Nat.le_refl _) [] 0 false (.inr ⟨rfl,by unfold glP;rw[if_neg HK1.o]⟩)
  obtain⟨wz,hwz⟩:∃ W,(w2.setCell ⟨gR,0,none⟩ (.string (st []))).setCell ⟨gR,1,none⟩ (.int .i64 0)=W:=⟨_,rfl⟩
  (try rw[hwz])
  obtain⟨hd,hep⟩:=hZ wz hwz.symm
  obtain⟨d0,d1⟩:=hd.cells
  clear hZ
  go_wp2_with fail
  refine bodyPost_ret (v:=.tuple #[glv [] 0,.bool false]) (by simp[results,Tryz.results100,go_sem,d0,d1]) rfl ?_
  exact hep
 have HK1:=Xj hk1
 clear hk1
 have HM3:=Xj (HM2.o.al (.cells #[.string (st nm),.int .i64 0] 60))
 have HR3:=Xj (HR2.o.al (.cells #[.string (st nm),.int .i64 0] 60))
 have HL3:=Xj (Lg.new w2 nm 0)
 have HNE:Xq (gR<w2.heap.size):=Xj HR2.o.lt
 go_upto_region 5 with fail
 obtain⟨w3,hw3⟩:∃ W,w2.alloc (.cells #[.string (st nm),.int .i64 0] 60)=W:=⟨_,rfl⟩
 obtain⟨gs,hgs⟩:∃ x,w2.heap.size=x:=⟨_,rfl⟩
 (try rw[hw3])
 rw[hw3] at HM3 HR3 HL3
 rw[hgs] at HL3 HNE
 (try rw[hgs])
 clear hw3 hgs HM2 HR2
 have hgl:=HM3.o.gl
 have hgr:w.heap.size<=gR:=by have:=HGR.o;omega
 have hne:gR<gs:=HNE.o
 go_wp2_with fail
 refine(Xn K (at_+1) rest.tail [91] w3 HM3.o.pat).mono ?_
 rintro e w4 ⟨at4,r4,rfl,hp4,hg4,hc4⟩
 have HM4:=Xj (HM3.o.call hp4 hg4)
 have HR4:=Xj (HR3.o.grw hg4 (by intro e;injection e with e;omega))
 have HL4:=Xj (HL3.o.grw hg4 (by intro e;injection e with e;omega))
 clear hp4 hg4 HM3 HR3 HL3
 rcases hc4 with⟨hT,ha4,hr4⟩|⟨hT,ha4,hr4⟩<;>subst at4 r4
 rotate_left
 ·have HB1:=Xj hT
  (try rw[hT])
  clear hT
  go_upto_region 15 with fail
  obtain⟨s0,s1⟩:=HL4.o.cells
  obtain⟨wd,hwd⟩:∃ W,w4.drew=W:=⟨_,rfl⟩
  have HMd:=Xj (show MS K w wd (at_+1) rest.tail by rw[<- hwd];exact HM4.o.be (Below.refl _ _).drew)
  have HRd:=Xj (show Lg wd gR [] 0 by rw[<- hwd];exact HR4.o)
  have HLd:=Xj (show Lg wd gs nm 0 by rw[<- hwd];exact HL4.o)
  refine wp_region_held_drew (S:=(λ w'=>w'.cell? ⟨gs,0,none⟩=some (.string (st nm))/\w'.cell? ⟨gs,1,none⟩=some (.int .i64 0))) (by kernel_rfl) (by rw[hwd];exact HLd.o.cells) (λ hJ=>?_)
  rw[hwd] at hJ ⊢
  clear hwd s0 s1
  refine tkH 0 60 ?_
  refine tkH 1 61 ?_
  refine rdH 2 λ K0 hK=>?_
  go_simp
  refine(Xn (K) (at_+1) rest.tail [59] _ HMd.o.pat).mono ?_
  rintro e w9 ⟨at9,r9,rfl,hp9,hg9,hc9⟩
  have HM9:=Xj (HMd.o.call hp9 hg9)
  have HR9:=Xj (HRd.o.grw hg9 (by intro e;injection e with e;have e2:K.g=gR:=e;omega))
  have HL9:=Xj (HLd.o.grw hg9 (by intro e;injection e with e;have e2:K.g=gs:=e;omega))
  refine goH hK HL9.o.cells λ hJ=>?_
  clear hK K0 hp9 hg9
  have HC9:=Xj hc9
  obtain⟨b59,hzu⟩:∃ b,isT [59] rest.tail=b:=⟨_,rfl⟩
  have hxw:=Xj hzu
  (try rw[hzu])
  clear hzu hc9
  obtain⟨y0,y1⟩:=HR9.o.cells
  obtain⟨g0,g1⟩:=HR9.o.froz
  have hlR:=HR9.o.lt
  refine rdH 3 λ K0 hK=>?_
  go_simp
  refine goH hK ⟨Yn _ (by omega) (Yn _ (by omega) hJ.1),Yn _ (by omega) (Yn _ (by omega) hJ.2)⟩ λ hJ=>?_
  clear hK K0
  refine tkH 4 3 ?_
  refine wpAnyH_done (by kernel_rfl) ?_ _
  refine Xz ?_
  clear y0 y1 g0 g1 hlR hJ
  have hZ:=Wy (K:=K) (rest:=rest) (wr:=(K).wr) HM9.o HR9.o hgr (by rcases HC9.o with⟨_,_,e⟩|⟨_,_,e⟩<;>(rw[e];have:=HRT.o;simp only[List.length_tail] at *;omega)) nm 0 b59 (by
   rcases HC9.o with⟨h1,_,e⟩|⟨h1,_,e⟩
   ·exact .inl ⟨by rw[<- hxw.o];exact h1,by rw[e];unfold glP;rw[if_pos HK1.o,if_neg (by rw[HB1.o];simp),if_pos h1,HNM.o],by rw[e];have:=HRT.o;simp only[List.length_tail] at *;omega⟩
   exact .inr ⟨by rw[<- hxw.o];exact h1,by rw[e];unfold glP;rw[if_pos HK1.o,if_neg (by rw[HB1.o];simp),if_neg (by rw[h1];simp)]⟩)
  obtain⟨wz,hwz⟩:∃ W,(w9.setCell ⟨gR,0,none⟩ (.string (st nm))).setCell ⟨gR,1,none⟩ (.int .i64 0)=W:=⟨_,rfl⟩
  (try rw[hwz])
  obtain⟨hd,hep⟩:=hZ wz hwz.symm
  obtain⟨d0,d1⟩:=hd.cells
  clear hZ
  go_wp2_with fail
  refine bodyPost_ret (v:=.tuple #[glv nm 0,.bool b59]) (by simp[results,Tryz.results100,go_sem,d0,d1]) rfl ?_
  exact hep
 have HB1:=Xj hT
 (try rw[hT])
 clear hT
 obtain⟨ap,hap⟩:∃ x,at_+1+1=x:=⟨_,rfl⟩
 rw[hap] at HM4
 clear hap
 obtain⟨⟨uk,un,uv,ut⟩,r1,hr1⟩:=HM4.o.pat.en.cons
 have HU:Xq (kOf rest.tail.tail=uk/\Yb rest.tail.tail=un/\vOf rest.tail.tail=uv):=Xj (by rw[hr1];exact⟨rfl,rfl,rfl⟩)
 have HLO:=Xj (Zn K ap uk un uv ut r1 w4 (hr1▸HM4.o.pat))
 clear hr1
 go_wp2_with fail
 refine HLO.o.mono ?_
 rintro e w5 ⟨rfl,hb5⟩
 have HM6:=Xj ((HM4.o.be hb5).al (.cells #[.int .i64 uk,.int .i64 un,.int .i64 uv,.string (st ut)] 103))
 have HR6:=Xj ((HR4.o.be hb5).al (.cells #[.int .i64 uk,.int .i64 un,.int .i64 uv,.string (st ut)] 103))
 have HL6:=Xj ((HL4.o.be hb5).al (.cells #[.int .i64 uk,.int .i64 un,.int .i64 uv,.string (st ut)] 103))
 have HT6:=Xj (Lt.new w5 ⟨uk,un,uv,ut⟩)
 have HNT:Xq (gs<w5.heap.size):=Xj (HL4.o.be hb5).lt
 clear hb5 HLO HM4 HR4 HL4
 go_upto_region 7 with fail
 obtain⟨w6,hw6⟩:∃ W,w5.alloc (.cells #[.int .i64 uk,.int .i64 un,.int .i64 uv,.string (st ut)] 103)=W:=⟨_,rfl⟩
 obtain⟨gt,hgt⟩:∃ x,w5.heap.size=x:=⟨_,rfl⟩
 have HT7:Xq (Lt w6 gt ⟨uk,un,uv,ut⟩):=Xj (by rw[<- hw6,<- hgt];exact HT6.o)
 rw[hw6] at HM6 HR6 HL6
 rw[hgt] at HNT
 (try rw[hw6])
 (try rw[hgt])
 clear hw6 hgt HT6
 have hnt:gs<gt:=HNT.o
 obtain⟨t0,t1,t2,t3⟩:=HT7.o.cells
 (try dsimp only at t0 t1 t2 t3)
 have hlT:=HT7.o.lt
 by_cases hu2:uk=2
 rotate_left
 ·have d1:(uk==2)=false:=beq_eq_false_iff_ne.2 hu2
  have d2:(uk != 2)=true:=bne_iff_ne.2 hu2
  have HU2:=Xj hu2
  clear hu2
  obtain⟨s0,s1⟩:=HL6.o.cells
  have hlS:=HL6.o.lt
  obtain⟨y0,y1⟩:=HR6.o.cells
  obtain⟨g0,g1⟩:=HR6.o.froz
  have hlR:=HR6.o.lt
  go_wp2_with fail
  have hZ:=Wy (K:=K) (rest:=rest) (wr:=K.wr) HM6.o HR6.o (show w.heap.size<=gR by have:=HGR.o;omega) (by have:=HRT.o;simp only[List.length_tail] at *;omega) nm 0 false (.inr ⟨rfl,by unfold glP;rw[if_pos HK1.o,if_pos HB1.o,if_neg (by rw[HU.o.1];exact HU2.o)]⟩)
  obtain⟨wz,hwz⟩:∃ W,(w6.setCell ⟨gR,0,none⟩ (.string (st nm))).setCell ⟨gR,1,none⟩ (.int .i64 0)=W:=⟨_,rfl⟩
  (try rw[hwz])
  obtain⟨hd,hep⟩:=hZ wz hwz.symm
  obtain⟨d0,d1⟩:=hd.cells
  clear hZ
  go_wp2_with fail
  refine bodyPost_ret (v:=.tuple #[glv nm 0,.bool false]) (by simp[results,Tryz.results100,go_sem,d0,d1]) rfl ?_
  exact hep
 subst hu2
 obtain⟨-,p1,p2,f1,f2,hlp⟩:=HM6.o.pat.cells
 obtain⟨s0,s1⟩:=HL6.o.cells
 obtain⟨j0,j1⟩:=HL6.o.froz
 have hlS:=HL6.o.lt
 have hw1:=HM6.o.w1
 have HM7:=Xj ((HM6.o.step (by rw[HU.o.1];decide)).sc (p:=⟨gs,1,none⟩) (by show w.heap.size<=gs;omega) (.int .i64 uv))
 have HR7:=Xj ((HR6.o.s1 (p:=⟨K.g,1,none⟩) (v:=.int .i64 ((ap:Int)+1)) (by show gR≠K.g;omega)).s1 (p:=⟨gs,1,none⟩) (v:=.int .i64 uv) (by show gR≠gs;omega))
 have HL7:=Xj ((HL6.o.s1 (p:=⟨K.g,1,none⟩) (v:=.int .i64 ((ap:Int)+1)) (by show gs≠K.g;omega)).ss uv)
 have HT8:=Xj ((HT7.o.s1 (p:=⟨K.g,1,none⟩) (v:=.int .i64 ((ap:Int)+1)) (by show gt≠K.g;omega)).s1 (p:=⟨gs,1,none⟩) (v:=.int .i64 uv) (by show gt≠gs;omega))
 have s0':=(HL6.o.s1 (p:=⟨K.g,1,none⟩) (v:=.int .i64 ((ap:Int)+1)) (by show gs≠K.g;omega)).cells
 go_upto_region 11 with fail
 obtain⟨w7,hw7⟩:∃ W,(w6.setCell ⟨K.g,1,none⟩ (.int .i64 ((ap:Int)+1))).setCell ⟨gs,1,none⟩ (.int .i64 uv)=W:=⟨_,rfl⟩
 rw[hw7] at HM7 HR7 HL7 HT8
 (try rw[hw7])
 clear hw7 s0' p1 p2 f1 f2 hlp s0 s1 j0 j1 hlS hw1 t0 t1 t2 t3 hlT HM6 HR6 HL6 HT7
 obtain⟨kw,hkw⟩:∃ x,K.wr=x:=⟨_,rfl⟩
 have HKW:=Xj hkw
 obtain⟨-,-,p2,-,f2,hlp⟩:=HM7.o.pat.cells
 rw[hkw] at p2
 clear hkw
 obtain⟨s0,s1⟩:=HL7.o.cells
 have hlS:=HL7.o.lt
 obtain⟨t0,t1,t2,t3⟩:=HT8.o.cells
 (try dsimp only at t0 t1 t2 t3)
 have hlT:=HT8.o.lt
 obtain⟨bw,hbw⟩:∃ b,((decide (uv<1)||decide (1024<uv))&&(kw==0))=b:=⟨_,rfl⟩
 have HBW:Xq (((decide (uv<1)||decide (1024<uv))&&(kw==0))=bw):=Xj hbw
 clear hbw
 go_cut [50] from 36 to 50 (λ v50 wx=>v50=.bool bw/\wx=w7)
 case first =>
  by_cases h1:uv<1
  ·have e1:decide (uv<1)=true:=decide_eq_true h1
   cases e3:(kw==0)
   ·obtain rfl:bw=false:=by rw[<- HBW.o,e1,e3];rfl
    go_wp2_with fail
    go_meet
    exact⟨rfl,rfl⟩
   obtain rfl:bw=true:=by rw[<- HBW.o,e1,e3];rfl
   go_wp2_with fail
   go_meet
   exact⟨rfl,rfl⟩
  have e1:decide (uv<1)=false:=decide_eq_false h1
  by_cases h2:1024<uv
  ·have e2:decide (1024<uv)=true:=decide_eq_true h2
   cases e3:(kw==0)
   ·obtain rfl:bw=false:=by rw[<- HBW.o,e1,e2,e3];rfl
    go_wp2_with fail
    go_meet
    exact⟨rfl,rfl⟩
   obtain rfl:bw=true:=by rw[<- HBW.o,e1,e2,e3];rfl
   go_wp2_with fail
   go_meet
   exact⟨rfl,rfl⟩
  have e2:decide (1024<uv)=false:=decide_eq_false h2
  obtain rfl:bw=false:=by rw[<- HBW.o,e1,e2];rfl
  go_wp2_with fail
  go_meet
  exact⟨rfl,rfl⟩
 case rest =>
 obtain⟨rfl,hwx⟩:=hcut
 rw[hwx]
 cases bw
 ·have HWR:Xq (Pw uv un K.wr=K.wr):=Xj (by
   unfold Pw
   rw[if_neg]
   intro hc
   have:=HBW.o
   rw[<- HKW.o] at this
   rw[hc.2] at this
   rcases hc.1 with h|h
   ·rw[decide_eq_true h] at this;simp at this
   rw[decide_eq_true h] at this;simp at this)
  go_wp2_with fail
  refine(Xn K (ap+1) rest.tail.tail.tail [93] w7 HM7.o.pat).mono ?_
  rintro e wA ⟨at5,r5,rfl,hp5,hg5,hc5⟩
  have HMA:=Xj (HM7.o.call hp5 hg5)
  have HRA:=Xj (HR7.o.grw hg5 (by intro e;injection e with e;have e2:K.g=gR:=e;omega))
  have HLA:=Xj (HL7.o.grw hg5 (by intro e;injection e with e;have e2:K.g=gs:=e;omega))
  clear hp5 hg5
  rcases hc5 with⟨hT,ha5,hr5⟩|⟨hT,ha5,hr5⟩<;>subst at5 r5
  rotate_left
  ·have HC:=Xj hT
   (try rw[hT])
   clear hT
   obtain⟨s0,s1⟩:=HLA.o.cells
   have hlS:=HLA.o.lt
   obtain⟨y0,y1⟩:=HRA.o.cells
   obtain⟨g0,g1⟩:=HRA.o.froz
   have hlR:=HRA.o.lt
   go_wp2_with fail
   have hZ:=Wy (K:=K) (rest:=rest) (wr:=K.wr) HMA.o HRA.o (show w.heap.size<=gR by have:=HGR.o;omega) (by have:=HRT.o;simp only[List.length_tail] at *;omega) nm uv false (.inr ⟨rfl,by unfold glP;rw[if_pos HK1.o,if_pos HB1.o,if_pos HU.o.1,if_neg (by rw[HC.o];simp)]⟩)
   obtain⟨wz,hwz⟩:∃ W,(wA.setCell ⟨gR,0,none⟩ (.string (st nm))).setCell ⟨gR,1,none⟩ (.int .i64 uv)=W:=⟨_,rfl⟩
   (try rw[hwz])
   obtain⟨hd,hep⟩:=hZ wz hwz.symm
   obtain⟨d0,d1⟩:=hd.cells
   clear hZ
   go_wp2_with fail
   refine bodyPost_ret (v:=.tuple #[glv nm uv,.bool false]) (by simp[results,Tryz.results100,go_sem,d0,d1]) rfl ?_
   exact hep
  have HC:=Xj hT
  (try rw[hT])
  clear hT
  go_upto_region 15 with fail
  obtain⟨s0,s1⟩:=HLA.o.cells
  obtain⟨wd,hwd⟩:∃ W,wA.drew=W:=⟨_,rfl⟩
  have HMd:=Xj (show MS K w wd (ap+1+1) rest.tail.tail.tail.tail by rw[<- hwd];exact HMA.o.be (Below.refl _ _).drew)
  have HRd:=Xj (show Lg wd gR [] 0 by rw[<- hwd];exact HRA.o)
  have HLd:=Xj (show Lg wd gs nm uv by rw[<- hwd];exact HLA.o)
  refine wp_region_held_drew (S:=(λ w'=>w'.cell? ⟨gs,0,none⟩=some (.string (st nm))/\w'.cell? ⟨gs,1,none⟩=some (.int .i64 uv))) (by kernel_rfl) (by rw[hwd];exact HLd.o.cells) (λ hJ=>?_)
  rw[hwd] at hJ ⊢
  clear hwd s0 s1
  refine tkH 0 60 ?_
  refine tkH 1 61 ?_
  refine rdH 2 λ K0 hK=>?_
  go_simp
  refine(Xn (K) (ap+1+1) rest.tail.tail.tail.tail [59] _ HMd.o.pat).mono ?_
  rintro e w9 ⟨at9,r9,rfl,hp9,hg9,hc9⟩
  have HM9:=Xj (HMd.o.call hp9 hg9)
  have HR9:=Xj (HRd.o.grw hg9 (by intro e;injection e with e;have e2:K.g=gR:=e;omega))
  have HL9:=Xj (HLd.o.grw hg9 (by intro e;injection e with e;have e2:K.g=gs:=e;omega))
  refine goH hK HL9.o.cells λ hJ=>?_
  clear hK K0 hp9 hg9
  have HC9:=Xj hc9
  obtain⟨b59,hzu⟩:∃ b,isT [59] rest.tail.tail.tail.tail=b:=⟨_,rfl⟩
  have hxw:=Xj hzu
  (try rw[hzu])
  clear hzu hc9
  obtain⟨y0,y1⟩:=HR9.o.cells
  obtain⟨g0,g1⟩:=HR9.o.froz
  have hlR:=HR9.o.lt
  refine rdH 3 λ K0 hK=>?_
  go_simp
  refine goH hK ⟨Yn _ (by omega) (Yn _ (by omega) hJ.1),Yn _ (by omega) (Yn _ (by omega) hJ.2)⟩ λ hJ=>?_
  clear hK K0
  refine tkH 4 3 ?_
  refine wpAnyH_done (by kernel_rfl) ?_ _
  refine Xz ?_
  clear y0 y1 g0 g1 hlR hJ
  have hZ:=Wy (K:=K) (rest:=rest) (wr:=(K).wr) HM9.o HR9.o hgr (by rcases HC9.o with⟨_,_,e⟩|⟨_,_,e⟩<;>(rw[e];have:=HRT.o;simp only[List.length_tail] at *;omega)) nm uv b59 (by
   rcases HC9.o with⟨h1,_,e⟩|⟨h1,_,e⟩
   ·exact .inl ⟨by rw[<- hxw.o];exact h1,by rw[e];unfold glP;rw[if_pos HK1.o,if_pos HB1.o,if_pos HU.o.1,if_pos HC.o,if_pos h1,HNM.o,HU.o.2.1,HU.o.2.2,HWR.o],by rw[e];have:=HRT.o;simp only[List.length_tail] at *;omega⟩
   exact .inr ⟨by rw[<- hxw.o];exact h1,by rw[e];unfold glP;rw[if_pos HK1.o,if_pos HB1.o,if_pos HU.o.1,if_pos HC.o,if_neg (by rw[h1];simp)]⟩)
  obtain⟨wz,hwz⟩:∃ W,(w9.setCell ⟨gR,0,none⟩ (.string (st nm))).setCell ⟨gR,1,none⟩ (.int .i64 uv)=W:=⟨_,rfl⟩
  (try rw[hwz])
  obtain⟨hd,hep⟩:=hZ wz hwz.symm
  obtain⟨d0,d1⟩:=hd.cells
  clear hZ
  go_wp2_with fail
  refine bodyPost_ret (v:=.tuple #[glv nm uv,.bool b59]) (by simp[results,Tryz.results100,go_sem,d0,d1]) rfl ?_
  exact hep
 have HWR:Xq (Pw uv un K.wr=un):=Xj (by
  have:=HBW.o
  simp only[Bool.and_eq_true,Bool.or_eq_true,decide_eq_true_eq,beq_iff_eq] at this
  unfold Pw
  rw[if_pos ⟨this.1,by rw[HKW.o];exact this.2⟩])
 have HM8:=Xj (HM7.o.wr un)
 have HR8:=Xj (HR7.o.s1 (p:=⟨K.g,2,none⟩) (v:=.int .i64 un) (by show gR≠K.g;omega))
 have HL8:=Xj (HL7.o.s1 (p:=⟨K.g,2,none⟩) (v:=.int .i64 un) (by show gs≠K.g;omega))
 go_upto_region 13 with fail
 obtain⟨w8,hw8⟩:∃ W,w7.setCell ⟨K.g,2,none⟩ (.int .i64 un)=W:=⟨_,rfl⟩
 rw[hw8] at HM8 HR8 HL8
 (try rw[hw8])
 clear hw8 p2 f2 hlp s0 s1 hlS t0 t1 t2 t3 hlT HM7 HR7 HL7 HT8
 go_wp2_with fail
 refine(Xn (K.mk' un) (ap+1) rest.tail.tail.tail [93] w8 HM8.o.pat).mono ?_
 rintro e wA ⟨at5,r5,rfl,hp5,hg5,hc5⟩
 have HMA:=Xj (HM8.o.call hp5 hg5)
 have HRA:=Xj (HR8.o.grw hg5 (by intro e;injection e with e;have e2:K.g=gR:=e;omega))
 have HLA:=Xj (HL8.o.grw hg5 (by intro e;injection e with e;have e2:K.g=gs:=e;omega))
 clear hp5 hg5
 rcases hc5 with⟨hT,ha5,hr5⟩|⟨hT,ha5,hr5⟩<;>subst at5 r5
 rotate_left
 ·have HC:=Xj hT
  (try rw[hT])
  clear hT
  obtain⟨s0,s1⟩:=HLA.o.cells
  have hlS:=HLA.o.lt
  obtain⟨y0,y1⟩:=HRA.o.cells
  obtain⟨g0,g1⟩:=HRA.o.froz
  have hlR:=HRA.o.lt
  go_wp2_with fail
  have hZ:=Wy (K:=K) (rest:=rest) (wr:=un) HMA.o HRA.o (show w.heap.size<=gR by have:=HGR.o;omega) (by have:=HRT.o;simp only[List.length_tail] at *;omega) nm uv false (.inr ⟨rfl,by unfold glP;rw[if_pos HK1.o,if_pos HB1.o,if_pos HU.o.1,if_neg (by rw[HC.o];simp)]⟩)
  obtain⟨wz,hwz⟩:∃ W,(wA.setCell ⟨gR,0,none⟩ (.string (st nm))).setCell ⟨gR,1,none⟩ (.int .i64 uv)=W:=⟨_,rfl⟩
  (try rw[hwz])
  obtain⟨hd,hep⟩:=hZ wz hwz.symm
  obtain⟨d0,d1⟩:=hd.cells
  clear hZ
  go_wp2_with fail
  refine bodyPost_ret (v:=.tuple #[glv nm uv,.bool false]) (by simp[results,Tryz.results100,go_sem,d0,d1]) rfl ?_
  exact hep
 have HC:=Xj hT
 (try rw[hT])
 clear hT
 go_upto_region 15 with fail
 obtain⟨s0,s1⟩:=HLA.o.cells
 obtain⟨wd,hwd⟩:∃ W,wA.drew=W:=⟨_,rfl⟩
 have HMd:=Xj (show MS (K.mk' un) w wd (ap+1+1) rest.tail.tail.tail.tail by rw[<- hwd];exact HMA.o.be (Below.refl _ _).drew)
 have HRd:=Xj (show Lg wd gR [] 0 by rw[<- hwd];exact HRA.o)
 have HLd:=Xj (show Lg wd gs nm uv by rw[<- hwd];exact HLA.o)
 refine wp_region_held_drew (S:=(λ w'=>w'.cell? ⟨gs,0,none⟩=some (.string (st nm))/\w'.cell? ⟨gs,1,none⟩=some (.int .i64 uv))) (by kernel_rfl) (by rw[hwd];exact HLd.o.cells) (λ hJ=>?_)
 rw[hwd] at hJ ⊢
 clear hwd s0 s1
 refine tkH 0 60 ?_
 refine tkH 1 61 ?_
 refine rdH 2 λ K0 hK=>?_
 go_simp
 refine(Xn ((K.mk' un)) (ap+1+1) rest.tail.tail.tail.tail [59] _ HMd.o.pat).mono ?_
 rintro e w9 ⟨at9,r9,rfl,hp9,hg9,hc9⟩
 have HM9:=Xj (HMd.o.call hp9 hg9)
 have HR9:=Xj (HRd.o.grw hg9 (by intro e;injection e with e;have e2:K.g=gR:=e;omega))
 have HL9:=Xj (HLd.o.grw hg9 (by intro e;injection e with e;have e2:K.g=gs:=e;omega))
 refine goH hK HL9.o.cells λ hJ=>?_
 clear hK K0 hp9 hg9
 have HC9:=Xj hc9
 obtain⟨b59,hzu⟩:∃ b,isT [59] rest.tail.tail.tail.tail=b:=⟨_,rfl⟩
 have hxw:=Xj hzu
 (try rw[hzu])
 clear hzu hc9
 obtain⟨y0,y1⟩:=HR9.o.cells
 obtain⟨g0,g1⟩:=HR9.o.froz
 have hlR:=HR9.o.lt
 refine rdH 3 λ K0 hK=>?_
 go_simp
 refine goH hK ⟨Yn _ (by omega) (Yn _ (by omega) hJ.1),Yn _ (by omega) (Yn _ (by omega) hJ.2)⟩ λ hJ=>?_
 clear hK K0
 refine tkH 4 3 ?_
 refine wpAnyH_done (by kernel_rfl) ?_ _
 refine Xz ?_
 clear y0 y1 g0 g1 hlR hJ
 have hZ:=Wy (K:=K) (rest:=rest) (wr:=((K.mk' un)).wr) HM9.o HR9.o hgr (by rcases HC9.o with⟨_,_,e⟩|⟨_,_,e⟩<;>(rw[e];have:=HRT.o;simp only[List.length_tail] at *;omega)) nm uv b59 (by
  rcases HC9.o with⟨h1,_,e⟩|⟨h1,_,e⟩
  ·exact .inl ⟨by rw[<- hxw.o];exact h1,by rw[e];unfold glP;rw[if_pos HK1.o,if_pos HB1.o,if_pos HU.o.1,if_pos HC.o,if_pos h1,HNM.o,HU.o.2.1,HU.o.2.2,HWR.o],by rw[e];have:=HRT.o;simp only[List.length_tail] at *;omega⟩
  exact .inr ⟨by rw[<- hxw.o];exact h1,by rw[e];unfold glP;rw[if_pos HK1.o,if_pos HB1.o,if_pos HU.o.1,if_pos HC.o,if_neg (by rw[h1];simp)]⟩)
 obtain⟨wz,hwz⟩:∃ W,(w9.setCell ⟨gR,0,none⟩ (.string (st nm))).setCell ⟨gR,1,none⟩ (.int .i64 uv)=W:=⟨_,rfl⟩
 (try rw[hwz])
 obtain⟨hd,hep⟩:=hZ wz hwz.symm
 obtain⟨d0,d1⟩:=hd.cells
 clear hZ
 go_wp2_with fail
 refine bodyPost_ret (v:=.tuple #[glv nm uv,.bool b59]) (by simp[results,Tryz.results100,go_sem,d0,d1]) rfl ?_
 exact hep
end
section
def Lf (wx:World) (b:Nat) (nm:Bt) (ln:Int) (vp vb:Value):Prop:=wx.heap[b]?=some (.cells #[.string (st nm),.int .i64 ln,vp,vb] 63 (0,0))
section
variable {wx wy:World} {b:Nat} {nm:Bt} {ln:Int} {vp vb:Value}
theorem Lf.lt (h:Lf wx b nm ln vp vb):b<wx.heap.size:=Xv h
theorem Lf.al (h:Lf wx b nm ln vp vb) (o:Obj):Lf (wx.alloc o) b nm ln vp vb:=(Below.heap_alloc wx o b h.lt).trans h
theorem Lf.be (h:Lf wx b nm ln vp vb) (hb:Below wx.heap.size wx wy):Lf wy b nm ln vp vb:=(hb.block b h.lt).trans h
theorem Lf.grw {row:Option Nat} (h:Lf wx b nm ln vp vb) (hg:wx.grownBy wy row) (hn:row≠some b):Lf wy b nm ln vp vb:=(hg.block b h.lt (λ e=>hn e.symm)).trans h
theorem Lf.s1 (h:Lf wx b nm ln vp vb) {p:Addr} {v:Value} (hn:b≠p.block):Lf (wx.setCell p v) b nm ln vp vb:=(heap_setCell_other wx p b v hn).trans h
theorem Lf.sn (h:Lf wx b nm ln vp vb) (n2:Bt):Lf (wx.setCell ⟨b,0,none⟩ (.string (st n2))) b n2 ln vp vb:=heap_setCell_same wx b 0 _ _ _ h
theorem Lf.sp (h:Lf wx b nm ln vp vb) (v:Value):Lf (wx.setCell ⟨b,2,none⟩ v) b nm ln v vb:=heap_setCell_same wx b 2 _ _ _ h
theorem Lf.sb (h:Lf wx b nm ln vp vb) (v:Value):Lf (wx.setCell ⟨b,3,none⟩ v) b nm ln vp v:=heap_setCell_same wx b 3 _ _ _ h
theorem Lf.s4 (h:Lf wx b nm ln vp vb) (n2:Bt) (l2:Int) (p2 b2:Value):Lf (set4 wx b (.string (st n2)) (.int .i64 l2) p2 b2) b n2 l2 p2 b2:=Yt h
theorem Lf.cells (h:Lf wx b nm ln vp vb):wx.cell? ⟨b,0,none⟩=some (.string (st nm))/\wx.cell? ⟨b,1,none⟩=some (.int .i64 ln)/\wx.cell? ⟨b,2,none⟩=some vp/\wx.cell? ⟨b,3,none⟩=some vb :=
 ⟨cell_of_row _ b 0 _ _ _ h,cell_of_row _ b 1 _ _ _ h,cell_of_row _ b 2 _ _ _ h,cell_of_row _ b 3 _ _ _ h⟩
theorem Lf.froz (h:Lf wx b nm ln vp vb):wx.frozen? ⟨b,0,none⟩=false/\wx.frozen? ⟨b,1,none⟩=false/\wx.frozen? ⟨b,2,none⟩=false/\wx.frozen? ⟨b,3,none⟩=false :=
 ⟨frozen_of_row _ b 0 _ _ h,frozen_of_row _ b 1 _ _ h,frozen_of_row _ b 2 _ _ h,frozen_of_row _ b 3 _ _ h⟩
end
abbrev zfn:Obj:=.cells #[.string { data := #[] },.int .i64 0,.slice none 0 0,.slice none 0 0] 63
theorem Lf.zero (w:World):Lf (w.alloc zfn) w.heap.size [] 0 Yk Yk:=heap_alloc_new w _
abbrev fnv (nm:Bt) (ln:Int) (vp vb:Value):Value:=.agg #[.string (st nm),.int .i64 ln,vp,vb]
def Vw (w:World) (P:Nat->Prop) (ps:List Bt) (v:Value):Prop:=∃ a c,v=.slice a ps.length c/\ps.length<=c/\c<=maxLen/\Wj w P a (ps.map λ x=>Value.string (st x))
theorem Vw.keep {w w':World} {P Q:Nat->Prop} {ps:List Bt} {v:Value} (h:Vw w P ps v) (hk:∀ b,P b->b<w.heap.size->w'.heap[b]?=w.heap[b]?/\Q b) (hs:w.heap.size<=w'.heap.size):Vw w' Q ps v:=by
 obtain⟨a,c,e,h1,h2,h3⟩:=h
 exact⟨a,c,e,h1,h2,h3.keep hk hs⟩
def FuQ (K:PC) (rest:List Tk) (w:World) (e:Ending) (w':World):Prop :=
 ∃ (nm:Bt) (pa:Option Addr) (pn pc:Nat) (ba:Option Addr) (bn bc:Nat) (ok:Bool) (at2:Nat) (r:List Tk),e=.returned (.tuple #[fnv nm 0 (.slice pa pn pc) (.slice ba bn bc),.bool ok])/\PAt w' K at2 r/\r.length<=rest.length/\w.grownBy w' (some K.g) /\
  Xq ((ok=true/\∃ ps S,Fs rest (.ok nm ps S r)/\Vw w' (λ b=>w.heap.size<=b) ps (.slice pa pn pc)/\Xf w' (λ b=>w.heap.size<=b) S (.slice ba bn bc)/\r.length<rest.length)\/(ok=false/\Fs rest (.bad r)))
structure FD (K:PC) (w:World) (gR gf:Nat) (nm:Bt) (vp:Value) (nn:Nat) (xs:List Value) (at2:Nat) (r:List Tk) (wx:World):Prop where
 ms:MS K w wx at2 r
 rc:Lf wx gR [] 0 Yk Yk
 fc:Lf wx gf nm 0 vp Yk
 own:wx.ownsRow w.heap.size 9 1 vp nn xs
 ne:w.heap.size<=gR/\gR<gf/\vp.ownBlock≠some gR/\vp.ownBlock≠some gf
section
variable {K:PC} {w wx wy:World} {gR gf:Nat} {nm:Bt} {vp:Value} {nn:Nat} {xs:List Value} {at2 at3:Nat} {r r3:List Tk}
theorem FD.gr (d:FD K w gR gf nm vp nn xs at2 r wx) (hp:PAt wy K at3 r3) (hg:wx.grownBy wy (some K.g)):FD K w gR gf nm vp nn xs at3 r3 wy:=by
 have hl:=d.ms.gl
 obtain⟨n1,n2,n3,n4⟩:=d.ne
 exact⟨d.ms.call hp hg,d.rc.grw hg (by intro e;injection e with e;omega),d.fc.grw hg (by intro e;injection e with e;omega),Yx d.own hg hl,d.ne⟩
theorem FD.sn (d:FD K w gR gf nm vp nn xs at2 r wx) (m2:Bt):FD K w gR gf m2 vp nn xs at2 r (wx.setCell ⟨gf,0,none⟩ (.string (st m2))):=by
 obtain⟨n1,n2,n3,n4⟩:=d.ne
 exact⟨d.ms.sc (p:=⟨gf,0,none⟩) (by show _<=gf;omega) _,d.rc.s1 (p:=⟨gf,0,none⟩) (by show gR≠gf;omega),d.fc.sn m2,d.own.kept (Xu wx gf 0 _) (.inr n4),d.ne⟩
theorem FD.push (d:FD K w gR gf nm vp nn xs at2 r wx) {ob:Obj} {g9 c9:Nat} {w9:World} {ys:List Value} (hg9:(wx.alloc ob).grownBy w9 vp.ownBlock) (h9:vp.ownBlock=some g9\/g9=(wx.alloc ob).heap.size) (ho:w9.ownsRow w.heap.size 9 1 (.slice (some ⟨g9,0,none⟩) (nn+1) c9) (nn+1) ys) :
  FD K w gR gf nm (.slice (some ⟨g9,0,none⟩) (nn+1) c9) (nn+1) ys at2 r (w9.setCell ⟨gf,2,none⟩ (.slice (some ⟨g9,0,none⟩) (nn+1) c9))/\Lf w9 gf nm 0 vp Yk:=by
 obtain⟨n1,n2,n3,n4⟩:=d.ne
 have l1:=d.rc.lt
 have l2:=d.fc.lt
 have hsA:(wx.alloc ob).heap.size=wx.heap.size+1:=by simp
 have q1:g9≠gR:=by rcases h9 with e|e;(intro e2;rw[e,e2] at n3;exact n3 rfl);omega
 have q2:g9≠gf:=by rcases h9 with e|e;(intro e2;rw[e,e2] at n4;exact n4 rfl);omega
 have f9:=(d.fc.al ob).grw hg9 n4
 refine⟨⟨((d.ms.al ob).own hg9 (λ k2 e=>(d.own.lt k2 e).1)).sc (p:=⟨gf,2,none⟩) (by show _<=gf;omega) _,((d.rc.al ob).grw hg9 n3).s1 (p:=⟨gf,2,none⟩) (by show gR≠gf;omega),f9.sp _,ho.kept (Xu w9 gf 2 _) (.inr (by show some g9≠some gf;simp;exact q2)),n1,n2,?_,?_⟩,f9⟩
 ·show some g9≠some gR;simp;exact q1
 show some g9≠some gf;simp;exact q2
theorem Gg {rest:List Tk} {n0:Bt} {l0:Int} {p0 b0:Value} (M:MS K w wx at2 r) (R:Lf wx gR n0 l0 p0 b0) (b1:w.heap.size<=gR) (hl:r.length<=rest.length) (nm:Bt) (pa:Option Addr) (pn pc:Nat) (ba:Option Addr) (bn bc:Nat) (ok:Bool)
  (Ha:(ok=true/\∃ ps S,Fs rest (.ok nm ps S r)/\Vw wx (λ b=>w.heap.size<=b/\b≠gR) ps (.slice pa pn pc)/\Xf wx (λ b=>w.heap.size<=b/\b≠gR) S (.slice ba bn bc)/\r.length<rest.length)\/(ok=false/\Fs rest (.bad r))) (W:World) (hW:W=set4 wx gR (.string (st nm)) (.int .i64 0) (.slice pa pn pc) (.slice ba bn bc)) :
  Lf W gR nm 0 (.slice pa pn pc) (.slice ba bn bc)/\FuQ K rest w (.returned (.tuple #[fnv nm 0 (.slice pa pn pc) (.slice ba bn bc),.bool ok])) W:=by
 subst hW
 have h2:=(((M.sc (p:=⟨gR,0,none⟩) b1 (.string (st nm))).sc (p:=⟨gR,1,none⟩) b1 (.int .i64 0)).sc (p:=⟨gR,2,none⟩) b1 (.slice pa pn pc)).sc (p:=⟨gR,3,none⟩) b1 (.slice ba bn bc)
 have key:∀ b,b≠gR->(set4 wx gR (.string (st nm)) (.int .i64 0) (.slice pa pn pc) (.slice ba bn bc)).heap[b]?=wx.heap[b]?:=λ b hb=>by
  rw[heap_setCell_other _ _ b _ hb,heap_setCell_other _ _ b _ hb,heap_setCell_other _ _ b _ hb,heap_setCell_other _ _ b _ hb]
 have hsz:wx.heap.size<=(set4 wx gR (.string (st nm)) (.int .i64 0) (.slice pa pn pc) (.slice ba bn bc)).heap.size:=by simp[World.setCell]
 refine⟨R.s4 _ _ _ _,nm,pa,pn,pc,ba,bn,bc,ok,at2,r,rfl,h2.pat,hl,h2.gr,Xj ?_⟩
 rcases Ha with⟨e1,ps,S,e2,e3,e4,e5⟩|e
 ·exact .inl ⟨e1,ps,S,e2,e3.keep (λ b hb _=>⟨key b hb.2,hb.1⟩) hsz,e4.keep (λ b hb _=>⟨key b hb.2,hb.1⟩) hsz,e5⟩
 exact .inr e
end
theorem Dl (K:PC) (at_:Nat) (rest:List Tk) (w:World) (hP:PAt w K at_ rest):Calls Tryz.prog 101 #[.pointer (some ⟨K.g,0,none⟩)] w (FuQ K rest w):=by
 have HSZ:Xq ((w.alloc zfn).heap.size=w.heap.size+1):=Xj (by simp)
 have HD1:Xq (FD K w w.heap.size (w.alloc zfn).heap.size [] Yk 0 [] at_ rest ((w.alloc zfn).alloc zfn)):=Xj ⟨((MS.init hP).al zfn).al zfn,(Lf.zero w).al zfn,Lf.zero (w.alloc zfn),World.ownsRow_nil _ _ _ _,Nat.le_refl _,by simp,(λ e=>nomatch e),(λ e=>nomatch e)⟩
 have HRT:Xq (rest.tail.length<rest.length):=Xj (by obtain⟨x,r,e⟩:=hP.en.cons;rw[e];simp)
 clear hP
 go_enter Tryz.func101,Tryz.ntmps101
 go_upto_region 3 with fail
 rw[HSZ.o] at HD1
 obtain⟨w1,hw1⟩:∃ W,(w.alloc zfn).alloc zfn=W:=⟨_,rfl⟩
 obtain⟨gR,hgR⟩:∃ x,w.heap.size=x:=⟨_,rfl⟩
 (try rw[show (w.alloc (.cells #[.string { data := #[] },.int .i64 0,.slice none 0 0,.slice none 0 0] 63)).alloc (.cells #[.string { data := #[] },.int .i64 0,.slice none 0 0,.slice none 0 0] 63)=w1 from hw1])
 rw[hw1,hgR] at HD1
 (try rw[hgR])
 obtain⟨gf,hgf⟩:∃ x,gR+1=x:=⟨_,rfl⟩
 rw[hgf] at HD1
 (try rw[hgf])
 clear hw1 hgR hgf HSZ
 go_wp2_with fail
 refine(Vz K at_ rest w1 HD1.o.ms.pat).mono ?_
 rintro e w2 ⟨at2,r2,hp2,hg2,hc2⟩
 have HD2:=Xj (HD1.o.gr hp2 hg2)
 clear hp2 hg2 HD1
 obtain⟨nm,hnm⟩:∃ x,tOf rest=x:=⟨_,rfl⟩
 have HNM:=Xj hnm
 (try rw[hnm] at hc2)
 clear hnm
 rcases hc2 with⟨hk1,rfl,ha2,hr2⟩|⟨hk1,rfl,ha2,hr2⟩<;>subst at2 r2
 rotate_left
 ·have HK1:=Xj hk1
  clear hk1
  obtain⟨s0,s1,s2,s3⟩:=HD2.o.fc.cells
  obtain⟨j0,j1,j2,j3⟩:=HD2.o.fc.froz
  have hlS:=HD2.o.fc.lt
  have HD3:=Xj (HD2.o.sn [])
  go_upto_region 4 with fail
  obtain⟨w3,hw3⟩:∃ W,w2.setCell ⟨gf,0,none⟩ (.string (st []))=W:=⟨_,rfl⟩
  (try rw[hw3])
  (try rw[show w2.setCell ⟨gf,0,none⟩ (.string { data := #[] })=w3 from hw3])
  rw[hw3] at HD3
  clear hw3 s0 s1 s2 s3 j0 j1 j2 j3 hlS HD2
  obtain⟨y0,y1,y2,y3⟩:=HD3.o.rc.cells
  obtain⟨g0,g1,g2,g3⟩:=HD3.o.rc.froz
  have hlR:=HD3.o.rc.lt
  obtain⟨s0,s1,s2,s3⟩:=HD3.o.fc.cells
  have hlS:=HD3.o.fc.lt
  go_wp2_with fail
  have hZ:=Gg (rest:=rest) HD3.o.ms HD3.o.rc HD3.o.ne.1 (Nat.le_refl _) [] none 0 0 none 0 0 false (.inr ⟨rfl,Fs.name HK1.o⟩)
  obtain⟨wz,hwz⟩:∃ W,set4 w3 gR (.string (st [])) (.int .i64 0) (.slice none 0 0) (.slice none 0 0)=W:=⟨_,rfl⟩
  have hY:=hwz
  unfold set4 at hY
  (try rw[hY])
  obtain⟨hd,hep⟩:=hZ wz hwz.symm
  obtain⟨d0,d1,d2,d3⟩:=hd.cells
  clear hZ
  refine bodyPost_ret (v:=.tuple #[fnv [] 0 (.slice none 0 0) (.slice none 0 0),.bool false]) (by simp[results,Tryz.results101,go_sem,d0,d1,d2,d3]) rfl ?_
  exact hep
 have HK1:=Xj hk1
 clear hk1
 obtain⟨s0,s1,s2,s3⟩:=HD2.o.fc.cells
 obtain⟨j0,j1,j2,j3⟩:=HD2.o.fc.froz
 have hlS:=HD2.o.fc.lt
 have HD3:=Xj (HD2.o.sn nm)
 go_upto_region 4 with fail
 obtain⟨w3,hw3⟩:∃ W,w2.setCell ⟨gf,0,none⟩ (.string (st nm))=W:=⟨_,rfl⟩
 (try rw[hw3])
 rw[hw3] at HD3
 clear hw3 s0 s1 s2 s3 j0 j1 j2 j3 hlS HD2
 go_wp2_with fail
 refine(Xn K (at_+1) rest.tail [40] w3 HD3.o.ms.pat).mono ?_
 rintro e w4 ⟨at5,r5,rfl,hp5,hg5,hc5⟩
 have HD4:=Xj (HD3.o.gr hp5 hg5)
 clear hp5 hg5 HD3
 rcases hc5 with⟨hT,ha5,hr5⟩|⟨hT,ha5,hr5⟩<;>subst at5 r5
 rotate_left
 ·have HP:=Xj hT
  (try rw[hT])
  clear hT
  obtain⟨y0,y1,y2,y3⟩:=HD4.o.rc.cells
  obtain⟨g0,g1,g2,g3⟩:=HD4.o.rc.froz
  have hlR:=HD4.o.rc.lt
  obtain⟨s0,s1,s2,s3⟩:=HD4.o.fc.cells
  have hlS:=HD4.o.fc.lt
  go_wp2_with fail
  have hZ:=Gg (rest:=rest) HD4.o.ms HD4.o.rc HD4.o.ne.1 (by have:=HRT.o;simp only[List.length_tail] at *;omega) nm none 0 0 none 0 0 false (.inr ⟨rfl,Fs.par HK1.o HP.o⟩)
  obtain⟨wz,hwz⟩:∃ W,set4 w4 gR (.string (st nm)) (.int .i64 0) (.slice none 0 0) (.slice none 0 0)=W:=⟨_,rfl⟩
  have hY:=hwz
  unfold set4 at hY
  (try rw[hY])
  obtain⟨hd,hep⟩:=hZ wz hwz.symm
  obtain⟨d0,d1,d2,d3⟩:=hd.cells
  clear hZ
  refine bodyPost_ret (v:=.tuple #[fnv nm 0 (.slice none 0 0) (.slice none 0 0),.bool false]) (by simp[results,Tryz.results101,go_sem,d0,d1,d2,d3]) rfl ?_
  exact hep
 have HP:=Xj hT
 (try rw[hT])
 clear hT
 have HLP:Xq (rest.tail.tail.length<rest.length):=Xj (by have:=HRT.o;simp only[List.length_tail] at *;omega)
 go_upto_block 0 with fail
 go_wp2_with fail
 go_loopw [6,7] (λ _ _ wr=>∃ (ps:List Bt) (a:Option Addr) (n c:Nat) (xs:List Value) (at3:Nat) (r3:List Tk),Xq (FD K w gR gf nm (.slice a n c) n xs at3 r3 wr/\xs=ps.map (λ x=>Value.string (st x))/\n=ps.length/\n<=at3/\r3.length<rest.length/\(∀ y,Pr ps r3 y->Pr [] rest.tail.tail y))) (λ _ _ wr=>K.ts.length-natAt wr K.g)
 case atStart=>exact⟨[],none,0,0,[],at_+1+1,rest.tail.tail,Xj ⟨HD4.o,rfl,rfl,by omega,HLP.o,λ y h=>h⟩⟩
 rename World=>wa
 obtain⟨ps,a,n,c,xs,at3,r3,HI⟩:=hrel
 go_wp2_with fail
 refine(Xn K at3 r3 [41] wa HI.o.1.ms.pat).mono ?_
 rintro e w5 ⟨at5,r5,rfl,hp5,hg5,hc5⟩
 have HD5:=Xj (HI.o.1.gr hp5 hg5)
 clear hp5 hg5
 rcases hc5 with⟨hT,ha5,hr5⟩|⟨hT,ha5,hr5⟩<;>subst at5 r5
 ·have HC:=Xj hT
  (try rw[hT])
  clear hT
  have HL5:Xq (r3.tail.length<rest.length):=Xj (by have:=HI.o.2.2.2.2.1;simp only[List.length_tail];omega)
  go_wp2_with fail
  refine(Bp K (at3+1) r3.tail w5 HD5.o.ms.pat).mono ?_
  rintro e w6 ⟨ba,bn,bc,ok,at6,r6,rfl,hp6,hfh,hg6,hzk⟩
  have HD6:=Xj (HD5.o.gr hp6 hg6)
  have HL6:Xq (r6.length<rest.length):=Xj (by have:=HL5.o;omega)
  have HR6:Xq ((ok=true/\∃ S,Qs .bl r3.tail (.ok S r6)/\Xf w6 (λ b=>w.heap.size<=b/\b≠gR/\b≠gf) S (.slice ba bn bc))\/(ok=false/\Qs .bl r3.tail (.bad r6))):=Xj (by
   rcases hzk.o with⟨e1,S,e2,e3⟩|hr
   ·exact .inl ⟨e1,S,e2,Qj e3 (λ b hb _=>by have:=HD5.o.ms.gr.size;have:=HD5.o.rc.lt;have:=HD5.o.fc.lt;exact⟨by omega,by omega,by omega⟩)⟩
   exact .inr hr)
  clear hp6 hfh hg6 hzk HD5
  obtain⟨s0,s1,s2,s3⟩:=HD6.o.fc.cells
  obtain⟨j0,j1,j2,j3⟩:=HD6.o.fc.froz
  have hlS:=HD6.o.fc.lt
  have HM7:=Xj (HD6.o.ms.sc (p:=⟨gf,3,none⟩) (by have:=HD6.o.ne;show w.heap.size<=gf;omega) (.slice ba bn bc))
  have HR7:=Xj (HD6.o.rc.s1 (p:=⟨gf,3,none⟩) (v:=.slice ba bn bc) (by have:=HD6.o.ne;show gR≠gf;omega))
  have HF7:=Xj (HD6.o.fc.sb (.slice ba bn bc))
  have HO7:=Xj (HD6.o.own.kept (Xu w6 gf 3 (.slice ba bn bc)) (.inr HD6.o.ne.2.2.2))
  have HNE:=Xj HD6.o.ne
  have HS7:Xq ((ok=true/\∃ S,Qs .bl r3.tail (.ok S r6)/\Xf (w6.setCell ⟨gf,3,none⟩ (.slice ba bn bc)) (λ b=>w.heap.size<=b/\b≠gR) S (.slice ba bn bc))\/(ok=false/\Qs .bl r3.tail (.bad r6))):=Xj (by
   rcases HR6.o with⟨e1,S,e2,e3⟩|hr
   ·exact .inl ⟨e1,S,e2,Qj (Du (p:=⟨gf,3,none⟩) (v:=.slice ba bn bc) e3 (λ b hb=>hb.2.2)) (λ b hb _=>⟨hb.1,hb.2.1⟩)⟩
   exact .inr hr)
  go_upto_region 14 with fail
  obtain⟨w7,hw7⟩:∃ W,w6.setCell ⟨gf,3,none⟩ (.slice ba bn bc)=W:=⟨_,rfl⟩
  (try rw[hw7])
  rw[hw7] at HM7 HR7 HF7 HO7 HS7
  clear hw7 s0 s1 s2 s3 j0 j1 j2 j3 hlS HD6 HR6
  have HPS:Xq (Vw w7 (λ b=>w.heap.size<=b/\b≠gR) ps (.slice a n c)):=Xj (by
   obtain⟨a',c',e,h1,h2,h3,h4,h5⟩:=Yd.of_own HO7.o
   injection e with e1 _ e3
   subst e1 e3
   refine⟨a,c,by rw[HI.o.2.2.1],by rw[<- HI.o.2.2.1];exact h2,h3,λ hx=>?_⟩
   rw[<- HI.o.2.1] at hx ⊢
   obtain⟨b,off,e,hb,hc⟩:=h4 hx
   exact⟨b,off,e,⟨h5 _ e,λ e2=>HNE.o.2.2.1 (by rw[e,<- e2];rfl)⟩,hb,hc⟩)
  obtain⟨y0,y1,y2,y3⟩:=HR7.o.cells
  obtain⟨g0,g1,g2,g3⟩:=HR7.o.froz
  have hlR:=HR7.o.lt
  obtain⟨s0,s1,s2,s3⟩:=HF7.o.cells
  have hlS:=HF7.o.lt
  go_wp2_with fail
  have hZ:=Gg (rest:=rest) HM7.o HR7.o HNE.o.1 (Nat.le_of_lt HL6.o) nm a n c ba bn bc ok (by
   have hpr:=HI.o.2.2.2.2.2 _ (Pr.fin HC.o)
   rcases HS7.o with⟨e1,S,e2,e3⟩|⟨e1,e2⟩
   ·have hok:=Fs.ok (ts:=rest) HK1.o HP.o hpr e2
    rw[HNM.o] at hok
    exact .inl ⟨e1,ps,S,hok,HPS.o,e3,HL6.o⟩
   exact .inr ⟨e1,Fs.bbad HK1.o HP.o hpr e2⟩)
  obtain⟨wz,hwz⟩:∃ W,set4 w7 gR (.string (st nm)) (.int .i64 0) (.slice a n c) (.slice ba bn bc)=W:=⟨_,rfl⟩
  have hY:=hwz
  unfold set4 at hY
  (try rw[hY])
  obtain⟨hd,hep⟩:=hZ wz hwz.symm
  obtain⟨d0,d1,d2,d3⟩:=hd.cells
  clear hZ
  refine bodyPost_ret (v:=.tuple #[fnv nm 0 (.slice a n c) (.slice ba bn bc),.bool ok]) (by simp[results,Tryz.results101,go_sem,d0,d1,d2,d3]) rfl ?_
  exact hep
 have HC:=Xj hT
 (try rw[hT])
 clear hT
 have HUP:Xq ((uP ps r3).length<=r3.length):=Xj (by unfold uP;split<;>simp)
 go_upto_region 7 with fail
 go_cut [33] from 25 to 33 (λ v33 wx=>∃ (b:Bool) (at6:Nat) (r6:List Tk),v33=.bool b/\Xq (FD K w gR gf nm (.slice a n c) n xs at6 r6 wx/\((b=true/\ps≠[]/\isT [44] r3=false/\r6=r3)\/(b=false/\(ps≠[]->isT [44] r3=true)/\r6=uP ps r3/\at3<=at6))))
 case first =>
  obtain⟨s0,s1,s2,s3⟩:=HD5.o.fc.cells
  have hlS:=HD5.o.fc.lt
  by_cases hn0:n=0
  ·have hps:ps=[]:=List.eq_nil_of_length_eq_zero (by rw[<- HI.o.2.2.1];exact hn0)
   have HPS:=Xj hps
   subst hn0
   clear hps
   go_wp2_with fail
   go_meet
   exact⟨false,at3,r3,rfl,Xj ⟨HD5.o,.inr ⟨rfl,λ h=>absurd HPS.o h,by unfold uP;rw[if_pos HPS.o],Nat.le_refl _⟩⟩⟩
  have hps:ps≠[]:=λ e=>hn0 (by rw[HI.o.2.2.1,e];rfl)
  have HPS:=Xj hps
  have hn1:(0:Int)<(n:Int):=by omega
  have dn:decide ((0:Int)<(n:Int))=true:=decide_eq_true hn1
  have dn2:decide (0<n)=true:=decide_eq_true (by omega)
  clear hps
  go_wp2_with fail
  refine(Xn K at3 r3 [44] w5 HD5.o.ms.pat).mono ?_
  rintro e w6 ⟨at7,r7,rfl,hp7,hg7,hc7⟩
  have HD6:=Xj (HD5.o.gr hp7 hg7)
  clear hp7 hg7
  rcases hc7 with⟨hT,ha7,hr7⟩|⟨hT,ha7,hr7⟩<;>subst at7 r7
  ·have HT:=Xj hT
   (try rw[hT])
   clear hT
   go_wp2_with fail
   go_meet
   exact⟨false,_,_,rfl,Xj ⟨HD6.o,.inr ⟨rfl,λ _=>HT.o,by unfold uP;rw[if_neg HPS.o],by omega⟩⟩⟩
  have HT:=Xj hT
  (try rw[hT])
  clear hT
  go_wp2_with fail
  go_meet
  exact⟨true,_,_,rfl,Xj ⟨HD6.o,.inl ⟨rfl,HPS.o,HT.o,rfl⟩⟩⟩
 case rest =>
 rename World=>wq
 clear HD5
 obtain⟨b,at6,r6,rfl,HC6⟩:=hcut
 have HL6:Xq (r6.length<rest.length):=Xj (by
  have h1:=HI.o.2.2.2.2.1
  have h2:=HUP.o
  rcases HC6.o.2 with⟨_,_,_,e⟩|⟨_,_,e,_⟩
  ·rw[e];exact h1
  rw[e];omega)
 have HD6:Xq (FD K w gR gf nm (.slice a n c) n xs at6 r6 wq):=Xj HC6.o.1
 cases b
 rotate_left
 ·have HBD:Xq (Fs rest (.bad r6)):=Xj (by
   rcases HC6.o.2 with⟨_,e1,e2,e3⟩|⟨e1,_⟩
   ·rw[e3];exact Fs.pbad HK1.o HP.o (HI.o.2.2.2.2.2 _ (Pr.no HC.o e1 e2))
   cases e1)
  obtain⟨y0,y1,y2,y3⟩:=HD6.o.rc.cells
  obtain⟨g0,g1,g2,g3⟩:=HD6.o.rc.froz
  have hlR:=HD6.o.rc.lt
  obtain⟨s0,s1,s2,s3⟩:=HD6.o.fc.cells
  have hlS:=HD6.o.fc.lt
  go_wp2_with fail
  have hZ:=Gg (rest:=rest) HD6.o.ms HD6.o.rc HD6.o.ne.1 (Nat.le_of_lt HL6.o) nm a n c none 0 0 false (.inr ⟨rfl,HBD.o⟩)
  obtain⟨wz,hwz⟩:∃ W,set4 wq gR (.string (st nm)) (.int .i64 0) (.slice a n c) (.slice none 0 0)=W:=⟨_,rfl⟩
  have hY:=hwz
  unfold set4 at hY
  (try rw[hY])
  obtain⟨hd,hep⟩:=hZ wz hwz.symm
  obtain⟨d0,d1,d2,d3⟩:=hd.cells
  clear hZ
  refine bodyPost_ret (v:=.tuple #[fnv nm 0 (.slice a n c) (.slice none 0 0),.bool false]) (by simp[results,Tryz.results101,go_sem,d0,d1,d2,d3]) rfl ?_
  exact hep
 have HX6:Xq ((ps≠[]->isT [44] r3=true)/\r6=uP ps r3/\at3<=at6):=Xj (by
  rcases HC6.o.2 with⟨e1,_⟩|⟨_,h⟩
  ·cases e1
  exact h)
 clear HC6
 go_wp2_with fail
 refine(Vz K at6 r6 wq HD6.o.ms.pat).mono ?_
 rintro e w7 ⟨at7,r7,hp7,hg7,hc7⟩
 have HD7:=Xj (HD6.o.gr hp7 hg7)
 clear hp7 hg7 HD6
 obtain⟨pn,hpn⟩:∃ x,tOf r6=x:=⟨_,rfl⟩
 have HPN:=Xj hpn
 (try rw[hpn] at hc7)
 clear hpn
 rcases hc7 with⟨hk7,rfl,ha7,hr7⟩|⟨hk7,rfl,ha7,hr7⟩<;>subst at7 r7
 rotate_left
 ·have HBD:Xq (Fs rest (.bad r6)):=Xj (Fs.pbad HK1.o HP.o (HI.o.2.2.2.2.2 _ (Pr.nm HC.o HX6.o.1 HX6.o.2.1 hk7)))
  clear hk7
  obtain⟨y0,y1,y2,y3⟩:=HD7.o.rc.cells
  obtain⟨g0,g1,g2,g3⟩:=HD7.o.rc.froz
  have hlR:=HD7.o.rc.lt
  obtain⟨s0,s1,s2,s3⟩:=HD7.o.fc.cells
  have hlS:=HD7.o.fc.lt
  go_wp2_with fail
  have hZ:=Gg (rest:=rest) HD7.o.ms HD7.o.rc HD7.o.ne.1 (Nat.le_of_lt HL6.o) nm a n c none 0 0 false (.inr ⟨rfl,HBD.o⟩)
  obtain⟨wz,hwz⟩:∃ W,set4 w7 gR (.string (st nm)) (.int .i64 0) (.slice a n c) (.slice none 0 0)=W:=⟨_,rfl⟩
  have hY:=hwz
  unfold set4 at hY
  (try rw[hY])
  obtain⟨hd,hep⟩:=hZ wz hwz.symm
  obtain⟨d0,d1,d2,d3⟩:=hd.cells
  clear hZ
  refine bodyPost_ret (v:=.tuple #[fnv nm 0 (.slice a n c) (.slice none 0 0),.bool false]) (by simp[results,Tryz.results101,go_sem,d0,d1,d2,d3]) rfl ?_
  exact hep
 have HK7:=Xj hk7
 clear hk7
 obtain⟨s0,s1,s2,s3⟩:=HD7.o.fc.cells
 obtain⟨j0,j1,j2,j3⟩:=HD7.o.fc.froz
 have hlS:=HD7.o.fc.lt
 have hql:=HD7.o.ms.gr.size
 have hn3:n<=100000:=by have:=HI.o.2.2.2.1;have:=HI.o.1.ms.pat.lt;have:=HI.o.1.ms.pat.n;omega
 obtain⟨i0,hi0,hz0,hz1,hz2⟩:=info_parts Tryz.infoStr
 have HIF:=Xj hi0
 have HZ0:=Xj hz0
 have HZ1:=Xj hz1
 have HZ2:=Xj hz2
 clear hi0 hz0 hz1 hz2
 have HOA:=Xj (HD7.o.own.alloc (.cells #[.string (st pn)] 9))
 go_wp2_with (at_builtin;refine wpList_append_lies _ rfl _ _ _ rfl w.heap.size 9 i0 _ 1 16 Tryz.underlying42 HIF.o HZ0.o HZ1.o HZ2.o rfl (by omega) _ _ _ rfl HOA.o ⟨w7.heap.size,0,none⟩ 1 1 [.string (st pn)] rfl rfl (World.news_of_block (cs := #[.string (st pn)]) (t:=9) (fr:=(0,0)) (heap_alloc_new w7 _)) (by simp[Value.oneCell']) (by omega) (by unfold maxLen;omega) (by omega) (by simp;omega) _ rfl ?_;intro g9 c9 w9 hown9 hgrow9 hor9 hlt9;have HO9:=Xj hown9;have HPU:=Xj (HD7.o.push hgrow9 hor9 hown9);obtain⟨q0,q1,q2,q3⟩:=HPU.o.2.cells;obtain⟨k0,k1,k2,k3⟩:=HPU.o.2.froz;have hl9:=HPU.o.2.lt;clear hown9 hgrow9 hor9 hlt9)
 go_roundw
 case rel=>exact⟨ps++[pn],some ⟨g9,0,none⟩,n+1,c9,xs++[.string (st pn)],at6+1,r6.tail,Xj ⟨HPU.o.1,by rw[HI.o.2.1];simp,by rw[HI.o.2.2.1];simp,by have:=HI.o.2.2.2.1;have:=HX6.o.2.2;omega,by have:=HL6.o;simp only[List.length_tail];omega,λ y hy=>HI.o.2.2.2.2.2 _ (Pr.more HC.o HX6.o.1 HX6.o.2.1 HK7.o (by rw[HPN.o];exact hy))⟩⟩
 have h1:=HPU.o.1.ms.pat.natAt
 have h2:=HI.o.1.ms.pat.natAt
 have h3:=HPU.o.1.ms.pat.lt
 have h4:=HX6.o.2.2
 rw[h1,h2]
 omega
end
section
def gcs (gs:List (Bt×Int)):List Value:=gs.flatMap λ x=>[Value.string (st x.1),.int .i64 x.2]
theorem If (gs:List (Bt×Int)) (x:Bt×Int):gcs (gs++[x])=gcs gs++[.string (st x.1),.int .i64 x.2]:=by simp[gcs]
def Vd (w:World) (P:Nat->Prop):List Fu->List Value->Prop
 | [],cs=>cs=[]
 | f::l,cs=>∃ vp vb cs',cs=[.string (st f.nm),.int .i64 f.ln,vp,vb]++cs'/\Vw w P f.ps vp/\Xf w P f.S vb/\Vd w P l cs'
theorem Vd.keep {w w':World} {P Q:Nat->Prop} {l:List Fu} {cs:List Value} (h:Vd w P l cs) (hk:∀ b,P b->b<w.heap.size->w'.heap[b]?=w.heap[b]?/\Q b) (hs:w.heap.size<=w'.heap.size):Vd w' Q l cs:=by
 induction l generalizing cs with
 | nil=>exact h
 | cons f l ih =>
  obtain⟨vp,vb,cs',e,h1,h2,h3⟩:=h
  exact⟨vp,vb,cs',e,h1.keep hk hs,h2.keep hk hs,ih h3⟩
theorem Vd.snoc {w:World} {P:Nat->Prop} {l:List Fu} {cs:List Value} {f:Fu} {vp vb:Value} (h:Vd w P l cs) (hp:Vw w P f.ps vp) (hb:Xf w P f.S vb):Vd w P (l++[f]) (cs++[.string (st f.nm),.int .i64 f.ln,vp,vb]):=by
 induction l generalizing cs with
 | nil=>rw[show cs=[] from h];exact⟨vp,vb,[],by simp,hp,hb,rfl⟩
 | cons g l ih =>
  obtain⟨vp',vb',cs',e,h1,h2,h3⟩:=h
  exact⟨vp',vb',cs'++[.string (st f.nm),.int .i64 f.ln,vp,vb],by rw[e];simp,h1,h2,ih h3⟩
def Lo (wx:World) (b:Nat) (va vb:Value):Prop:=wx.heap[b]?=some (.cells #[va,vb] 29 (0,0))
section
variable {wx wy:World} {b:Nat} {va vb:Value}
theorem Lo.lt (h:Lo wx b va vb):b<wx.heap.size:=Xv h
theorem Lo.al (h:Lo wx b va vb) (o:Obj):Lo (wx.alloc o) b va vb:=(Below.heap_alloc wx o b h.lt).trans h
theorem Lo.be (h:Lo wx b va vb) (hb:Below wx.heap.size wx wy):Lo wy b va vb:=(hb.block b h.lt).trans h
theorem Lo.grw {row:Option Nat} (h:Lo wx b va vb) (hg:wx.grownBy wy row) (hn:row≠some b):Lo wy b va vb:=(hg.block b h.lt (λ e=>hn e.symm)).trans h
theorem Lo.s1 (h:Lo wx b va vb) {p:Addr} {v:Value} (hn:b≠p.block):Lo (wx.setCell p v) b va vb:=(heap_setCell_other wx p b v hn).trans h
theorem Lo.s0 (h:Lo wx b va vb) (v:Value):Lo (wx.setCell ⟨b,0,none⟩ v) b v vb:=heap_setCell_same wx b 0 _ _ _ h
theorem Lo.sf (h:Lo wx b va vb) (v:Value):Lo (wx.setCell ⟨b,1,none⟩ v) b va v:=heap_setCell_same wx b 1 _ _ _ h
theorem Lo.s2 (h:Lo wx b va vb) (a2 b2:Value):Lo ((wx.setCell ⟨b,0,none⟩ a2).setCell ⟨b,1,none⟩ b2) b a2 b2:=heap_setCell_same _ b 1 _ _ _ (heap_setCell_same wx b 0 _ _ _ h)
theorem Lo.cells (h:Lo wx b va vb):wx.cell? ⟨b,0,none⟩=some va/\wx.cell? ⟨b,1,none⟩=some vb:=⟨cell_of_row _ b 0 _ _ _ h,cell_of_row _ b 1 _ _ _ h⟩
theorem Lo.froz (h:Lo wx b va vb):wx.frozen? ⟨b,0,none⟩=false/\wx.frozen? ⟨b,1,none⟩=false:=⟨frozen_of_row _ b 0 _ _ h,frozen_of_row _ b 1 _ _ h⟩
end
abbrev Kr:Obj:=.cells #[.slice none 0 0,.slice none 0 0] 29
theorem Lo.zero (w:World):Lo (w.alloc Kr) w.heap.size Yk Yk:=heap_alloc_new w _
abbrev sov (va vb:Value):Value:=.agg #[va,vb]
def Jy (w:World) (P:Nat->Prop) (gs:List (Bt×Int)) (fs:List Fu) (va vb:Value):Prop :=
 ∃ (ga:Option Addr) (gc:Nat) (fa:Option Addr) (fc:Nat) (ys:List Value),va=.slice ga gs.length gc/\vb=.slice fa fs.length fc/\gs.length<=gc/\gc<=maxLen/\fs.length<=fc/\fc<=maxLen/\Wj w P ga (gcs gs)/\Wj w P fa ys/\Vd w P fs ys
theorem Jy.keep {w w':World} {P Q:Nat->Prop} {gs:List (Bt×Int)} {fs:List Fu} {va vb:Value} (h:Jy w P gs fs va vb) (hk:∀ b,P b->b<w.heap.size->w'.heap[b]?=w.heap[b]?/\Q b) (hs:w.heap.size<=w'.heap.size):Jy w' Q gs fs va vb:=by
 obtain⟨ga,gc,fa,fc,ys,h1,h2,h3,h4,h5,h6,h7,h8,h9⟩:=h
 exact⟨ga,gc,fa,fc,ys,h1,h2,h3,h4,h5,h6,h7.keep hk hs,h8.keep hk hs,h9.keep hk hs⟩
def SoQ (K:PC) (rest:List Tk) (w:World) (e:Ending) (w':World):Prop :=
 ∃ (ga:Option Addr) (gn gc:Nat) (fa:Option Addr) (fn fc:Nat) (wr:Int) (ok:Bool) (at2:Nat) (r:List Tk),e=.returned (.tuple #[sov (.slice ga gn gc) (.slice fa fn fc),.bool ok])/\PAt w' (K.mk' wr) at2 r/\w.grownBy w' (some K.g) /\
  Xq ((ok=true/\∃ gs fs,So K.wr [] [] rest (.ok gs fs wr r)/\Jy w' (λ b=>w.heap.size<=b) gs fs (.slice ga gn gc) (.slice fa fn fc))\/(ok=false/\So K.wr [] [] rest (.bad r)))
structure OD (K:PC) (w:World) (gR go:Nat) (wr:Int) (gs:List (Bt×Int)) (fs:List Fu) (va:Value) (ng:Nat) (vb:Value) (nf:Nat) (ys:List Value) (at2:Nat) (r:List Tk) (wx:World):Prop where
 ms:MS (K.mk' wr) w wx at2 r
 rc:Lo wx gR Yk Yk
 oc:Lo wx go va vb
 og:wx.ownsRow w.heap.size 60 2 va ng (gcs gs)
 lg:gs.length=ng
 of:wx.ownsRow w.heap.size 63 4 vb nf ys
 ff:Vd wx (λ b=>w.heap.size<=b/\b≠gR/\b≠go/\some b≠va.ownBlock/\some b≠vb.ownBlock) fs ys
 lf:fs.length=nf
 ne:w.heap.size<=gR/\gR<go
 na:va.ownBlock≠some gR/\va.ownBlock≠some go
 nb:vb.ownBlock≠some gR/\vb.ownBlock≠some go
 nab:va.ownBlock=none\/vb.ownBlock=none\/va.ownBlock≠vb.ownBlock
section
variable {K:PC} {w wx wy:World} {gR go:Nat} {wr wr2:Int} {gs:List (Bt×Int)} {fs:List Fu} {va vb:Value} {ng nf:Nat} {ys:List Value} {at2 at3:Nat} {r r3:List Tk}
theorem OD.gr (d:OD K w gR go wr gs fs va ng vb nf ys at2 r wx) (hp:PAt wy (K.mk' wr2) at3 r3) (hg:wx.grownBy wy (some K.g)):OD K w gR go wr2 gs fs va ng vb nf ys at3 r3 wy:=by
 have hl:K.g<w.heap.size:=d.ms.gl
 obtain⟨n1,n2⟩:=d.ne
 exact⟨⟨hp,Xp d.ms.gr hg,d.ms.gl,d.ms.tl⟩,d.rc.grw hg (by intro e;injection e with e;omega),d.oc.grw hg (by intro e;injection e with e;omega),Yx d.og hg hl,d.lg,Yx d.of hg hl,d.ff.keep (λ b hb hlt=>⟨hg.block b hlt (λ e=>by injection e with e;have:=hb.1;omega),hb⟩) hg.size,d.lf,d.ne,d.na,d.nb,d.nab⟩
theorem OD.be (d:OD K w gR go wr gs fs va ng vb nf ys at2 r wx) (hb:Below wx.heap.size wx wy):OD K w gR go wr gs fs va ng vb nf ys at2 r wy:=d.gr (d.ms.be hb).pat (Xm hb _)
end
end
section
theorem Tryz.infoGlb:(Tryz.prog.info? 60).map (λ i=>(i.zero,i.size,i.bytes))=some (some (.agg #[.string ⟨#[]⟩,.int .i64 0]),2,24):=by kernel_rfl
theorem Tryz.infoFun:(Tryz.prog.info? 63).map (λ i=>(i.zero,i.size,i.bytes))=some (some (.agg #[.string ⟨#[]⟩,.int .i64 0,.slice none 0 0,.slice none 0 0]),4,72):=by kernel_rfl
section
variable {K:PC} {w wx wy:World} {gR go:Nat} {wr wr2:Int} {gs:List (Bt×Int)} {fs:List Fu} {va vb:Value} {ng nf:Nat} {ys:List Value} {at2 at3:Nat} {r r3:List Tk}
theorem OD.zero (hP:PAt w K at2 r) (hg:w.heap.size+1=go) (hw:K.wr=wr):OD K w w.heap.size go wr [] [] Yk 0 Yk 0 [] at2 r ((w.alloc Kr).alloc Kr):=by
 subst hg hw
 refine⟨((MS.init hP).al Kr).al Kr,(Lo.zero w).al Kr,?_,World.ownsRow_nil _ _ _ _,rfl,World.ownsRow_nil _ _ _ _,rfl,rfl,⟨Nat.le_refl _,by omega⟩,⟨(λ e=>nomatch e),(λ e=>nomatch e)⟩,⟨(λ e=>nomatch e),(λ e=>nomatch e)⟩,.inl rfl⟩
 have h:=Lo.zero (w.alloc Kr)
 have e:(w.alloc Kr).heap.size=w.heap.size+1:=by simp
 rw[e] at h
 exact h
theorem OD.al (d:OD K w gR go wr gs fs va ng vb nf ys at2 r wx) (o:Obj):OD K w gR go wr gs fs va ng vb nf ys at2 r (wx.alloc o):=d.be (Xw wx o)
theorem OD.pg (d:OD K w gR go wr gs fs va ng vb nf ys at2 r wx) {g9 c9:Nat} {w9:World} {x:Bt×Int} {ob:Obj} (hg9:(wx.alloc ob).grownBy w9 va.ownBlock) (h9:va.ownBlock=some g9\/g9=(wx.alloc ob).heap.size) (ho:w9.ownsRow w.heap.size 60 2 (.slice (some ⟨g9,0,none⟩) (ng+1) c9) (ng+1) (gcs gs++[.string (st x.1),.int .i64 x.2])) :
  OD K w gR go wr (gs++[x]) fs (.slice (some ⟨g9,0,none⟩) (ng+1) c9) (ng+1) vb nf ys at2 r (w9.setCell ⟨go,0,none⟩ (.slice (some ⟨g9,0,none⟩) (ng+1) c9))/\Lo w9 go va vb:=by
 have d':=d.al ob
 obtain⟨n1,n2⟩:=d.ne
 have l1:=d'.rc.lt
 have l2:=d'.oc.lt
 have q1:g9≠gR:=by rcases h9 with e|e;(intro e2;exact d.na.1 (by rw[e,e2]));omega
 have q2:g9≠go:=by rcases h9 with e|e;(intro e2;exact d.na.2 (by rw[e,e2]));omega
 have q3:vb.ownBlock≠some g9:=by
  intro e
  rcases h9 with e2|e2
  ·rcases d.nab with h|h|h
   ·rw[h] at e2;cases e2
   ·rw[h] at e;cases e
   exact h (e2.trans e.symm)
  have:=(d'.of.lt _ e).2;omega
 have f9:=d'.oc.grw hg9 d.na.2
 refine⟨⟨(d'.ms.own hg9 (λ k2 e=>(d'.og.lt k2 e).1)).sc (p:=⟨go,0,none⟩) (by show _<=go;omega) _,(d'.rc.grw hg9 d.na.1).s1 (p:=⟨go,0,none⟩) (by show gR≠go;omega),f9.s0 _,?_,by simp[d.lg],?_,?_,d.lf,d.ne,⟨?_,?_⟩,d.nb,.inr (.inr (λ e=>q3 e.symm))⟩,f9⟩
 ·rw[If];exact ho.kept (Xu w9 go 0 _) (.inr (by show some g9≠some go;simp;exact q2))
 ·refine(d'.of.kept hg9 ?_).kept (Xu w9 go 0 _) (.inr d.nb.2)
  rcases d.nab with h|h|h
  ·rw[h]
   cases hv:vb.ownBlock with
   | none=>exact .inl rfl
   | some k=>exact .inr (λ e=>nomatch e)
  ·exact .inl h
  exact .inr (λ e=>h e.symm)
 ·refine d'.ff.keep (λ b hb hlt=>⟨?_,hb.1,hb.2.1,hb.2.2.1,?_,hb.2.2.2.2⟩) (Nat.le_trans hg9.size (by simp[World.setCell]))
  ·exact(heap_setCell_other _ _ _ _ (by show b≠go;exact hb.2.2.1)).trans (hg9.block b hlt hb.2.2.2.1)
  show some b≠some g9
  rcases h9 with e|e
  ·rw[<- e];exact hb.2.2.2.1
  intro e2;injection e2 with e2;omega
 ·show some g9≠some gR;simp;exact q1
 show some g9≠some go;simp;exact q2
theorem OD.pf (d:OD K w gR go wr gs fs va ng vb nf ys at2 r wx) {g9 c9:Nat} {w9:World} {x:Fu} {vp vq:Value} {ob:Obj} (hg9:(wx.alloc ob).grownBy w9 vb.ownBlock) (h9:vb.ownBlock=some g9\/g9=(wx.alloc ob).heap.size) (ho:w9.ownsRow w.heap.size 63 4 (.slice (some ⟨g9,0,none⟩) (nf+1) c9) (nf+1) (ys++[.string (st x.nm),.int .i64 x.ln,vp,vq]))
  (hp:Vw wx (λ b=>w.heap.size<=b/\b≠gR/\b≠go/\some b≠va.ownBlock/\some b≠vb.ownBlock) x.ps vp) (hs:Xf wx (λ b=>w.heap.size<=b/\b≠gR/\b≠go/\some b≠va.ownBlock/\some b≠vb.ownBlock) x.S vq) :
  OD K w gR go wr gs (fs++[x]) va ng (.slice (some ⟨g9,0,none⟩) (nf+1) c9) (nf+1) (ys++[.string (st x.nm),.int .i64 x.ln,vp,vq]) at2 r (w9.setCell ⟨go,1,none⟩ (.slice (some ⟨g9,0,none⟩) (nf+1) c9))/\Lo w9 go va vb:=by
 have d':=d.al ob
 obtain⟨n1,n2⟩:=d.ne
 have l1:=d'.rc.lt
 have l2:=d'.oc.lt
 have q1:g9≠gR:=by rcases h9 with e|e;(intro e2;exact d.nb.1 (by rw[e,e2]));omega
 have q2:g9≠go:=by rcases h9 with e|e;(intro e2;exact d.nb.2 (by rw[e,e2]));omega
 have q3:va.ownBlock≠some g9:=by
  intro e
  rcases h9 with e2|e2
  ·rcases d.nab with h|h|h
   ·rw[h] at e;cases e
   ·rw[h] at e2;cases e2
   exact h (e.trans e2.symm)
  have:=(d'.og.lt _ e).2;omega
 have f9:=d'.oc.grw hg9 d.nb.2
 have hle:(wx.alloc ob).heap.size<=(w9.setCell ⟨go,1,none⟩ (.slice (some ⟨g9,0,none⟩) (nf+1) c9)).heap.size:=Nat.le_trans hg9.size (by simp[World.setCell])
 have key:∀ b,(w.heap.size<=b/\b≠gR/\b≠go/\some b≠va.ownBlock/\some b≠vb.ownBlock)->b<wx.heap.size->(w9.setCell ⟨go,1,none⟩ (.slice (some ⟨g9,0,none⟩) (nf+1) c9)).heap[b]?=wx.heap[b]?/\(w.heap.size<=b/\b≠gR/\b≠go/\some b≠va.ownBlock/\some b≠(Value.slice (some ⟨g9,0,none⟩) (nf+1) c9).ownBlock):=λ b hb hlt =>
  ⟨(heap_setCell_other _ _ _ _ (by show b≠go;exact hb.2.2.1)).trans ((hg9.block b (by simp;omega) hb.2.2.2.2).trans (Below.heap_alloc wx ob b hlt)),hb.1,hb.2.1,hb.2.2.1,hb.2.2.2.1,by
   show some b≠some g9
   rcases h9 with e|e
   ·rw[<- e];exact hb.2.2.2.2
   intro e2;injection e2 with e2;simp at e;omega⟩
 have hsz:wx.heap.size<=(w9.setCell ⟨go,1,none⟩ (.slice (some ⟨g9,0,none⟩) (nf+1) c9)).heap.size:=Nat.le_trans (by simp) hle
 refine⟨⟨(d'.ms.own hg9 (λ k2 e=>(d'.of.lt k2 e).1)).sc (p:=⟨go,1,none⟩) (by show _<=go;omega) _,(d'.rc.grw hg9 d.nb.1).s1 (p:=⟨go,1,none⟩) (by show gR≠go;omega),f9.sf _,?_,d.lg,ho.kept (Xu w9 go 1 _) (.inr (by show some g9≠some go;simp;exact q2)),(d.ff.keep key hsz).snoc (hp.keep key hsz) (hs.keep key hsz),by simp[d.lf],d.ne,d.na,⟨?_,?_⟩,.inr (.inr q3)⟩,f9⟩
 ·refine(d'.og.kept hg9 ?_).kept (Xu w9 go 1 _) (.inr d.na.2)
  rcases d.nab with h|h|h
  ·exact .inl h
  ·rw[h]
   cases hv:va.ownBlock with
   | none=>exact .inl rfl
   | some k=>exact .inr (λ e=>nomatch e)
  exact .inr h
 ·show some g9≠some gR;simp;exact q1
 show some g9≠some go;simp;exact q2
theorem Db {ga fa:Option Addr} {gc fc:Nat} {rest:List Tk} (d:OD K w gR go wr gs fs (.slice ga ng gc) ng (.slice fa nf fc) nf ys at2 r wx) (ok:Bool) (Ha:(ok=true/\So K.wr [] [] rest (.ok gs fs wr r))\/(ok=false/\So K.wr [] [] rest (.bad r))) (W:World) (hW:W=(wx.setCell ⟨gR,0,none⟩ (.slice ga ng gc)).setCell ⟨gR,1,none⟩ (.slice fa nf fc)) :
  Lo W gR (.slice ga ng gc) (.slice fa nf fc)/\SoQ K rest w (.returned (.tuple #[sov (.slice ga ng gc) (.slice fa nf fc),.bool ok])) W:=by
 subst hW
 obtain⟨n1,n2⟩:=d.ne
 have hm:=(d.ms.sc (p:=⟨gR,0,none⟩) n1 (.slice ga ng gc)).sc (p:=⟨gR,1,none⟩) n1 (.slice fa nf fc)
 refine⟨d.rc.s2 _ _,ga,ng,gc,fa,nf,fc,wr,ok,at2,r,rfl,hm.pat,hm.gr,Xj ?_⟩
 rcases Ha with⟨e1,e2⟩|e
 ·refine .inl ⟨e1,gs,fs,e2,?_⟩
  have og:=(d.og.kept (Xu wx gR 0 (.slice ga ng gc)) (.inr d.na.1)).kept (Xu _ gR 1 (.slice fa nf fc)) (.inr d.na.1)
  have of:=(d.of.kept (Xu wx gR 0 (.slice ga ng gc)) (.inr d.nb.1)).kept (Xu _ gR 1 (.slice fa nf fc)) (.inr d.nb.1)
  obtain⟨a1,c1,f1,f2,f3,f4,f5,f6⟩:=Yd.of_own og
  obtain⟨a2,c2,k1,k2,k3,k4,k5,k6⟩:=Yd.of_own of
  injection f1 with p1 _ p3
  injection k1 with p4 _ p6
  subst p1 p3 p4 p6
  refine⟨ga,gc,fa,fc,ys,by rw[d.lg],by rw[d.lf],by rw[d.lg];exact f3,f4,by rw[d.lf];exact k3,k4,λ hx=>?_,λ hx=>?_,d.ff.keep (λ b hb hlt=>⟨(heap_setCell_other _ _ _ _ (by show b≠gR;exact hb.2.1)).trans (heap_setCell_other _ _ _ _ (by show b≠gR;exact hb.2.1)),hb.1⟩) (by simp[World.setCell])⟩
  ·obtain⟨b,off,e,hb,hc⟩:=f5 hx
   exact⟨b,off,e,f6 _ e,hb,hc⟩
  obtain⟨b,off,e,hb,hc⟩:=k5 hx
  exact⟨b,off,e,k6 _ e,hb,hc⟩
 exact .inr e
end
theorem Pd (K:PC) (at_:Nat) (rest:List Tk) (w:World) (hP:PAt w K at_ rest):Calls Tryz.prog 59 #[.pointer (some ⟨K.g,0,none⟩)] w (SoQ K rest w):=by
 obtain⟨go,hgo⟩:∃ x,w.heap.size+1=x:=⟨_,rfl⟩
 have HGO:Xq (w.heap.size+1=go):=Xj hgo
 have HD1:Xq (OD K w w.heap.size go K.wr [] [] Yk 0 Yk 0 [] at_ rest ((w.alloc Kr).alloc Kr)):=Xj (OD.zero hP hgo rfl)
 have HSZ:Xq ((w.alloc Kr).heap.size=w.heap.size+1):=Xj (by simp)
 clear hP hgo
 go_enter Tryz.func59,Tryz.ntmps59
 go_upto_block 0 with fail
 obtain⟨w1,hw1⟩:∃ W,(w.alloc Kr).alloc Kr=W:=⟨_,rfl⟩
 obtain⟨gR,hgR⟩:∃ x,w.heap.size=x:=⟨_,rfl⟩
 (try rw[show (w.alloc (.cells #[.slice none 0 0,.slice none 0 0] 29)).alloc (.cells #[.slice none 0 0,.slice none 0 0] 29)=w1 from hw1])
 rw[hw1,hgR] at HD1
 rw[hgR] at HGO
 (try rw[hgR])
 (try rw[HGO.o])
 clear hw1 hgR HSZ
 go_wp2_with fail
 go_loopw [5,6,7,8,9] (λ _ _ _ _ _ wx=>∃ (wr:Int) (gs:List (Bt×Int)) (fs:List Fu) (ga:Option Addr) (gn gc:Nat) (fa:Option Addr) (fn fc:Nat) (ys:List Value) (at3:Nat) (r3:List Tk),Xq (OD K w gR go wr gs fs (.slice ga gn gc) gn (.slice fa fn fc) fn ys at3 r3 wx/\gn+fn<=at3/\(∀ y,So wr gs fs r3 y->So K.wr [] [] rest y))) (λ _ _ _ _ _ wx=>K.ts.length-natAt wx K.g)
 case atStart=>exact⟨K.wr,[],[],none,0,0,none,0,0,[],at_,rest,Xj ⟨HD1.o,by omega,λ y h=>h⟩⟩
 rename World=>wa
 obtain⟨wr,gs,fs,ga,gn,gc,fa,fn,fc,ys,at3,r3,HI⟩:=hrel
 obtain⟨⟨uk,un,uv,ut⟩,r1,hr1⟩:=HI.o.1.ms.pat.en.cons
 have HU:Xq (kOf r3=uk/\Yb r3=un):=Xj (by rw[hr1];exact⟨rfl,rfl⟩)
 have HR1:=Xj hr1
 clear hr1
 have hfd0:∀ W:World,(Instr.field 103 (.agg #[.int .i64 uk,.int .i64 un,.int .i64 uv,.string (st ut)]) 0).run Tryz.prog W=.ok (.int .i64 uk) W:=λ _=>by kernel_rfl
 have hft:∀ W:World,(Instr.field 103 (.agg #[.int .i64 uk,.int .i64 un,.int .i64 uv,.string (st ut)]) 1).run Tryz.prog W=.ok (.int .i64 un) W:=λ _=>by kernel_rfl
 go_wp2_with fail
 refine(Zn (K.mk' wr) at3 uk un uv ut r1 wa (HR1.o▸HI.o.1.ms.pat)).mono ?_
 rintro e w2 ⟨rfl,hb2⟩
 have HD2:=Xj (HI.o.1.be hb2)
 clear hb2
 by_cases hu:uk=0
 ·have d1:(uk==0)=true:=beq_iff_eq.2 hu
  have d2:(uk != 0)=false:=by simp[hu]
  have HU0:Xq (kOf r3=0):=Xj (HU.o.1.trans hu)
  clear hu
  obtain⟨y0,y1⟩:=HD2.o.rc.cells
  obtain⟨g0,g1⟩:=HD2.o.rc.froz
  have hlR:=HD2.o.rc.lt
  obtain⟨s0,s1⟩:=HD2.o.oc.cells
  have hlS:=HD2.o.oc.lt
  go_wp2_with fail
  have hZ:=Db (rest:=rest) HD2.o true (.inl ⟨rfl,HI.o.2.2 _ (So.fin HU0.o)⟩)
  obtain⟨wz,hwz⟩:∃ W,(w2.setCell ⟨gR,0,none⟩ (.slice ga gn gc)).setCell ⟨gR,1,none⟩ (.slice fa fn fc)=W:=⟨_,rfl⟩
  (try rw[hwz])
  obtain⟨hd,hep⟩:=hZ wz hwz.symm
  obtain⟨d0,d1⟩:=hd.cells
  clear hZ
  refine bodyPost_ret (v:=.tuple #[sov (.slice ga gn gc) (.slice fa fn fc),.bool true]) (by simp[results,Tryz.results59,go_sem,d0,d1]) rfl ?_
  exact hep
 have d1:(uk==0)=false:=beq_eq_false_iff_ne.2 hu
 have d2:(uk != 0)=true:=bne_iff_ne.2 hu
 have HU0:Xq (kOf r3≠0):=Xj (by rw[HU.o.1];exact hu)
 clear hu
 go_wp2_with fail
 refine(Zn (K.mk' wr) at3 uk un uv ut r1 w2 (HR1.o▸HD2.o.ms.pat)).mono ?_
 rintro e w3 ⟨rfl,hb3⟩
 have HD3:=Xj (HD2.o.be hb3)
 clear hb3 HD2
 go_wp2_with fail
 refine(Xn (K.mk' wr) at3 r3 glW w3 HD3.o.ms.pat).mono ?_
 rintro e w4 ⟨at4,r4,rfl,hp4,hg4,hc4⟩
 have HD4:=Xj (HD3.o.gr (wr2:=wr) hp4 hg4)
 clear hp4 hg4 HD3
 rcases hc4 with⟨hT,ha4,hr4⟩|⟨hT,ha4,hr4⟩<;>subst at4 r4
 ·have HT:=Xj hT
  (try rw[hT])
  clear hT
  go_wp2_with fail
  refine(Rb (K.mk' wr) (at3+1) r3.tail w4 HD4.o.ms.pat).mono ?_
  rintro e w5 ⟨nm,sz,wr2,ok,at5,r5,rfl,hp5,hzy,hg5,hjm⟩
  have HD5:=Xj ((HD4.o.gr (wr2:=wr2) hp5 hg5).al (.cells #[.string (st nm),.int .i64 sz] 60))
  have HS5:=Xj (Lg.new w5 nm sz)
  have HLE:=Xj hzy
  clear hp5 hg5 hzy HD4
  go_upto_region 7 with fail
  obtain⟨w6,hw6⟩:∃ W,w5.alloc (.cells #[.string (st nm),.int .i64 sz] 60)=W:=⟨_,rfl⟩
  obtain⟨gy,hgy⟩:∃ x,w5.heap.size=x:=⟨_,rfl⟩
  (try rw[hw6])
  rw[hw6] at HD5 HS5
  rw[hgy] at HS5
  (try rw[hgy])
  clear hw6 hgy
  cases ok
  ·have HBD:Xq (So K.wr [] [] rest (.bad r5)):=Xj (by
    rcases hjm.o with⟨h1,_⟩|⟨_,h1⟩
    ·cases h1
    exact HI.o.2.2 _ (So.glb HT.o h1))
   obtain⟨y0,y1⟩:=HD5.o.rc.cells
   obtain⟨g0,g1⟩:=HD5.o.rc.froz
   have hlR:=HD5.o.rc.lt
   obtain⟨s0,s1⟩:=HD5.o.oc.cells
   have hlS:=HD5.o.oc.lt
   go_wp2_with fail
   have hZ:=Db (rest:=rest) HD5.o false (.inr ⟨rfl,HBD.o⟩)
   obtain⟨wz,hwz⟩:∃ W,(w6.setCell ⟨gR,0,none⟩ (.slice ga gn gc)).setCell ⟨gR,1,none⟩ (.slice fa fn fc)=W:=⟨_,rfl⟩
   (try rw[hwz])
   obtain⟨hd,hep⟩:=hZ wz hwz.symm
   obtain⟨d0,d1⟩:=hd.cells
   clear hZ
   refine bodyPost_ret (v:=.tuple #[sov (.slice ga gn gc) (.slice fa fn fc),.bool false]) (by simp[results,Tryz.results59,go_sem,d0,d1]) rfl ?_
   exact hep
  have HGP:Xq (glP wr r3.tail=.ok nm sz wr2 r5):=Xj (by
   rcases hjm.o with⟨_,h1,_⟩|⟨h1,_⟩
   ·exact h1
   cases h1)
  clear hjm
  obtain⟨s0,s1⟩:=HD5.o.oc.cells
  have hlS:=HD5.o.oc.lt
  obtain⟨x0,x1⟩:=HS5.o.cells
  have hlX:=HS5.o.lt
  have hql:=HD5.o.ms.gr.size
  have hn3:gn<=100000:=by have:=HI.o.2.1;have h1:at3<K.ts.length:=HI.o.1.ms.pat.lt.1;have h2:K.ts.length<=100000:=HI.o.1.ms.pat.n;omega
  obtain⟨i0,hi0,hz0,hz1,hz2⟩:=info_parts Tryz.infoGlb
  have HIF:=Xj hi0
  have HZ0:=Xj hz0
  have HZ1:=Xj hz1
  have HZ2:=Xj hz2
  clear hi0 hz0 hz1 hz2
  have HOA:=Xj (HD5.o.og.alloc (.cells #[.string (st nm),.int .i64 sz] 60))
  go_wp2_with (at_builtin;refine wpList_append_lies _ rfl _ _ _ rfl w.heap.size 60 i0 _ 2 24 Tryz.underlying26 HIF.o HZ0.o HZ1.o HZ2.o rfl (by omega) _ _ _ rfl HOA.o ⟨w6.heap.size,0,none⟩ 1 1 [.string (st nm),.int .i64 sz] rfl rfl (World.news_of_block (cs := #[.string (st nm),.int .i64 sz]) (t:=60) (fr:=(0,0)) (heap_alloc_new w6 _)) (by simp[Value.oneCell']) (by omega) (by unfold maxLen;omega) (by omega) (by simp;omega) _ rfl ?_;intro g9 c9 w9 hown9 hgrow9 hor9 hlt9;have HPU:=Xj (HD5.o.pg (x:=(nm,sz)) hgrow9 hor9 hown9);obtain⟨q0,q1⟩:=HPU.o.2.cells;obtain⟨k0,k1⟩:=HPU.o.2.froz;have hl9:=HPU.o.2.lt;clear hown9 hgrow9 hor9 hlt9)
  have HAT:Xq (at3+1<=at5):=Xj (by
   have h1:=HPU.o.1.ms.pat.lt.2
   have h2:=HI.o.1.ms.pat.lt.2
   have h3:=HLE.o
   simp only[List.length_tail] at h3
   dsimp only at h1 h2
   have h4:0<r3.length:=by rw[HR1.o];simp
   omega)
  go_roundw
  case rel=>exact⟨wr2,_,fs,some ⟨g9,0,none⟩,gn+1,c9,fa,fn,fc,ys,at5,r5,Xj ⟨HPU.o.1,by have:=HI.o.2.1;have:=HAT.o;omega,λ y hy=>HI.o.2.2 _ (So.gl HT.o HGP.o hy)⟩⟩
  have h1:=HPU.o.1.ms.pat.natAt
  have h2:=HI.o.1.ms.pat.natAt
  have h3:at5<K.ts.length:=HPU.o.1.ms.pat.lt.1
  have h4:=HAT.o
  dsimp only at h1 h2
  rw[h1,h2]
  omega
 have HG:=Xj hT
 (try rw[hT])
 clear hT
 go_wp2_with fail
 refine(Xn (K.mk' wr) at3 r3 fnW w4 HD4.o.ms.pat).mono ?_
 rintro e w5 ⟨at5,r5,rfl,hp5,hg5,hc5⟩
 have HD5:=Xj (HD4.o.gr (wr2:=wr) hp5 hg5)
 clear hp5 hg5 HD4
 rcases hc5 with⟨hT,ha5,hr5⟩|⟨hT,ha5,hr5⟩<;>subst at5 r5
 ·have HT:=Xj hT
  (try rw[hT])
  clear hT
  go_wp2_with fail
  refine(Dl (K.mk' wr) (at3+1) r3.tail w5 HD5.o.ms.pat).mono ?_
  rintro e w6 ⟨nm,pa,pn,pc,ba,bn,bc,ok,at5,r5,rfl,hp5,hzy,hg5,hjm⟩
  have HD6:=Xj (HD5.o.gr (wr2:=wr) hp5 hg5)
  have HS6:Xq (Lf (w6.alloc (.cells #[.string (st nm),.int .i64 0,.slice pa pn pc,.slice ba bn bc] 63)) w6.heap.size nm 0 (.slice pa pn pc) (.slice ba bn bc)):=Xj (heap_alloc_new w6 _)
  have HLE:=Xj hzy
  clear hp5 hg5 hzy
  cases ok
  ·have HBD:Xq (So K.wr [] [] rest (.bad r5)):=Xj (by
    rcases hjm.o with⟨h1,_⟩|⟨_,h1⟩
    ·cases h1
    exact HI.o.2.2 _ (So.fnb HT.o h1))
   have HD7:=Xj (HD6.o.al (.cells #[.string (st nm),.int .i64 0,.slice pa pn pc,.slice ba bn bc] 63))
   clear HD6 HD5
   go_upto_region 12 with fail
   obtain⟨w7,hw7⟩:∃ W,w6.alloc (.cells #[.string (st nm),.int .i64 0,.slice pa pn pc,.slice ba bn bc] 63)=W:=⟨_,rfl⟩
   (try rw[hw7])
   rw[hw7] at HD7
   clear hw7 HS6
   obtain⟨y0,y1⟩:=HD7.o.rc.cells
   obtain⟨g0,g1⟩:=HD7.o.rc.froz
   have hlR:=HD7.o.rc.lt
   obtain⟨s0,s1⟩:=HD7.o.oc.cells
   have hlS:=HD7.o.oc.lt
   go_wp2_with fail
   have hZ:=Db (rest:=rest) HD7.o false (.inr ⟨rfl,HBD.o⟩)
   obtain⟨wz,hwz⟩:∃ W,(w7.setCell ⟨gR,0,none⟩ (.slice ga gn gc)).setCell ⟨gR,1,none⟩ (.slice fa fn fc)=W:=⟨_,rfl⟩
   (try rw[hwz])
   obtain⟨hd,hep⟩:=hZ wz hwz.symm
   obtain⟨d0,d1⟩:=hd.cells
   clear hZ
   refine bodyPost_ret (v:=.tuple #[sov (.slice ga gn gc) (.slice fa fn fc),.bool false]) (by simp[results,Tryz.results59,go_sem,d0,d1]) rfl ?_
   exact hep
  obtain⟨ps,S,hfs,hps,hss⟩:∃ ps S,Fs r3.tail (.ok nm ps S r5)/\Vw w6 (λ b=>w.heap.size<=b/\b≠gR/\b≠go/\some b≠(Value.slice ga gn gc).ownBlock/\some b≠(Value.slice fa fn fc).ownBlock) ps (.slice pa pn pc)/\Xf w6 (λ b=>w.heap.size<=b/\b≠gR/\b≠go/\some b≠(Value.slice ga gn gc).ownBlock/\some b≠(Value.slice fa fn fc).ownBlock) S (.slice ba bn bc):=by
   rcases hjm.o with⟨_,ps,S,h1,h2,h3,_⟩|⟨h1,_⟩
   ·have key:∀ b,w5.heap.size<=b->b<w6.heap.size->w6.heap[b]?=w6.heap[b]?/\(w.heap.size<=b/\b≠gR/\b≠go/\some b≠(Value.slice ga gn gc).ownBlock/\some b≠(Value.slice fa fn fc).ownBlock):=λ b hb _ =>
     have k1:=HD5.o.ms.gr.size
     have k2:=HD5.o.rc.lt
     have k3:=HD5.o.oc.lt
     ⟨rfl,by omega,by omega,by omega,λ e=>by have:=(HD5.o.og.lt _ e.symm).2;omega,λ e=>by have:=(HD5.o.of.lt _ e.symm).2;omega⟩
    exact⟨ps,S,h1,h2.keep key (Nat.le_refl _),h3.keep key (Nat.le_refl _)⟩
   cases h1
  have hB:=Xw w6 (.cells #[.string (st nm),.int .i64 un,.slice pa pn pc,.slice ba bn bc] 63)
  have HD7:=Xj (HD6.o.be hB)
  have HS7:Xq (Lf (w6.alloc (.cells #[.string (st nm),.int .i64 un,.slice pa pn pc,.slice ba bn bc] 63)) w6.heap.size nm un (.slice pa pn pc) (.slice ba bn bc)):=Xj (heap_alloc_new w6 _)
  have HFS:=Xj hfs
  have HPS:=Xj (hps.keep (Q:=(λ b=>w.heap.size<=b/\b≠gR/\b≠go/\some b≠(Value.slice ga gn gc).ownBlock/\some b≠(Value.slice fa fn fc).ownBlock)) (λ b hb hlt=>⟨hB.block b hlt,hb⟩) hB.size)
  have HSS:=Xj (hss.keep (Q:=(λ b=>w.heap.size<=b/\b≠gR/\b≠go/\some b≠(Value.slice ga gn gc).ownBlock/\some b≠(Value.slice fa fn fc).ownBlock)) (λ b hb hlt=>⟨hB.block b hlt,hb⟩) hB.size)
  clear hfs hps hss hB HD6 HD5 hjm
  obtain⟨x0,x1,x2,x3⟩:=HS6.o.cells
  obtain⟨j0,j1,j2,j3⟩:=HS6.o.froz
  have hlX:=HS6.o.lt
  go_upto_region 15 with fail
  obtain⟨w7,hw7⟩:∃ W,w6.alloc (.cells #[.string (st nm),.int .i64 un,.slice pa pn pc,.slice ba bn bc] 63)=W:=⟨_,rfl⟩
  obtain⟨gy,hgy⟩:∃ x,w6.heap.size=x:=⟨_,rfl⟩
  clear x0 x1 x2 x3 j0 j1 j2 j3 hlX HS6
  (try rw[hw7])
  rw[hw7] at HD7 HS7 HPS HSS
  rw[hgy] at HS7
  (try rw[hgy])
  clear hw7 hgy
  obtain⟨s0,s1⟩:=HD7.o.oc.cells
  have hlS:=HD7.o.oc.lt
  obtain⟨x0,x1,x2,x3⟩:=HS7.o.cells
  have hlX:=HS7.o.lt
  have hql:=HD7.o.ms.gr.size
  have hn3:fn<=100000:=by have:=HI.o.2.1;have h1:at3<K.ts.length:=HI.o.1.ms.pat.lt.1;have h2:K.ts.length<=100000:=HI.o.1.ms.pat.n;omega
  obtain⟨i0,hi0,hz0,hz1,hz2⟩:=info_parts Tryz.infoFun
  have HIF:=Xj hi0
  have HZ0:=Xj hz0
  have HZ1:=Xj hz1
  have HZ2:=Xj hz2
  clear hi0 hz0 hz1 hz2
  have HOA:=Xj (HD7.o.of.alloc (.cells #[.string (st nm),.int .i64 un,.slice pa pn pc,.slice ba bn bc] 63))
  go_wp2_with (at_builtin;refine wpList_append_lies _ rfl _ _ _ rfl w.heap.size 63 i0 _ 4 72 Tryz.underlying27 HIF.o HZ0.o HZ1.o HZ2.o rfl (by omega) _ _ _ rfl HOA.o ⟨w7.heap.size,0,none⟩ 1 1 [.string (st nm),.int .i64 un,.slice pa pn pc,.slice ba bn bc] rfl rfl (World.news_of_block (cs := #[.string (st nm),.int .i64 un,.slice pa pn pc,.slice ba bn bc]) (t:=63) (fr:=(0,0)) (heap_alloc_new w7 _)) (by simp[Value.oneCell']) (by omega) (by unfold maxLen;omega) (by omega) (by simp;omega) _ rfl ?_;intro g9 c9 w9 hown9 hgrow9 hor9 hlt9;have HPU:=Xj (HD7.o.pf (x:=⟨nm,un,ps,S⟩) hgrow9 hor9 hown9 HPS.o HSS.o);obtain⟨q0,q1⟩:=HPU.o.2.cells;obtain⟨k0,k1⟩:=HPU.o.2.froz;have hl9:=HPU.o.2.lt;clear hown9 hgrow9 hor9 hlt9)
  have HAT:Xq (at3+1<=at5):=Xj (by
   have h1:=HPU.o.1.ms.pat.lt.2
   have h2:=HI.o.1.ms.pat.lt.2
   have h3:=HLE.o
   simp only[List.length_tail] at h3
   dsimp only at h1 h2
   have h4:0<r3.length:=by rw[HR1.o];simp
   omega)
  go_roundw
  case rel=>exact⟨wr,gs,_,ga,gn,gc,some ⟨g9,0,none⟩,fn+1,c9,_,at5,r5,Xj ⟨HPU.o.1,by have:=HI.o.2.1;have:=HAT.o;omega,λ y hy=>HI.o.2.2 _ (So.fn HT.o HFS.o (by rw[HU.o.2];exact hy))⟩⟩
  have h1:=HPU.o.1.ms.pat.natAt
  have h2:=HI.o.1.ms.pat.natAt
  have h3:at5<K.ts.length:=HPU.o.1.ms.pat.lt.1
  have h4:=HAT.o
  dsimp only at h1 h2
  rw[h1,h2]
  omega
 have HT:=Xj hT
 (try rw[hT])
 clear hT
 obtain⟨y0,y1⟩:=HD5.o.rc.cells
 obtain⟨g0,g1⟩:=HD5.o.rc.froz
 have hlR:=HD5.o.rc.lt
 obtain⟨s0,s1⟩:=HD5.o.oc.cells
 have hlS:=HD5.o.oc.lt
 go_wp2_with fail
 have hZ:=Db (rest:=rest) HD5.o false (.inr ⟨rfl,HI.o.2.2 _ (So.no HU0.o HG.o HT.o)⟩)
 obtain⟨wz,hwz⟩:∃ W,(w5.setCell ⟨gR,0,none⟩ (.slice ga gn gc)).setCell ⟨gR,1,none⟩ (.slice fa fn fc)=W:=⟨_,rfl⟩
 (try rw[hwz])
 obtain⟨hd,hep⟩:=hZ wz hwz.symm
 obtain⟨d0,d1⟩:=hd.cells
 clear hZ
 refine bodyPost_ret (v:=.tuple #[sov (.slice ga gn gc) (.slice fa fn fc),.bool false]) (by simp[results,Tryz.results59,go_sem,d0,d1]) rfl ?_
 exact hep
end
def xzg:Value->Nat
 | .int _ z=>z.toNat
 | _=>0
theorem Cl (ys:List Tk) (h:∀ x∈ys,Uf x):ys.length<=Vc 0 ys:=by
 induction ys with
 | nil=>simp[Vc]
 | cons x l ih =>
  have h1:=(h x (by simp)).pos
  have h2:=ih λ y hy=>h y (by simp[hy])
  simp only[List.length_cons,Vc]
  omega
theorem Nf {l:Bt} {ts:List Tk} (h:(scan l).1=some ts):ts.length<=l.length+1/\Jd ts:=by
 have e:scan l=(some ts,(scan l).2):=by rw[<- h]
 obtain⟨ys,ln,e1,_,h3,h4⟩:=Hn e
 have:=Cl ys h3
 refine⟨?_,Jd.scan e⟩
 rw[e1]
 simp
 omega
def PRes (y:PR) (w w':World) (e:Ending):Prop :=
 (∃ (h:Hd) (ar:Fo) (r:List Tk) (a:Option Addr) (n c:Nat),y=.ok (Xb h ar) r/\kOf r=0/\Xk w' (λ b=>w.heap.size<=b) ar (.slice a n c)/\e=.returned (.tuple #[exv h (.slice a n c),.int .i64 0,.int .i64 0])) \/
 (∃ r,((∃ F,y=.ok F r/\kOf r≠0)\/y=.bad r)/\e=.returned (.tuple #[exv zhd (.slice none 0 0),.int .i64 (Yb r),.int .i64 7]))
def Og (l:Bt) (w:World) (e:Ending) (w':World):Prop:=Below w.heap.size w w' /\
 ((65536<l.length/\e=.returned (.tuple #[exv zhd (.slice none 0 0),.int .i64 0,.int .i64 5])) \/
  (l.length<=65536/\(scan l).1=none/\e=.returned (.tuple #[exv zhd (.slice none 0 0),.int .i64 (scan l).2,.int .i64 6])) \/
  (l.length<=65536/\∃ (ts:List Tk) (y:PR),(scan l).1=some ts/\Xq (Ps .ex ts y/\PRes y w w' e)))
theorem Eg {w wx:World} {g:Nat} (h:w.grownBy wx (some g)) (hg:w.heap.size<=g):Below w.heap.size w wx :=
 ⟨h.os,h.tape,h.output,h.size,λ k hk=>h.block k hk (λ e=>by injection e with e;omega)⟩
theorem Kk {w wx:World} {g:Nat} {v0 v1 v2 v3 v4 v5:Value} (h:Below w.heap.size w wx) (hg:w.heap.size<=g):Below w.heap.size w (set6 wx g v0 v1 v2 v3 v4 v5) :=
 have k:=Gp (v0:=v0) (v1:=v1) (v2:=v2) (v3:=v3) (v4:=v4) (v5:=v5) (row:=none) (⟨h.os,h.tape,h.output,h.size,λ k hk _=>h.block k hk⟩:w.grownBy wx none) hg
 ⟨k.os,k.tape,k.output,k.size,λ i hi=>k.block i hi (λ e=>nomatch e)⟩
theorem PAt.sc1 {w:World} {K:PC} {at_:Nat} {rest:List Tk} (h:PAt w K at_ rest) {b o:Nat} (hb:b≠K.g/\∀ x,K.al=some x->x.block≠b) (v:Value):PAt (w.setCell ⟨b,o,none⟩ v) K at_ rest :=
 h.grown (Xu w b o v) (λ k e=>by injection e with e;subst e;exact hb)
theorem PAt.s6 {w:World} {K:PC} {at_:Nat} {rest:List Tk} (h:PAt w K at_ rest) {b:Nat} (hb:b≠K.g/\∀ x,K.al=some x->x.block≠b) (v0 v1 v2 v3 v4 v5:Value):PAt (set6 w b v0 v1 v2 v3 v4 v5) K at_ rest :=
 (((((h.sc1 hb v0).sc1 hb v1).sc1 hb v2).sc1 hb v3).sc1 hb v4).sc1 hb v5
end Go.Proofs.YtldgghnjminhiaaGreatDoor
