/-
  WORDS, PLAIN LAWS and WALKS (PqS PqJ PqG QtG PqF), pressed. (Filled in from templates of this repo.)
-/
import Derived.Test.YtldgghnjminhiaaGreatDoorG9
namespace Go.Proofs.YtldgghnjminhiaaGreatDoor
open Go Go.ChangeAt Go.ChangeShapes Go.RowKit Go.WideShapes
set_option linter.unusedVariables false
set_option linter.unusedSimpArgs false
set_option maxRecDepth 100000
set_option maxHeartbeats 16000000
section
structure SD (K:PC) (w:World) (gR gs:Nat) (k ln:Int) (nm:Bt) (vx:Value) (nn:Nat) (xs:List Value) (at2:Nat) (r:List Tk) (wx:World):Prop where
 ms:MS K w wx at2 r
 rc:Ls wx gR 0 0 [] Xs Xs Xs
 sc:Ls wx gs k ln nm vx Xs Xs
 own:wx.ownsRow w.heap.size 37 6 vx nn xs
 ne:w.heap.size<=gR/\gR<gs/\vx.ownBlock≠some gR/\vx.ownBlock≠some gs
def FS (w:World) (gR gs:Nat) (vx:Value) (nn:Nat) (xs:List Value) (F:Fo) (wx:World):Prop:=Ys wx (λ b=>w.heap.size<=b/\b≠gR/\b≠gs/\some b≠vx.ownBlock) F xs/\F.len=nn
section
variable {K:PC} {w wx wy:World} {gR gs:Nat} {k ln:Int} {nm:Bt} {vx:Value} {nn:Nat} {xs:List Value} {at2 at3:Nat} {r r3:List Tk} {F:Fo}
theorem SD.gr (d:SD K w gR gs k ln nm vx nn xs at2 r wx) (hp:PAt wy K at3 r3) (hg:wx.grownBy wy (some K.g)):SD K w gR gs k ln nm vx nn xs at3 r3 wy:=by
 have hl:=d.ms.gl
 obtain⟨n1,n2,n3,n4⟩:=d.ne
 exact⟨d.ms.call hp hg,d.rc.grw hg (by intro e;injection e with e;omega),d.sc.grw hg (by intro e;injection e with e;omega),Yz d.own hg hl,d.ne⟩
theorem SD.be (d:SD K w gR gs k ln nm vx nn xs at2 r wx) (hb:Below wx.heap.size wx wy):SD K w gR gs k ln nm vx nn xs at2 r wy:=d.gr (d.ms.be hb).pat (Xg hb _)
theorem SD.sk (d:SD K w gR gs k ln nm vx nn xs at2 r wx) (k2:Int):SD K w gR gs k2 ln nm vx nn xs at2 r (wx.setCell ⟨gs,0,none⟩ (.int .i64 k2)):=by
 obtain⟨n1,n2,n3,n4⟩:=d.ne
 exact⟨d.ms.sc (p:=⟨gs,0,none⟩) (by show _<=gs;omega) _,d.rc.s1 (p:=⟨gs,0,none⟩) (by show gR≠gs;omega),d.sc.sk k2,d.own.kept (Xp wx gs 0 _) (.inr n4),d.ne⟩
theorem SD.sn (d:SD K w gR gs k ln nm vx nn xs at2 r wx) (m2:Bt):SD K w gR gs k ln m2 vx nn xs at2 r (wx.setCell ⟨gs,2,none⟩ (.string (st m2))):=by
 obtain⟨n1,n2,n3,n4⟩:=d.ne
 exact⟨d.ms.sc (p:=⟨gs,2,none⟩) (by show _<=gs;omega) _,d.rc.s1 (p:=⟨gs,2,none⟩) (by show gR≠gs;omega),d.sc.sn m2,d.own.kept (Xp wx gs 2 _) (.inr n4),d.ne⟩
theorem SD.vl (d:SD K w gR gs k ln nm vx nn xs at2 r wx) {g9 c9:Nat} {ys:List Value} (hM:MS K w wy at3 r3) (hL:Ls wy gs k ln nm (.slice (some ⟨g9,0,none⟩) (nn+1) c9) Xs Xs) (hO:wy.ownsRow w.heap.size 37 6 (.slice (some ⟨g9,0,none⟩) (nn+1) c9) (nn+1) ys)
  (hg:vx.ownBlock=some g9\/wx.heap.size<=g9) (hfr:∀ b,b<wx.heap.size->b≠K.g->b≠gs->some b≠vx.ownBlock->wy.heap[b]?=wx.heap[b]?):SD K w gR gs k ln nm (.slice (some ⟨g9,0,none⟩) (nn+1) c9) (nn+1) ys at3 r3 wy:=by
 obtain⟨n1,n2,n3,n4⟩:=d.ne
 have hl:=d.ms.gl
 have h1:=d.rc.lt
 have h2:=d.sc.lt
 refine⟨hM,(hfr gR h1 (by omega) (by omega) (λ e=>n3 e.symm)).trans d.rc,hL,hO,n1,n2,?_,?_⟩
 ·show some g9≠some gR
  rcases hg with e|e
  ·rw[<- e];exact n3
  simp;omega
 show some g9≠some gs
 rcases hg with e|e
 ·rw[<- e];exact n4
 simp;omega
theorem FS.vl (f:FS w gR gs vx nn xs F wx) (d:SD K w gR gs k ln nm vx nn xs at2 r wx) {g9 c9:Nat} {h:Hd} {s:Value} {ar:Fo} (ha:Xk wy (λ b=>wx.heap.size<=b/\b≠g9) ar s) (hsz:wx.heap.size<=wy.heap.size)
  (hg:vx.ownBlock=some g9\/wx.heap.size<=g9) (hfr:∀ b,b<wx.heap.size->b≠K.g->b≠gs->some b≠vx.ownBlock->wy.heap[b]?=wx.heap[b]?):FS w gR gs (.slice (some ⟨g9,0,none⟩) (nn+1) c9) (nn+1) (xs++hdc h s) (F.app (Xh h ar)) wy:=by
 have hl:=d.ms.gl
 have hs:=d.ms.gr.size
 have h1:=d.rc.lt
 have h2:=d.sc.lt
 refine⟨Ys.app (f.1.keep (λ b hb hlt=>⟨hfr b hlt (by have:=hb.1;omega) hb.2.2.1 hb.2.2.2,hb.1,hb.2.1,hb.2.2.1,?_⟩) hsz) (Xk.one (Xc ha (λ b hb _=>⟨by omega,by omega,by omega,?_⟩))),by rw[Fo.len_app,f.2];rfl⟩
 ·show some b≠some g9
  rcases hg with e|e
  ·rw[<- e];exact hb.2.2.2
  simp;omega
 show some b≠some g9
 simp
 exact hb.2
theorem SD.args (d:SD K w gR gs k ln nm vx nn xs at2 r wx) (f:FS w gR gs vx nn xs F wx):Xk wx (λ b=>w.heap.size<=b/\b≠gR) F vx :=
 Xk.of_own (e:=37) (size:=6) (base:=w.heap.size) (by rw[f.2];exact d.own) (f.1.keep (λ b hb _=>⟨rfl,hb.1,hb.2.1⟩) (Nat.le_refl _)) (λ b hb=>⟨(d.own.lt b hb).1,λ e=>d.ne.2.2.1 (by rw[hb,e])⟩)
end
theorem Bu (m:Nat) (hB:∀ j,j<m->CBl j):CSt m:=by
 intro K at_ rest w hP hm
 have HM1:=Xj ((MS.init hP).al Dn)
 have HR1:=Xj (Ls.zero w)
 have HB:=Xj hB
 have HMm:=Xj hm
 obtain⟨⟨tk,tn,tv,tt⟩,r0,hr0⟩:=hP.en.cons
 have HX0:=Xj hr0
 have HLN:Xq (Yc rest=tn):=Xj (by rw[hr0];rfl)
 have HRT:Xq (rest.tail.length<rest.length):=Xj (by rw[hr0];simp)
 have hfd:∀ W:World,(Instr.field 103 (.agg #[.int .i64 tk,.int .i64 tn,.int .i64 tv,.string (st tt)]) 1).run Tryz.prog W=.ok (.int .i64 tn) W:=λ _=>by kernel_rfl
 clear hB hP hm hr0
 go_enter Tryz.func171,Tryz.ntmps171
 go_upto_region 1 with fail
 obtain⟨w1,hw1⟩:∃ W,w.alloc Dn=W:=⟨_,rfl⟩
 obtain⟨gR,hgR⟩:∃ x,w.heap.size=x:=⟨_,rfl⟩
 (try rw[show w.alloc (.cells #[.int .i64 0,.int .i64 0,.string { data := #[] },.slice none 0 0,.slice none 0 0,.slice none 0 0] 110)=w1 from hw1])
 rw[hw1] at HM1 HR1
 rw[hgR] at HR1
 (try rw[hgR])
 have HGR:=Xj hgR
 clear hw1 hgR
 go_wp2_with fail
 refine(Zb K at_ tk tn tv tt r0 w1 (HX0.o▸HM1.o.pat)).mono ?_
 rintro e w2 ⟨rfl,hb2⟩
 have HD3:Xq (SD K w gR w2.heap.size 0 tn [] Xs 0 [] at_ rest (w2.alloc (.cells (scs 0 tn [] Xs Xs Xs) 110))):=Xj ⟨(HM1.o.be hb2).al _,(HR1.o.be hb2).al _,Ls.new w2 0 tn [] Xs Xs Xs,World.ownsRow_nil _ _ _ _,by have:=HGR.o;omega,(HR1.o.be hb2).lt,(λ e=>nomatch e),(λ e=>nomatch e)⟩
 clear hb2 HM1 HR1
 go_upto_block 0 with fail
 obtain⟨w3,hw3⟩:∃ W,w2.alloc (.cells (scs 0 tn [] Xs Xs Xs) 110)=W:=⟨_,rfl⟩
 obtain⟨gs,hgs⟩:∃ x,w2.heap.size=x:=⟨_,rfl⟩
 (try rw[show w2.alloc (.cells #[.int .i64 0,.int .i64 tn,.string { data := #[] },.slice none 0 0,.slice none 0 0,.slice none 0 0] 110)=w3 from hw3])
 rw[hw3,hgs] at HD3
 (try rw[hgs])
 clear hw3 hgs
 go_cut [5] from 10 to 83 (λ _ wx=>∃ (k:Int) (nm:Bt) (ax:Option Addr) (nx cx:Nat) (xs:List Value) (F:Fo) (at4:Nat) (r4:List Tk),Xq (SD K w gR gs k tn nm (.slice ax nx cx) nx xs at4 r4 wx/\FS w gR gs (.slice ax nx cx) nx xs F wx/\nx<=1/\r4.length<rest.length/\(∀ y,Ps .ex r4 y->Qs .st rest (Gw k tn nm F y))))
 case first =>
  go_wp2_with fail
  refine(Yj K (at_) rest [118,97,114] _ HD3.o.ms.pat).mono ?_
  rintro e w4 ⟨at5,r5,rfl,hp5,hg5,hc5⟩
  have HD4:=Xj (HD3.o.gr hp5 hg5)
  clear hp5 hg5 HD3
  rcases hc5 with⟨hT,ha5,hr5⟩|⟨hT,ha5,hr5⟩<;>subst at5 r5
  ·have HV:=Xj hT
   (try rw[hT])
   clear hT
   obtain⟨s0,s1,s2,s3,s4,s5⟩:=HD4.o.sc.cells
   obtain⟨j0,j1,j2,j3,j4,j5⟩:=HD4.o.sc.froz
   have hlS:=HD4.o.sc.lt
   have HD6:=Xj (HD4.o.sk 1)
   go_upto_region 15 with fail
   obtain⟨w6,hwy⟩:∃ W,w4.setCell ⟨gs,0,none⟩ (.int .i64 1)=W:=⟨_,rfl⟩
   (try rw[hwy])
   rw[hwy] at HD6
   clear hwy s0 s1 s2 s3 s4 s5 j0 j1 j2 j3 j4 j5 hlS HD4
   go_wp2_with fail
   refine(Us K (at_+1) rest.tail _ HD6.o.ms.pat).mono ?_
   rintro e w7 ⟨at7,r7,hp7,hg7,hc7⟩
   have HD7:=Xj (HD6.o.gr hp7 hg7)
   clear hp7 hg7 HD6
   obtain⟨nm,hnm⟩:∃ x,tOf rest.tail=x:=⟨_,rfl⟩
   have HNM:=Xj hnm
   (try rw[hnm] at hc7)
   clear hnm
   rcases hc7 with⟨hk1,rfl,ha7,hr7⟩|⟨hk1,rfl,ha7,hr7⟩<;>subst at7 r7
   ·have HK1:=Xj hk1
    clear hk1
    obtain⟨s0,s1,s2,s3,s4,s5⟩:=HD7.o.sc.cells
    obtain⟨j0,j1,j2,j3,j4,j5⟩:=HD7.o.sc.froz
    have hlS:=HD7.o.sc.lt
    have HD8:=Xj (HD7.o.sn nm)
    go_upto_region 16 with fail
    obtain⟨w8,hwy⟩:∃ W,w7.setCell ⟨gs,2,none⟩ (.string (st nm))=W:=⟨_,rfl⟩
    (try rw[hwy])
    rw[hwy] at HD8
    clear hwy s0 s1 s2 s3 s4 s5 j0 j1 j2 j3 j4 j5 hlS HD7
    go_wp2_with fail
    refine(Yj K (at_+1+1) rest.tail.tail [61] _ HD8.o.ms.pat).mono ?_
    rintro e w9 ⟨at5,r5,rfl,hp5,hg5,hc5⟩
    have HD9:=Xj (HD8.o.gr hp5 hg5)
    clear hp5 hg5 HD8
    rcases hc5 with⟨hT,ha5,hr5⟩|⟨hT,ha5,hr5⟩<;>subst at5 r5
    ·have HE:=Xj hT
     (try rw[hT])
     clear hT
     go_wp2_with fail
     go_meet
     exact⟨1,nm,none,0,0,[],.nil,at_+1+1+1,rest.tail.tail.tail,Xj ⟨HD9.o,⟨rfl,rfl⟩,by omega,by have:=HRT.o;simp only[List.length_tail] at *;omega,λ y hy=>by
       have h:=Qs.st_val (ts:=rest) (k:=1) (nm:=nm) (by rw[Dv HV.o,if_pos HK1.o,if_pos HE.o,HNM.o]) hy
       rw[HLN.o] at h
       exact h⟩⟩
    have HE:=Xj hT
    (try rw[hT])
    clear hT
    obtain⟨y0,y1,y2,y3,y4,y5⟩:=HD9.o.rc.cells
    obtain⟨g0,g1,g2,g3,g4,g5⟩:=HD9.o.rc.froz
    have hlR:=HD9.o.rc.lt
    obtain⟨s0,s1,s2,s3,s4,s5⟩:=HD9.o.sc.cells
    have hlS:=HD9.o.sc.lt
    go_wp2_with fail
    have hZ:=Qx (ts:=rest) (m:=rest.length) HD9.o.ms HD9.o.rc HD9.o.ne.1 (by have:=HRT.o;simp only[List.length_tail] at *;omega) 1 tn nm none 0 0 none 0 0 none 0 0 false (.inr ⟨rfl,Qs.st_bad (by rw[Dv HV.o,if_pos HK1.o,if_neg (by rw[HE.o];simp)])⟩)
    obtain⟨wz,hwz⟩:∃ W,set6 w9 gR (.int .i64 1) (.int .i64 tn) (.string (st nm)) (.slice none 0 0) (.slice none 0 0) (.slice none 0 0)=W:=⟨_,rfl⟩
    have hY:=hwz
    unfold set6 at hY
    (try rw[hY])
    obtain⟨hd,hep⟩:=hZ wz hwz.symm
    obtain⟨d0,d1,d2,d3,d4,d5⟩:=hd.cells
    clear hZ
    refine bodyPost_ret (v:=.tuple #[stv 1 tn nm (.slice none 0 0) (.slice none 0 0) (.slice none 0 0),.bool false]) (by simp[results,Tryz.results171,go_sem,d0,d1,d2,d3,d4,d5]) rfl ?_
    exact hep
   have HK1:=Xj hk1
   clear hk1
   obtain⟨s0,s1,s2,s3,s4,s5⟩:=HD7.o.sc.cells
   obtain⟨j0,j1,j2,j3,j4,j5⟩:=HD7.o.sc.froz
   have hlS:=HD7.o.sc.lt
   have HD8:=Xj (HD7.o.sn [])
   go_upto_region 16 with fail
   obtain⟨w8,hwy⟩:∃ W,w7.setCell ⟨gs,2,none⟩ (.string (st []))=W:=⟨_,rfl⟩
   (try rw[hwy])
   (try rw[show w7.setCell ⟨gs,2,none⟩ (.string { data := #[] })=w8 from hwy])
   rw[hwy] at HD8
   clear hwy s0 s1 s2 s3 s4 s5 j0 j1 j2 j3 j4 j5 hlS HD7
   obtain⟨y0,y1,y2,y3,y4,y5⟩:=HD8.o.rc.cells
   obtain⟨g0,g1,g2,g3,g4,g5⟩:=HD8.o.rc.froz
   have hlR:=HD8.o.rc.lt
   obtain⟨s0,s1,s2,s3,s4,s5⟩:=HD8.o.sc.cells
   have hlS:=HD8.o.sc.lt
   go_wp2_with fail
   have hZ:=Qx (ts:=rest) (m:=rest.length) HD8.o.ms HD8.o.rc HD8.o.ne.1 (by have:=HRT.o;simp only[List.length_tail] at *;omega) 1 tn [] none 0 0 none 0 0 none 0 0 false (.inr ⟨rfl,Qs.st_bad (by rw[Dv HV.o,if_neg HK1.o])⟩)
   obtain⟨wz,hwz⟩:∃ W,set6 w8 gR (.int .i64 1) (.int .i64 tn) (.string (st [])) (.slice none 0 0) (.slice none 0 0) (.slice none 0 0)=W:=⟨_,rfl⟩
   have hY:=hwz
   unfold set6 at hY
   (try rw[hY])
   obtain⟨hd,hep⟩:=hZ wz hwz.symm
   obtain⟨d0,d1,d2,d3,d4,d5⟩:=hd.cells
   clear hZ
   refine bodyPost_ret (v:=.tuple #[stv 1 tn [] (.slice none 0 0) (.slice none 0 0) (.slice none 0 0),.bool false]) (by simp[results,Tryz.results171,go_sem,d0,d1,d2,d3,d4,d5]) rfl ?_
   exact hep
  have HN1:=Xj hT
  (try rw[hT])
  clear hT
  go_wp2_with fail
  refine(Yj K (at_) rest [105,102] _ HD4.o.ms.pat).mono ?_
  rintro e w5 ⟨at5,r5,rfl,hp5,hg5,hc5⟩
  have HD5:=Xj (HD4.o.gr hp5 hg5)
  clear hp5 hg5 HD4
  rcases hc5 with⟨hT,ha5,hr5⟩|⟨hT,ha5,hr5⟩<;>subst at5 r5
  ·have HV:=Xj hT
   (try rw[hT])
   clear hT
   obtain⟨s0,s1,s2,s3,s4,s5⟩:=HD5.o.sc.cells
   obtain⟨j0,j1,j2,j3,j4,j5⟩:=HD5.o.sc.froz
   have hlS:=HD5.o.sc.lt
   have HD6:=Xj (HD5.o.sk 4)
   go_upto_region 20 with fail
   obtain⟨w6,hwy⟩:∃ W,w5.setCell ⟨gs,0,none⟩ (.int .i64 4)=W:=⟨_,rfl⟩
   (try rw[hwy])
   rw[hwy] at HD6
   clear hwy s0 s1 s2 s3 s4 s5 j0 j1 j2 j3 j4 j5 hlS HD5
   obtain⟨s0,s1,s2,s3,s4,s5⟩:=HD6.o.sc.cells
   have hlS:=HD6.o.sc.lt
   go_wp2_with fail
   refine(Hc rest.tail.length (HB.o _ (by have:=HRT.o;have:=HMm.o;omega)) K (at_+1) rest.tail rest 4 tn w6 HD6.o.ms.pat (Nat.le_refl _) (Nd HV.o) HLN.o HRT.o).mono ?_
   rintro e w7 ⟨k2,ln2,nm2,ax,nx,cx,ta,tn2,tc,ea,en,ec,ok,at7,r7,rfl,hp7,HJ,hg7,hR⟩
   have HM7:=Xj (HD6.o.ms.call hp7 hg7)
   have HR7:=Xj (HD6.o.rc.grw hg7 (by have:=HD6.o.ms.gl;have:=HD6.o.ne.1;intro e;injection e with e;omega))
   have HS7:Xq (w.heap.size<=gR/\gR<w6.heap.size/\w.heap.size<=w6.heap.size/\r7.length<=rest.length):=Xj ⟨HD6.o.ne.1,HD6.o.rc.lt,HD6.o.ms.gr.size,by have:=HRT.o;omega⟩
   have HRS:=hR
   clear hp7 HJ hg7 hR s0 s1 s2 s3 s4 s5 hlS HD6
   obtain⟨y0,y1,y2,y3,y4,y5⟩:=HR7.o.cells
   obtain⟨g0,g1,g2,g3,g4,g5⟩:=HR7.o.froz
   have hlR:=HR7.o.lt
   go_wp2_with fail
   have hZ:=Qx (ts:=rest) (m:=rest.length) HM7.o HR7.o HS7.o.1 HS7.o.2.2.2 k2 ln2 nm2 ax nx cx ta tn2 tc ea en ec ok (by
    have hs:=HS7.o
    rcases HRS.o with⟨e1,xs,th,el,e2,e3,e4,e5,e6⟩|hr
    ·exact .inl ⟨e1,xs,th,el,e2,Xc e3 (λ b hb _=>⟨by omega,by omega⟩),Zj e4 (λ b hb _=>⟨by omega,by omega⟩),Zj e5 (λ b hb _=>⟨by omega,by omega⟩),e6⟩
    exact .inr hr)
   obtain⟨wz,hwz⟩:∃ W,set6 w7 gR (.int .i64 k2) (.int .i64 ln2) (.string (st nm2)) (.slice ax nx cx) (.slice ta tn2 tc) (.slice ea en ec)=W:=⟨_,rfl⟩
   have hY:=hwz
   unfold set6 at hY
   (try rw[hY])
   obtain⟨hd,hep⟩:=hZ wz hwz.symm
   obtain⟨d0,d1,d2,d3,d4,d5⟩:=hd.cells
   clear hZ
   refine bodyPost_ret (v:=.tuple #[stv k2 ln2 nm2 (.slice ax nx cx) (.slice ta tn2 tc) (.slice ea en ec),.bool ok]) (by simp[results,Tryz.results171,go_sem,d0,d1,d2,d3,d4,d5]) rfl ?_
   exact hep
  have HN2:=Xj hT
  (try rw[hT])
  clear hT
  go_wp2_with fail
  refine(Yj K (at_) rest [119,104,105,108,101] _ HD5.o.ms.pat).mono ?_
  rintro e wa ⟨at5,r5,rfl,hp5,hg5,hc5⟩
  have HDa:=Xj (HD5.o.gr hp5 hg5)
  clear hp5 hg5 HD5
  rcases hc5 with⟨hT,ha5,hr5⟩|⟨hT,ha5,hr5⟩<;>subst at5 r5
  ·have HV:=Xj hT
   (try rw[hT])
   clear hT
   obtain⟨s0,s1,s2,s3,s4,s5⟩:=HDa.o.sc.cells
   obtain⟨j0,j1,j2,j3,j4,j5⟩:=HDa.o.sc.froz
   have hlS:=HDa.o.sc.lt
   have HD6:=Xj (HDa.o.sk 5)
   go_upto_region 23 with fail
   obtain⟨w6,hwy⟩:∃ W,wa.setCell ⟨gs,0,none⟩ (.int .i64 5)=W:=⟨_,rfl⟩
   (try rw[hwy])
   rw[hwy] at HD6
   clear hwy s0 s1 s2 s3 s4 s5 j0 j1 j2 j3 j4 j5 hlS HDa
   obtain⟨s0,s1,s2,s3,s4,s5⟩:=HD6.o.sc.cells
   have hlS:=HD6.o.sc.lt
   go_wp2_with fail
   refine(Hc rest.tail.length (HB.o _ (by have:=HRT.o;have:=HMm.o;omega)) K (at_+1) rest.tail rest 5 tn w6 HD6.o.ms.pat (Nat.le_refl _) (Es HV.o) HLN.o HRT.o).mono ?_
   rintro e w7 ⟨k2,ln2,nm2,ax,nx,cx,ta,tn2,tc,ea,en,ec,ok,at7,r7,rfl,hp7,HJ,hg7,hR⟩
   have HM7:=Xj (HD6.o.ms.call hp7 hg7)
   have HR7:=Xj (HD6.o.rc.grw hg7 (by have:=HD6.o.ms.gl;have:=HD6.o.ne.1;intro e;injection e with e;omega))
   have HS7:Xq (w.heap.size<=gR/\gR<w6.heap.size/\w.heap.size<=w6.heap.size/\r7.length<=rest.length):=Xj ⟨HD6.o.ne.1,HD6.o.rc.lt,HD6.o.ms.gr.size,by have:=HRT.o;omega⟩
   have HRS:=hR
   clear hp7 HJ hg7 hR s0 s1 s2 s3 s4 s5 hlS HD6
   obtain⟨y0,y1,y2,y3,y4,y5⟩:=HR7.o.cells
   obtain⟨g0,g1,g2,g3,g4,g5⟩:=HR7.o.froz
   have hlR:=HR7.o.lt
   go_wp2_with fail
   have hZ:=Qx (ts:=rest) (m:=rest.length) HM7.o HR7.o HS7.o.1 HS7.o.2.2.2 k2 ln2 nm2 ax nx cx ta tn2 tc ea en ec ok (by
    have hs:=HS7.o
    rcases HRS.o with⟨e1,xs,th,el,e2,e3,e4,e5,e6⟩|hr
    ·exact .inl ⟨e1,xs,th,el,e2,Xc e3 (λ b hb _=>⟨by omega,by omega⟩),Zj e4 (λ b hb _=>⟨by omega,by omega⟩),Zj e5 (λ b hb _=>⟨by omega,by omega⟩),e6⟩
    exact .inr hr)
   obtain⟨wz,hwz⟩:∃ W,set6 w7 gR (.int .i64 k2) (.int .i64 ln2) (.string (st nm2)) (.slice ax nx cx) (.slice ta tn2 tc) (.slice ea en ec)=W:=⟨_,rfl⟩
   have hY:=hwz
   unfold set6 at hY
   (try rw[hY])
   obtain⟨hd,hep⟩:=hZ wz hwz.symm
   obtain⟨d0,d1,d2,d3,d4,d5⟩:=hd.cells
   clear hZ
   refine bodyPost_ret (v:=.tuple #[stv k2 ln2 nm2 (.slice ax nx cx) (.slice ta tn2 tc) (.slice ea en ec),.bool ok]) (by simp[results,Tryz.results171,go_sem,d0,d1,d2,d3,d4,d5]) rfl ?_
   exact hep
  have HN3:=Xj hT
  (try rw[hT])
  clear hT
  go_wp2_with fail
  refine(Yj K (at_) rest [114,101,116,117,114,110] _ HDa.o.ms.pat).mono ?_
  rintro e wb ⟨at5,r5,rfl,hp5,hg5,hc5⟩
  have HDb:=Xj (HDa.o.gr hp5 hg5)
  clear hp5 hg5 HDa
  rcases hc5 with⟨hT,ha5,hr5⟩|⟨hT,ha5,hr5⟩<;>subst at5 r5
  ·have HV:=Xj hT
   (try rw[hT])
   clear hT
   obtain⟨s0,s1,s2,s3,s4,s5⟩:=HDb.o.sc.cells
   obtain⟨j0,j1,j2,j3,j4,j5⟩:=HDb.o.sc.froz
   have hlS:=HDb.o.sc.lt
   have HD6:=Xj (HDb.o.sk 6)
   go_wp2_with fail
   go_meet
   exact⟨6,[],none,0,0,[],.nil,at_+1,rest.tail,Xj ⟨HD6.o,⟨rfl,rfl⟩,by omega,HRT.o,λ y hy=>by
     have h:=Qs.st_val (ts:=rest) (k:=6) (nm:=[]) (Hb HV.o) hy
     rw[HLN.o] at h
     exact h⟩⟩
  have HN4:=Xj hT
  (try rw[hT])
  clear hT
  go_wp2_with fail
  refine(Yj K (at_) rest [112,114,105,110,116] _ HDb.o.ms.pat).mono ?_
  rintro e wc ⟨at5,r5,rfl,hp5,hg5,hc5⟩
  have HDc:=Xj (HDb.o.gr hp5 hg5)
  clear hp5 hg5 HDb
  rcases hc5 with⟨hT,ha5,hr5⟩|⟨hT,ha5,hr5⟩<;>subst at5 r5
  ·have HV:=Xj hT
   (try rw[hT])
   clear hT
   obtain⟨s0,s1,s2,s3,s4,s5⟩:=HDc.o.sc.cells
   obtain⟨j0,j1,j2,j3,j4,j5⟩:=HDc.o.sc.froz
   have hlS:=HDc.o.sc.lt
   have HD6:=Xj (HDc.o.sk 7)
   go_wp2_with fail
   go_meet
   exact⟨7,[],none,0,0,[],.nil,at_+1,rest.tail,Xj ⟨HD6.o,⟨rfl,rfl⟩,by omega,HRT.o,λ y hy=>by
     have h:=Qs.st_val (ts:=rest) (k:=7) (nm:=[]) (Nf HV.o) hy
     rw[HLN.o] at h
     exact h⟩⟩
  have HN5:=Xj hT
  (try rw[hT])
  clear hT
  go_wp2_with fail
  refine(Yj K (at_) rest [99,97,108,108] _ HDc.o.ms.pat).mono ?_
  rintro e wd ⟨at5,r5,rfl,hp5,hg5,hc5⟩
  have HDd:=Xj (HDc.o.gr hp5 hg5)
  clear hp5 hg5 HDc
  rcases hc5 with⟨hT,ha5,hr5⟩|⟨hT,ha5,hr5⟩<;>subst at5 r5
  ·have HV:=Xj hT
   (try rw[hT])
   clear hT
   obtain⟨s0,s1,s2,s3,s4,s5⟩:=HDd.o.sc.cells
   obtain⟨j0,j1,j2,j3,j4,j5⟩:=HDd.o.sc.froz
   have hlS:=HDd.o.sc.lt
   have HD6:=Xj (HDd.o.sk 8)
   go_wp2_with fail
   go_meet
   exact⟨8,[],none,0,0,[],.nil,at_+1,rest.tail,Xj ⟨HD6.o,⟨rfl,rfl⟩,by omega,HRT.o,λ y hy=>by
     have h:=Qs.st_val (ts:=rest) (k:=8) (nm:=[]) (Sj HV.o) hy
     rw[HLN.o] at h
     exact h⟩⟩
  have HN6:=Xj hT
  (try rw[hT])
  clear hT
  have HNW:Xq (noW rest):=Xj ⟨HN1.o,HN2.o,HN3.o,HN4.o,HN5.o,HN6.o⟩
  clear HN1 HN2 HN3 HN4 HN5 HN6
  go_wp2_with fail
  refine(Us K at_ rest _ HDd.o.ms.pat).mono ?_
  rintro e w7 ⟨at7,r7,hp7,hg7,hc7⟩
  have HD7:=Xj (HDd.o.gr hp7 hg7)
  clear hp7 hg7 HDd
  obtain⟨nm,hnm⟩:∃ x,tOf rest=x:=⟨_,rfl⟩
  have HNM:=Xj hnm
  (try rw[hnm] at hc7)
  clear hnm
  rcases hc7 with⟨hk1,rfl,ha7,hr7⟩|⟨hk1,rfl,ha7,hr7⟩<;>subst at7 r7
  rotate_left
  ·have HK1:=Xj hk1
   clear hk1
   obtain⟨s0,s1,s2,s3,s4,s5⟩:=HD7.o.sc.cells
   obtain⟨j0,j1,j2,j3,j4,j5⟩:=HD7.o.sc.froz
   have hlS:=HD7.o.sc.lt
   have HD8:=Xj (HD7.o.sn [])
   go_upto_region 4 with fail
   obtain⟨w8,hwy⟩:∃ W,w7.setCell ⟨gs,2,none⟩ (.string (st []))=W:=⟨_,rfl⟩
   (try rw[hwy])
   (try rw[show w7.setCell ⟨gs,2,none⟩ (.string { data := #[] })=w8 from hwy])
   rw[hwy] at HD8
   clear hwy s0 s1 s2 s3 s4 s5 j0 j1 j2 j3 j4 j5 hlS HD7
   obtain⟨y0,y1,y2,y3,y4,y5⟩:=HD8.o.rc.cells
   obtain⟨g0,g1,g2,g3,g4,g5⟩:=HD8.o.rc.froz
   have hlR:=HD8.o.rc.lt
   obtain⟨s0,s1,s2,s3,s4,s5⟩:=HD8.o.sc.cells
   have hlS:=HD8.o.sc.lt
   go_wp2_with fail
   have hZ:=Qx (ts:=rest) (m:=rest.length) HD8.o.ms HD8.o.rc HD8.o.ne.1 (Nat.le_refl _) 0 tn [] none 0 0 none 0 0 none 0 0 false (.inr ⟨rfl,Qs.st_bad (by rw[Ku HNW.o,if_neg HK1.o])⟩)
   obtain⟨wz,hwz⟩:∃ W,set6 w8 gR (.int .i64 0) (.int .i64 tn) (.string (st [])) (.slice none 0 0) (.slice none 0 0) (.slice none 0 0)=W:=⟨_,rfl⟩
   have hY:=hwz
   unfold set6 at hY
   (try rw[hY])
   obtain⟨hd,hep⟩:=hZ wz hwz.symm
   obtain⟨d0,d1,d2,d3,d4,d5⟩:=hd.cells
   clear hZ
   refine bodyPost_ret (v:=.tuple #[stv 0 tn [] (.slice none 0 0) (.slice none 0 0) (.slice none 0 0),.bool false]) (by simp[results,Tryz.results171,go_sem,d0,d1,d2,d3,d4,d5]) rfl ?_
   exact hep
  have HK1:=Xj hk1
  clear hk1
  obtain⟨s0,s1,s2,s3,s4,s5⟩:=HD7.o.sc.cells
  obtain⟨j0,j1,j2,j3,j4,j5⟩:=HD7.o.sc.froz
  have hlS:=HD7.o.sc.lt
  have HD8:=Xj (HD7.o.sn nm)
  go_upto_region 4 with fail
  obtain⟨w8,hwy⟩:∃ W,w7.setCell ⟨gs,2,none⟩ (.string (st nm))=W:=⟨_,rfl⟩
  (try rw[hwy])
  rw[hwy] at HD8
  clear hwy s0 s1 s2 s3 s4 s5 j0 j1 j2 j3 j4 j5 hlS HD7
  obtain⟨s0,s1,s2,s3,s4,s5⟩:=HD8.o.sc.cells
  obtain⟨j0,j1,j2,j3,j4,j5⟩:=HD8.o.sc.froz
  have hlS:=HD8.o.sc.lt
  have HD9:=Xj (HD8.o.sk 2)
  go_upto_region 7 with fail
  obtain⟨w9,hwy⟩:∃ W,w8.setCell ⟨gs,0,none⟩ (.int .i64 2)=W:=⟨_,rfl⟩
  (try rw[hwy])
  rw[hwy] at HD9
  clear hwy s0 s1 s2 s3 s4 s5 j0 j1 j2 j3 j4 j5 hlS HD8
  go_wp2_with fail
  refine(Yj K (at_+1) rest.tail [91] _ HD9.o.ms.pat).mono ?_
  rintro e wA ⟨at5,r5,rfl,hp5,hg5,hc5⟩
  have HDA:=Xj (HD9.o.gr hp5 hg5)
  clear hp5 hg5 HD9
  rcases hc5 with⟨hT,ha5,hr5⟩|⟨hT,ha5,hr5⟩<;>subst at5 r5
  ·have HB1:=Xj hT
   (try rw[hT])
   clear hT
   obtain⟨s0,s1,s2,s3,s4,s5⟩:=HDA.o.sc.cells
   obtain⟨j0,j1,j2,j3,j4,j5⟩:=HDA.o.sc.froz
   have hlS:=HDA.o.sc.lt
   have HDB:=Xj (HDA.o.sk 3)
   go_upto_region 9 with fail
   obtain⟨wB,hwy⟩:∃ W,wA.setCell ⟨gs,0,none⟩ (.int .i64 3)=W:=⟨_,rfl⟩
   (try rw[hwy])
   rw[hwy] at HDB
   clear hwy s0 s1 s2 s3 s4 s5 j0 j1 j2 j3 j4 j5 hlS HDA
   go_wp2_with fail
   refine(Kd K w (at_+1+1) gs rest.tail.tail 3 tn nm Xs Xs Xs 0 [] wB HDB.o.ms HDB.o.sc HDB.o.own (by have:=HDB.o.ne;omega) (λ e=>nomatch e) (by omega)).mono ?_
   rintro e wC ⟨okv,atC,rC,g9,c9,h,a,n,c,rfl,hmC,hleC,hsC,hoC,hgC,hszC,hxg⟩
   have HDC:=Xj (HDB.o.vl hmC hsC hoC hgC hxg.o.1)
   have hus:=Xj hleC
   have HRC:Xq ((okv=true/\∃ ar,Ps .ex rest.tail.tail (.ok (Xh h ar) rC)/\FS w gR gs (.slice (some ⟨g9,0,none⟩) (0+1) c9) (0+1) ([]++hdc h (.slice a n c)) (Fo.nil.app (Xh h ar)) wC)\/(okv=false/\Ps .ex rest.tail.tail (.bad rC))):=Xj (by
    rcases hxg.o.2 with⟨e1,ar,e2,e3,e4⟩|hr
    ·exact .inl ⟨e1,ar,e2,FS.vl (F:=.nil) ⟨rfl,rfl⟩ HDB.o e3 hszC hgC hxg.o.1⟩
    exact .inr hr)
   clear hmC hleC hsC hoC hgC hszC hxg HDB
   have HKS:Xq (hk rest=.sto nm rest.tail.tail):=Xj (by rw[Ku HNW.o,if_pos HK1.o,if_pos HB1.o,HNM.o])
   cases okv
   ·have HBD:Xq (Qs .st rest (.bad rC)):=Xj (by
     rcases HRC.o with⟨h1,_⟩|⟨_,h1⟩
     ·cases h1
     exact Qs.sto_bad HKS.o h1)
    obtain⟨y0,y1,y2,y3,y4,y5⟩:=HDC.o.rc.cells
    obtain⟨g0,g1,g2,g3,g4,g5⟩:=HDC.o.rc.froz
    have hlR:=HDC.o.rc.lt
    obtain⟨s0,s1,s2,s3,s4,s5⟩:=HDC.o.sc.cells
    have hlS:=HDC.o.sc.lt
    go_wp2_with fail
    have hZ:=Qx (ts:=rest) (m:=rest.length) HDC.o.ms HDC.o.rc HDC.o.ne.1 (by have:=hus.o;have:=HRT.o;simp only[List.length_tail] at *;omega) 3 tn nm (some ⟨g9,0,none⟩) (0+1) c9 none 0 0 none 0 0 false (.inr ⟨rfl,HBD.o⟩)
    obtain⟨wz,hwz⟩:∃ W,set6 wC gR (.int .i64 3) (.int .i64 tn) (.string (st nm)) (.slice (some ⟨g9,0,none⟩) (0+1) c9) (.slice none 0 0) (.slice none 0 0)=W:=⟨_,rfl⟩
    have hY:=hwz
    unfold set6 at hY
    (try rw[hY])
    obtain⟨hd,hep⟩:=hZ wz hwz.symm
    obtain⟨d0,d1,d2,d3,d4,d5⟩:=hd.cells
    clear hZ
    refine bodyPost_ret (v:=.tuple #[stv 3 tn nm (.slice (some ⟨g9,0,none⟩) (0+1) c9) (.slice none 0 0) (.slice none 0 0),.bool false]) (by simp[results,Tryz.results171,go_sem,d0,d1,d2,d3,d4,d5]) rfl ?_
    exact hep
   obtain⟨ar,hps,hfs⟩:∃ ar,Ps .ex rest.tail.tail (.ok (Xh h ar) rC)/\FS w gR gs (.slice (some ⟨g9,0,none⟩) (0+1) c9) (0+1) ([]++hdc h (.slice a n c)) (Fo.nil.app (Xh h ar)) wC:=by
    rcases HRC.o with⟨_,h1⟩|⟨h1,_⟩
    ·exact h1
    cases h1
   have HPS:=Xj hps
   have HFS:=Xj hfs
   clear hps hfs HRC
   go_wp2_with fail
   refine(Yj K atC rC [93] _ HDC.o.ms.pat).mono ?_
   rintro e wD ⟨at5,r5,rfl,hp5,hg5,hc5⟩
   have HDD:=Xj (HDC.o.gr hp5 hg5)
   have HFD:Xq (FS w gR gs (.slice (some ⟨g9,0,none⟩) (0+1) c9) (0+1) ([]++hdc h (.slice a n c)) (Fo.nil.app (Xh h ar)) wD):=Xj ⟨HFS.o.1.keep (λ b hb hlt=>⟨hg5.block b hlt (λ e=>by injection e with e;have:=HDC.o.ms.gl;have:=hb.1;omega),hb⟩) hg5.size,HFS.o.2⟩
   clear hp5 hg5 HDC HFS
   rcases hc5 with⟨hT,ha5,hr5⟩|⟨hT,ha5,hr5⟩<;>subst at5 r5
   rotate_left
   ·have HC:=Xj hT
    (try rw[hT])
    clear hT
    obtain⟨y0,y1,y2,y3,y4,y5⟩:=HDD.o.rc.cells
    obtain⟨g0,g1,g2,g3,g4,g5⟩:=HDD.o.rc.froz
    have hlR:=HDD.o.rc.lt
    obtain⟨s0,s1,s2,s3,s4,s5⟩:=HDD.o.sc.cells
    have hlS:=HDD.o.sc.lt
    go_wp2_with fail
    have hZ:=Qx (ts:=rest) (m:=rest.length) HDD.o.ms HDD.o.rc HDD.o.ne.1 (by have:=hus.o;have:=HRT.o;simp only[List.length_tail] at *;omega) 3 tn nm (some ⟨g9,0,none⟩) (0+1) c9 none 0 0 none 0 0 false (.inr ⟨rfl,Qs.sto_no1 HKS.o HPS.o HC.o⟩)
    obtain⟨wz,hwz⟩:∃ W,set6 wD gR (.int .i64 3) (.int .i64 tn) (.string (st nm)) (.slice (some ⟨g9,0,none⟩) (0+1) c9) (.slice none 0 0) (.slice none 0 0)=W:=⟨_,rfl⟩
    have hY:=hwz
    unfold set6 at hY
    (try rw[hY])
    obtain⟨hd,hep⟩:=hZ wz hwz.symm
    obtain⟨d0,d1,d2,d3,d4,d5⟩:=hd.cells
    clear hZ
    refine bodyPost_ret (v:=.tuple #[stv 3 tn nm (.slice (some ⟨g9,0,none⟩) (0+1) c9) (.slice none 0 0) (.slice none 0 0),.bool false]) (by simp[results,Tryz.results171,go_sem,d0,d1,d2,d3,d4,d5]) rfl ?_
    exact hep
   have HC:=Xj hT
   (try rw[hT])
   clear hT
   go_wp2_with fail
   refine(Yj K (atC+1) rC.tail [61] _ HDD.o.ms.pat).mono ?_
   rintro e wE ⟨at5,r5,rfl,hp5,hg5,hc5⟩
   have HDE:=Xj (HDD.o.gr hp5 hg5)
   have HFE:Xq (FS w gR gs (.slice (some ⟨g9,0,none⟩) (0+1) c9) (0+1) ([]++hdc h (.slice a n c)) (Fo.nil.app (Xh h ar)) wE):=Xj ⟨HFD.o.1.keep (λ b hb hlt=>⟨hg5.block b hlt (λ e=>by injection e with e;have:=HDD.o.ms.gl;have:=hb.1;omega),hb⟩) hg5.size,HFD.o.2⟩
   clear hp5 hg5 HDD HFD
   rcases hc5 with⟨hT,ha5,hr5⟩|⟨hT,ha5,hr5⟩<;>subst at5 r5
   ·have HE:=Xj hT
    (try rw[hT])
    clear hT
    go_wp2_with fail
    go_meet
    exact⟨3,nm,some ⟨g9,0,none⟩,0+1,c9,_,_,atC+1+1,rC.tail.tail,Xj ⟨HDE.o,HFE.o,by omega,by have:=hus.o;have:=HRT.o;simp only[List.length_tail] at *;omega,λ y hy=>by
      have h:=Qs.sto_ok HKS.o HPS.o HC.o HE.o hy
      rw[HLN.o] at h
      exact h⟩⟩
   have HE:=Xj hT
   (try rw[hT])
   clear hT
   obtain⟨y0,y1,y2,y3,y4,y5⟩:=HDE.o.rc.cells
   obtain⟨g0,g1,g2,g3,g4,g5⟩:=HDE.o.rc.froz
   have hlR:=HDE.o.rc.lt
   obtain⟨s0,s1,s2,s3,s4,s5⟩:=HDE.o.sc.cells
   have hlS:=HDE.o.sc.lt
   go_wp2_with fail
   have hZ:=Qx (ts:=rest) (m:=rest.length) HDE.o.ms HDE.o.rc HDE.o.ne.1 (by have:=hus.o;have:=HRT.o;simp only[List.length_tail] at *;omega) 3 tn nm (some ⟨g9,0,none⟩) (0+1) c9 none 0 0 none 0 0 false (.inr ⟨rfl,Qs.sto_no2 HKS.o HPS.o HC.o HE.o⟩)
   obtain⟨wz,hwz⟩:∃ W,set6 wE gR (.int .i64 3) (.int .i64 tn) (.string (st nm)) (.slice (some ⟨g9,0,none⟩) (0+1) c9) (.slice none 0 0) (.slice none 0 0)=W:=⟨_,rfl⟩
   have hY:=hwz
   unfold set6 at hY
   (try rw[hY])
   obtain⟨hd,hep⟩:=hZ wz hwz.symm
   obtain⟨d0,d1,d2,d3,d4,d5⟩:=hd.cells
   clear hZ
   refine bodyPost_ret (v:=.tuple #[stv 3 tn nm (.slice (some ⟨g9,0,none⟩) (0+1) c9) (.slice none 0 0) (.slice none 0 0),.bool false]) (by simp[results,Tryz.results171,go_sem,d0,d1,d2,d3,d4,d5]) rfl ?_
   exact hep
  have HB1:=Xj hT
  (try rw[hT])
  clear hT
  go_wp2_with fail
  refine(Yj K (at_+1) rest.tail [61] _ HDA.o.ms.pat).mono ?_
  rintro e wB ⟨at5,r5,rfl,hp5,hg5,hc5⟩
  have HDB:=Xj (HDA.o.gr hp5 hg5)
  clear hp5 hg5 HDA
  rcases hc5 with⟨hT,ha5,hr5⟩|⟨hT,ha5,hr5⟩<;>subst at5 r5
  ·have HE:=Xj hT
   (try rw[hT])
   clear hT
   go_wp2_with fail
   go_meet
   exact⟨2,nm,none,0,0,[],.nil,at_+1+1,rest.tail.tail,Xj ⟨HDB.o,⟨rfl,rfl⟩,by omega,by have:=HRT.o;simp only[List.length_tail] at *;omega,λ y hy=>by
     have h:=Qs.st_val (ts:=rest) (k:=2) (nm:=nm) (by rw[Ku HNW.o,if_pos HK1.o,if_neg (by rw[HB1.o];simp),if_pos HE.o,HNM.o]) hy
     rw[HLN.o] at h
     exact h⟩⟩
  have HE:=Xj hT
  (try rw[hT])
  clear hT
  obtain⟨y0,y1,y2,y3,y4,y5⟩:=HDB.o.rc.cells
  obtain⟨g0,g1,g2,g3,g4,g5⟩:=HDB.o.rc.froz
  have hlR:=HDB.o.rc.lt
  obtain⟨s0,s1,s2,s3,s4,s5⟩:=HDB.o.sc.cells
  have hlS:=HDB.o.sc.lt
  go_wp2_with fail
  have hZ:=Qx (ts:=rest) (m:=rest.length) HDB.o.ms HDB.o.rc HDB.o.ne.1 (by have:=HRT.o;simp only[List.length_tail] at *;omega) 2 tn nm none 0 0 none 0 0 none 0 0 false (.inr ⟨rfl,Qs.st_bad (by rw[Ku HNW.o,if_pos HK1.o,if_neg (by rw[HB1.o];simp),if_neg (by rw[HE.o];simp)])⟩)
  obtain⟨wz,hwz⟩:∃ W,set6 wB gR (.int .i64 2) (.int .i64 tn) (.string (st nm)) (.slice none 0 0) (.slice none 0 0) (.slice none 0 0)=W:=⟨_,rfl⟩
  have hY:=hwz
  unfold set6 at hY
  (try rw[hY])
  obtain⟨hd,hep⟩:=hZ wz hwz.symm
  obtain⟨d0,d1,d2,d3,d4,d5⟩:=hd.cells
  clear hZ
  refine bodyPost_ret (v:=.tuple #[stv 2 tn nm (.slice none 0 0) (.slice none 0 0) (.slice none 0 0),.bool false]) (by simp[results,Tryz.results171,go_sem,d0,d1,d2,d3,d4,d5]) rfl ?_
  exact hep
 case rest =>
 rename World=>wq
 obtain⟨k,nm,ax,nx,cx,xs,F,at4,r4,HC⟩:=hcut
 go_wp2_with fail
 refine(Kd K w at4 gs r4 k tn nm (.slice ax nx cx) Xs Xs nx xs wq HC.o.1.ms HC.o.1.sc HC.o.1.own (by have:=HC.o.1.ne;omega) HC.o.1.ne.2.2.2 HC.o.2.2.1).mono ?_
 rintro e w5 ⟨okv,at5,r5,g9,c9,h,a,n,c,rfl,hm5,hqd,hs5,ho5,hg5,hsz5,hju⟩
 have HD5:=Xj (HC.o.1.vl hm5 hs5 ho5 hg5 hju.o.1)
 have hxb:Xq (r5.length<=r4.length/\r5.length<rest.length):=Xj ⟨hqd,by have:=HC.o.2.2.2.1;omega⟩
 have HR5:Xq ((okv=true/\∃ ar,Ps .ex r4 (.ok (Xh h ar) r5)/\FS w gR gs (.slice (some ⟨g9,0,none⟩) (nx+1) c9) (nx+1) (xs++hdc h (.slice a n c)) (F.app (Xh h ar)) w5)\/(okv=false/\Ps .ex r4 (.bad r5))):=Xj (by
  rcases hju.o.2 with⟨e1,ar,e2,e3,e4⟩|hr
  ·exact .inl ⟨e1,ar,e2,FS.vl HC.o.2.1 HC.o.1 e3 hsz5 hg5 hju.o.1⟩
  exact .inr hr)
 clear hm5 hqd hs5 ho5 hg5 hsz5 hju
 cases okv
 ·have HBD:Xq (Qs .st rest (.bad r5)):=Xj (by
   rcases HR5.o with⟨h1,_⟩|⟨_,h1⟩
   ·cases h1
   exact HC.o.2.2.2.2 _ h1)
  obtain⟨y0,y1,y2,y3,y4,y5⟩:=HD5.o.rc.cells
  obtain⟨g0,g1,g2,g3,g4,g5⟩:=HD5.o.rc.froz
  have hlR:=HD5.o.rc.lt
  obtain⟨s0,s1,s2,s3,s4,s5⟩:=HD5.o.sc.cells
  have hlS:=HD5.o.sc.lt
  go_wp2_with fail
  have hZ:=Qx (ts:=rest) (m:=rest.length) HD5.o.ms HD5.o.rc HD5.o.ne.1 (Nat.le_of_lt hxb.o.2) k tn nm (some ⟨g9,0,none⟩) (nx+1) c9 none 0 0 none 0 0 false (.inr ⟨rfl,HBD.o⟩)
  obtain⟨wz,hwz⟩:∃ W,set6 w5 gR (.int .i64 k) (.int .i64 tn) (.string (st nm)) (.slice (some ⟨g9,0,none⟩) (nx+1) c9) (.slice none 0 0) (.slice none 0 0)=W:=⟨_,rfl⟩
  have hY:=hwz
  unfold set6 at hY
  (try rw[hY])
  obtain⟨hd,hep⟩:=hZ wz hwz.symm
  obtain⟨d0,d1,d2,d3,d4,d5⟩:=hd.cells
  clear hZ
  refine bodyPost_ret (v:=.tuple #[stv k tn nm (.slice (some ⟨g9,0,none⟩) (nx+1) c9) (.slice none 0 0) (.slice none 0 0),.bool false]) (by simp[results,Tryz.results171,go_sem,d0,d1,d2,d3,d4,d5]) rfl ?_
  exact hep
 obtain⟨ar,hps,hfs⟩:∃ ar,Ps .ex r4 (.ok (Xh h ar) r5)/\FS w gR gs (.slice (some ⟨g9,0,none⟩) (nx+1) c9) (nx+1) (xs++hdc h (.slice a n c)) (F.app (Xh h ar)) w5:=by
  rcases HR5.o with⟨_,h1⟩|⟨h1,_⟩
  ·exact h1
  cases h1
 have HPS:=Xj (HC.o.2.2.2.2 _ hps)
 have HFS:=Xj hfs
 clear hps hfs HR5
 go_wp2_with fail
 refine(Yj K at5 r5 [59] _ HD5.o.ms.pat).mono ?_
 rintro e w6 ⟨at6,r6,rfl,hp6,hg6,hc6⟩
 have HD6:=Xj (HD5.o.gr hp6 hg6)
 have HF6:Xq (FS w gR gs (.slice (some ⟨g9,0,none⟩) (nx+1) c9) (nx+1) (xs++hdc h (.slice a n c)) (F.app (Xh h ar)) w6):=Xj ⟨HFS.o.1.keep (λ b hb hlt=>⟨hg6.block b hlt (λ e=>by injection e with e;have:=HD5.o.ms.gl;have:=hb.1;omega),hb⟩) hg6.size,HFS.o.2⟩
 clear hp6 hg6 HD5 HFS
 rcases hc6 with⟨hT,ha6,hr6⟩|⟨hT,ha6,hr6⟩<;>subst at6 r6
 ·have HQ:Xq (Qs .st rest (.ok (Zd k tn nm (F.app (Xh h ar)) .nil .nil) r5.tail)):=Xj (by
   have h:=HPS.o
   unfold Gw at h
   dsimp only at h
   rw[if_pos hT] at h
   exact h)
  (try rw[hT])
  clear hT
  obtain⟨y0,y1,y2,y3,y4,y5⟩:=HD6.o.rc.cells
  obtain⟨g0,g1,g2,g3,g4,g5⟩:=HD6.o.rc.froz
  have hlR:=HD6.o.rc.lt
  obtain⟨s0,s1,s2,s3,s4,s5⟩:=HD6.o.sc.cells
  have hlS:=HD6.o.sc.lt
  go_wp2_with fail
  have hZ:=Qx (ts:=rest) (m:=rest.length) HD6.o.ms HD6.o.rc HD6.o.ne.1 (by have:=hxb.o;simp only[List.length_tail];omega) k tn nm (some ⟨g9,0,none⟩) (nx+1) c9 none 0 0 none 0 0 true (.inl ⟨rfl,_,.nil,.nil,HQ.o,HD6.o.args HF6.o,Xl.nil _ _,Xl.nil _ _,by have:=hxb.o;simp only[List.length_tail];omega⟩)
  obtain⟨wz,hwz⟩:∃ W,set6 w6 gR (.int .i64 k) (.int .i64 tn) (.string (st nm)) (.slice (some ⟨g9,0,none⟩) (nx+1) c9) (.slice none 0 0) (.slice none 0 0)=W:=⟨_,rfl⟩
  have hY:=hwz
  unfold set6 at hY
  (try rw[hY])
  obtain⟨hd,hep⟩:=hZ wz hwz.symm
  obtain⟨d0,d1,d2,d3,d4,d5⟩:=hd.cells
  clear hZ
  refine bodyPost_ret (v:=.tuple #[stv k tn nm (.slice (some ⟨g9,0,none⟩) (nx+1) c9) (.slice none 0 0) (.slice none 0 0),.bool true]) (by simp[results,Tryz.results171,go_sem,d0,d1,d2,d3,d4,d5]) rfl ?_
  exact hep
 have HQ:Xq (Qs .st rest (.bad r5)):=Xj (by
  have h:=HPS.o
  unfold Gw at h
  dsimp only at h
  rw[if_neg (by rw[hT];simp)] at h
  exact h)
 (try rw[hT])
 clear hT
 obtain⟨y0,y1,y2,y3,y4,y5⟩:=HD6.o.rc.cells
 obtain⟨g0,g1,g2,g3,g4,g5⟩:=HD6.o.rc.froz
 have hlR:=HD6.o.rc.lt
 obtain⟨s0,s1,s2,s3,s4,s5⟩:=HD6.o.sc.cells
 have hlS:=HD6.o.sc.lt
 go_wp2_with fail
 have hZ:=Qx (ts:=rest) (m:=rest.length) HD6.o.ms HD6.o.rc HD6.o.ne.1 (Nat.le_of_lt hxb.o.2) k tn nm (some ⟨g9,0,none⟩) (nx+1) c9 none 0 0 none 0 0 false (.inr ⟨rfl,HQ.o⟩)
 obtain⟨wz,hwz⟩:∃ W,set6 w6 gR (.int .i64 k) (.int .i64 tn) (.string (st nm)) (.slice (some ⟨g9,0,none⟩) (nx+1) c9) (.slice none 0 0) (.slice none 0 0)=W:=⟨_,rfl⟩
 have hY:=hwz
 unfold set6 at hY
 (try rw[hY])
 obtain⟨hd,hep⟩:=hZ wz hwz.symm
 obtain⟨d0,d1,d2,d3,d4,d5⟩:=hd.cells
 clear hZ
 refine bodyPost_ret (v:=.tuple #[stv k tn nm (.slice (some ⟨g9,0,none⟩) (nx+1) c9) (.slice none 0 0) (.slice none 0 0),.bool false]) (by simp[results,Tryz.results171,go_sem,d0,d1,d2,d3,d4,d5]) rfl ?_
 exact hep
end
theorem qall (m:Nat):CBl m/\CSt m:=by
 induction m using Nat.strongRecOn with
 | ind m ih=>exact⟨Tj m λ j hj=>(ih j hj).2,Bu m λ j hj=>(ih j hj).1⟩
theorem Aj (K:PC) (at_:Nat) (rest:List Tk) (w:World) (h:PAt w K at_ rest):Calls Tryz.prog 147 #[.pointer (some ⟨K.g,0,none⟩)] w (BlQ K rest w) :=
 (qall rest.length).1 K at_ rest w h (Nat.le_refl _)
section
abbrev PC.mk' (K:PC) (x:Int):PC:={ K with wr:=x }
theorem MS.wr {K:PC} {w wx:World} {at_:Nat} {r:List Tk} (h:MS K w wx at_ r) (x:Int):MS (K.mk' x) w (wx.setCell ⟨K.g,2,none⟩ (.int .i64 x)) at_ r :=
 have hjc:=Xp wx K.g 2 (.int .i64 x)
 {pat :=
   {row:=heap_setCell_same wx K.g 2 _ _ _ h.pat.row
    tk:=λ j y hj=>by
     obtain⟨b,off,e,hb,h0,h1,h2,h3⟩:=h.pat.tk j y hj
     have key:(wx.setCell ⟨K.g,2,none⟩ (.int .i64 x)).heap[b]?=wx.heap[b]?:=hjc.block b hb (λ e2=>by injection e2 with e2;exact h.pat.ne _ e e2)
     have kc:∀ o,(wx.setCell ⟨K.g,2,none⟩ (.int .i64 x)).cell? ⟨b,o,none⟩=wx.cell? ⟨b,o,none⟩:=λ o=>World.cell?_of_block (a:=⟨b,o,none⟩) key
     exact⟨b,off,e,by have:=hjc.size;omega,(kc _).trans h0,(kc _).trans h1,(kc _).trans h2,(kc _).trans h3⟩
    ne:=h.pat.ne
    dr:=h.pat.dr
    en:=h.pat.en
    cap:=h.pat.cap
    n:=h.pat.n }
  gr:=Xb h.gr hjc
  gl:=h.gl
  tl:=h.tl }
theorem MS.mk' {K:PC} {w wx:World} {at_:Nat} {r:List Tk} (h:MS K w wx at_ r):MS (K.mk' K.wr) w wx at_ r:=h
def Lg (wx:World) (b:Nat) (nm:Bt) (sz:Int):Prop:=wx.heap[b]?=some (.cells #[.string (st nm),.int .i64 sz] 60 (0,0))
section
variable {wx wy:World} {b:Nat} {nm:Bt} {sz:Int}
theorem Lg.lt (h:Lg wx b nm sz):b<wx.heap.size:=Xv h
theorem Lg.al (h:Lg wx b nm sz) (o:Obj):Lg (wx.alloc o) b nm sz:=(Below.heap_alloc wx o b h.lt).trans h
theorem Lg.be (h:Lg wx b nm sz) (hb:Below wx.heap.size wx wy):Lg wy b nm sz:=(hb.block b h.lt).trans h
theorem Lg.grw {row:Option Nat} (h:Lg wx b nm sz) (hg:wx.grownBy wy row) (hn:row≠some b):Lg wy b nm sz:=(hg.block b h.lt (λ e=>hn e.symm)).trans h
theorem Lg.s1 (h:Lg wx b nm sz) {p:Addr} {v:Value} (hn:b≠p.block):Lg (wx.setCell p v) b nm sz:=(heap_setCell_other wx p b v hn).trans h
theorem Lg.ss (h:Lg wx b nm sz) (z:Int):Lg (wx.setCell ⟨b,1,none⟩ (.int .i64 z)) b nm z:=heap_setCell_same wx b 1 _ _ _ h
theorem Lg.st2 (h:Lg wx b nm sz) (n2:Bt) (z:Int):Lg ((wx.setCell ⟨b,0,none⟩ (.string (st n2))).setCell ⟨b,1,none⟩ (.int .i64 z)) b n2 z:=heap_setCell_same _ b 1 _ _ _ (heap_setCell_same wx b 0 _ _ _ h)
theorem Lg.cells (h:Lg wx b nm sz):wx.cell? ⟨b,0,none⟩=some (.string (st nm))/\wx.cell? ⟨b,1,none⟩=some (.int .i64 sz):=⟨cell_of_row _ b 0 _ _ _ h,cell_of_row _ b 1 _ _ _ h⟩
theorem Lg.froz (h:Lg wx b nm sz):wx.frozen? ⟨b,0,none⟩=false/\wx.frozen? ⟨b,1,none⟩=false:=⟨frozen_of_row _ b 0 _ _ h,frozen_of_row _ b 1 _ _ h⟩
theorem Lg.new (w:World) (nm:Bt) (sz:Int):Lg (w.alloc (.cells #[.string (st nm),.int .i64 sz] 60)) w.heap.size nm sz:=heap_alloc_new w _
end
abbrev glv (nm:Bt) (sz:Int):Value:=.agg #[.string (st nm),.int .i64 sz]
def GlQ (K:PC) (rest:List Tk) (w:World) (e:Ending) (w':World):Prop :=
 ∃ (nm:Bt) (sz wr:Int) (ok:Bool) (at2:Nat) (r:List Tk),e=.returned (.tuple #[glv nm sz,.bool ok])/\PAt w' (K.mk' wr) at2 r/\r.length<=rest.length/\w.grownBy w' (some K.g) /\
  Xq ((ok=true/\glP K.wr rest=.ok nm sz wr r/\r.length<rest.length)\/(ok=false/\glP K.wr rest=.bad r))
theorem Kr {K:PC} {rest r:List Tk} {at2 gR:Nat} {w wx:World} {n0:Bt} {z0 wr:Int} (M:MS (K.mk' wr) w wx at2 r) (R:Lg wx gR n0 z0) (b1:w.heap.size<=gR) (hl:r.length<=rest.length) (nm:Bt) (sz:Int) (ok:Bool)
  (hI:(ok=true/\glP K.wr rest=.ok nm sz wr r/\r.length<rest.length)\/(ok=false/\glP K.wr rest=.bad r)) (W:World) (hW:W=(wx.setCell ⟨gR,0,none⟩ (.string (st nm))).setCell ⟨gR,1,none⟩ (.int .i64 sz)) :
  Lg W gR nm sz/\GlQ K rest w (.returned (.tuple #[glv nm sz,.bool ok])) W:=by
 subst hW
 have h2:=(M.sc (p:=⟨gR,0,none⟩) b1 (.string (st nm))).sc (p:=⟨gR,1,none⟩) b1 (.int .i64 sz)
 exact⟨R.st2 nm sz,nm,sz,wr,ok,at2,r,rfl,h2.pat,hl,h2.gr,Xj hI⟩
theorem Pf (K:PC) (at_:Nat) (rest:List Tk) (w:World) (hP:PAt w K at_ rest):Calls Tryz.prog 100 #[.pointer (some ⟨K.g,0,none⟩)] w (GlQ K rest w):=by
 have HM1:=Xj ((MS.init hP).al (.cells #[.string (st []),.int .i64 0] 60))
 have HR1:=Xj (Lg.new w [] 0)
 have HRT:Xq (rest.tail.length<rest.length):=Xj (by obtain⟨x,r,e⟩:=hP.en.cons;rw[e];simp)
 clear hP
 go_enter Tryz.func100,Tryz.ntmps100
 go_upto_region 1 with fail
 obtain⟨w1,hw1⟩:∃ W,w.alloc (.cells #[.string (st []),.int .i64 0] 60)=W:=⟨_,rfl⟩
 obtain⟨gR,hgR⟩:∃ x,w.heap.size=x:=⟨_,rfl⟩
 (try rw[show w.alloc (.cells #[.string { data := #[] },.int .i64 0] 60)=w1 from hw1])
 rw[hw1] at HM1 HR1
 rw[hgR] at HR1
 (try rw[hgR])
 have HGR:=Xj hgR
 clear hw1 hgR
 go_wp2_with fail
 refine(Us K at_ rest w1 HM1.o.pat).mono ?_
 rintro e w2 ⟨at2,r2,hp2,hg2,hc2⟩
 have HM2:=Xj (HM1.o.call hp2 hg2)
 have HR2:=Xj (HR1.o.grw hg2 (by have:=HM1.o.gl;have:=HGR.o;intro e;injection e with e;omega))
 clear hp2 hg2 HM1 HR1
 obtain⟨nm,hnm⟩:∃ x,tOf rest=x:=⟨_,rfl⟩
 have HNM:=Xj hnm
 (try rw[hnm] at hc2)
 clear hnm
 rcases hc2 with⟨hk1,rfl,ha2,hr2⟩|⟨hk1,rfl,ha2,hr2⟩<;>subst at2 r2
 rotate_left
 ·have HK1:=Xj hk1
  clear hk1
  obtain⟨y0,y1⟩:=HR2.o.cells
  obtain⟨g0,g1⟩:=HR2.o.froz
  have hlR:=HR2.o.lt
  go_wp2_with fail
  have hZ:=Kr (K:=K) (rest:=rest) (wr:=K.wr) HM2.o HR2.o (show w.heap.size<=gR by have:=HGR.o;omega) (Nat.le_refl _) [] 0 false (.inr ⟨rfl,by unfold glP;rw[if_neg HK1.o]⟩)
  obtain⟨wz,hwz⟩:∃ W,(w2.setCell ⟨gR,0,none⟩ (.string (st []))).setCell ⟨gR,1,none⟩ (.int .i64 0)=W:=⟨_,rfl⟩
  (try rw[hwz])
  obtain⟨hd,hep⟩:=hZ wz hwz.symm
  obtain⟨d0,d1⟩:=hd.cells
  clear hZ
  go_wp2_with fail
  refine bodyPost_ret (v:=.tuple #[glv [] 0,.bool false]) (by simp[results,Tryz.results100,go_sem,d0,d1]) rfl ?_
  exact hep
 have HK1:=Xj hk1
 clear hk1
 have HM3:=Xj (HM2.o.al (.cells #[.string (st nm),.int .i64 0] 60))
 have HR3:=Xj (HR2.o.al (.cells #[.string (st nm),.int .i64 0] 60))
 have HL3:=Xj (Lg.new w2 nm 0)
 have HNE:Xq (gR<w2.heap.size):=Xj HR2.o.lt
 go_upto_region 5 with fail
 obtain⟨w3,hw3⟩:∃ W,w2.alloc (.cells #[.string (st nm),.int .i64 0] 60)=W:=⟨_,rfl⟩
 obtain⟨gs,hgs⟩:∃ x,w2.heap.size=x:=⟨_,rfl⟩
 (try rw[hw3])
 rw[hw3] at HM3 HR3 HL3
 rw[hgs] at HL3 HNE
 (try rw[hgs])
 clear hw3 hgs HM2 HR2
 have hgl:=HM3.o.gl
 have hgr:w.heap.size<=gR:=by have:=HGR.o;omega
 have hne:gR<gs:=HNE.o
 go_wp2_with fail
 refine(Yj K (at_+1) rest.tail [91] w3 HM3.o.pat).mono ?_
 rintro e w4 ⟨at4,r4,rfl,hp4,hg4,hc4⟩
 have HM4:=Xj (HM3.o.call hp4 hg4)
 have HR4:=Xj (HR3.o.grw hg4 (by intro e;injection e with e;omega))
 have HL4:=Xj (HL3.o.grw hg4 (by intro e;injection e with e;omega))
 clear hp4 hg4 HM3 HR3 HL3
 rcases hc4 with⟨hT,ha4,hr4⟩|⟨hT,ha4,hr4⟩<;>subst at4 r4
 rotate_left
 ·have HB1:=Xj hT
  (try rw[hT])
  clear hT
  go_upto_region 15 with fail
  obtain⟨s0,s1⟩:=HL4.o.cells
  obtain⟨wd,hwd⟩:∃ W,w4.drew=W:=⟨_,rfl⟩
  have HMd:=Xj (show MS K w wd (at_+1) rest.tail by rw[<- hwd];exact HM4.o.be (Below.refl _ _).drew)
  have HRd:=Xj (show Lg wd gR [] 0 by rw[<- hwd];exact HR4.o)
  have HLd:=Xj (show Lg wd gs nm 0 by rw[<- hwd];exact HL4.o)
  refine wp_region_held_drew (S:=(λ w'=>w'.cell? ⟨gs,0,none⟩=some (.string (st nm))/\w'.cell? ⟨gs,1,none⟩=some (.int .i64 0))) (by kernel_rfl) (by rw[hwd];exact HLd.o.cells) (λ hJ=>?_)
  rw[hwd] at hJ ⊢
  clear hwd s0 s1
  refine tkH 0 60 ?_
  refine tkH 1 61 ?_
  refine rdH 2 λ K0 hK=>?_
  go_simp
  refine(Yj (K) (at_+1) rest.tail [59] _ HMd.o.pat).mono ?_
  rintro e w9 ⟨at9,r9,rfl,hp9,hg9,hc9⟩
  have HM9:=Xj (HMd.o.call hp9 hg9)
  have HR9:=Xj (HRd.o.grw hg9 (by intro e;injection e with e;have e2:K.g=gR:=e;omega))
  have HL9:=Xj (HLd.o.grw hg9 (by intro e;injection e with e;have e2:K.g=gs:=e;omega))
  refine goH hK HL9.o.cells λ hJ=>?_
  clear hK K0 hp9 hg9
  have HC9:=Xj hc9
  obtain⟨b59,hzf⟩:∃ b,isT [59] rest.tail=b:=⟨_,rfl⟩
  have hxt:=Xj hzf
  (try rw[hzf])
  clear hzf hc9
  obtain⟨y0,y1⟩:=HR9.o.cells
  obtain⟨g0,g1⟩:=HR9.o.froz
  have hlR:=HR9.o.lt
  refine rdH 3 λ K0 hK=>?_
  go_simp
  refine goH hK ⟨Yr _ (by omega) (Yr _ (by omega) hJ.1),Yr _ (by omega) (Yr _ (by omega) hJ.2)⟩ λ hJ=>?_
  clear hK K0
  refine tkH 4 3 ?_
  refine wpAnyH_done (by kernel_rfl) ?_ _
  refine Xz ?_
  clear y0 y1 g0 g1 hlR hJ
  have hZ:=Kr (K:=K) (rest:=rest) (wr:=(K).wr) HM9.o HR9.o hgr (by rcases HC9.o with⟨_,_,e⟩|⟨_,_,e⟩<;>(rw[e];have:=HRT.o;simp only[List.length_tail] at *;omega)) nm 0 b59 (by
   rcases HC9.o with⟨h1,_,e⟩|⟨h1,_,e⟩
   ·exact .inl ⟨by rw[<- hxt.o];exact h1,by rw[e];unfold glP;rw[if_pos HK1.o,if_neg (by rw[HB1.o];simp),if_pos h1,HNM.o],by rw[e];have:=HRT.o;simp only[List.length_tail] at *;omega⟩
   exact .inr ⟨by rw[<- hxt.o];exact h1,by rw[e];unfold glP;rw[if_pos HK1.o,if_neg (by rw[HB1.o];simp),if_neg (by rw[h1];simp)]⟩)
  obtain⟨wz,hwz⟩:∃ W,(w9.setCell ⟨gR,0,none⟩ (.string (st nm))).setCell ⟨gR,1,none⟩ (.int .i64 0)=W:=⟨_,rfl⟩
  (try rw[hwz])
  obtain⟨hd,hep⟩:=hZ wz hwz.symm
  obtain⟨d0,d1⟩:=hd.cells
  clear hZ
  go_wp2_with fail
  refine bodyPost_ret (v:=.tuple #[glv nm 0,.bool b59]) (by simp[results,Tryz.results100,go_sem,d0,d1]) rfl ?_
  exact hep
 have HB1:=Xj hT
 (try rw[hT])
 clear hT
 obtain⟨ap,hap⟩:∃ x,at_+1+1=x:=⟨_,rfl⟩
 rw[hap] at HM4
 clear hap
 obtain⟨⟨uk,un,uv,ut⟩,r1,hr1⟩:=HM4.o.pat.en.cons
 have HU:Xq (kOf rest.tail.tail=uk/\Yc rest.tail.tail=un/\vOf rest.tail.tail=uv):=Xj (by rw[hr1];exact⟨rfl,rfl,rfl⟩)
 have HLO:=Xj (Zb K ap uk un uv ut r1 w4 (hr1▸HM4.o.pat))
 clear hr1
 go_wp2_with fail
 refine HLO.o.mono ?_
 rintro e w5 ⟨rfl,hb5⟩
 have HM6:=Xj ((HM4.o.be hb5).al (.cells #[.int .i64 uk,.int .i64 un,.int .i64 uv,.string (st ut)] 103))
 have HR6:=Xj ((HR4.o.be hb5).al (.cells #[.int .i64 uk,.int .i64 un,.int .i64 uv,.string (st ut)] 103))
 have HL6:=Xj ((HL4.o.be hb5).al (.cells #[.int .i64 uk,.int .i64 un,.int .i64 uv,.string (st ut)] 103))
 have HT6:=Xj (Lt.new w5 ⟨uk,un,uv,ut⟩)
 have HNT:Xq (gs<w5.heap.size):=Xj (HL4.o.be hb5).lt
 clear hb5 HLO HM4 HR4 HL4
 go_upto_region 7 with fail
 obtain⟨w6,hw6⟩:∃ W,w5.alloc (.cells #[.int .i64 uk,.int .i64 un,.int .i64 uv,.string (st ut)] 103)=W:=⟨_,rfl⟩
 obtain⟨gt,hgt⟩:∃ x,w5.heap.size=x:=⟨_,rfl⟩
 have HT7:Xq (Lt w6 gt ⟨uk,un,uv,ut⟩):=Xj (by rw[<- hw6,<- hgt];exact HT6.o)
 rw[hw6] at HM6 HR6 HL6
 rw[hgt] at HNT
 (try rw[hw6])
 (try rw[hgt])
 clear hw6 hgt HT6
 have hnt:gs<gt:=HNT.o
 obtain⟨t0,t1,t2,t3⟩:=HT7.o.cells
 (try dsimp only at t0 t1 t2 t3)
 have hlT:=HT7.o.lt
 by_cases hu2:uk=2
 rotate_left
 ·have d1:(uk==2)=false:=beq_eq_false_iff_ne.2 hu2
  have d2:(uk != 2)=true:=bne_iff_ne.2 hu2
  have HU2:=Xj hu2
  clear hu2
  obtain⟨s0,s1⟩:=HL6.o.cells
  have hlS:=HL6.o.lt
  obtain⟨y0,y1⟩:=HR6.o.cells
  obtain⟨g0,g1⟩:=HR6.o.froz
  have hlR:=HR6.o.lt
  go_wp2_with fail
  have hZ:=Kr (K:=K) (rest:=rest) (wr:=K.wr) HM6.o HR6.o (show w.heap.size<=gR by have:=HGR.o;omega) (by have:=HRT.o;simp only[List.length_tail] at *;omega) nm 0 false (.inr ⟨rfl,by unfold glP;rw[if_pos HK1.o,if_pos HB1.o,if_neg (by rw[HU.o.1];exact HU2.o)]⟩)
  obtain⟨wz,hwz⟩:∃ W,(w6.setCell ⟨gR,0,none⟩ (.string (st nm))).setCell ⟨gR,1,none⟩ (.int .i64 0)=W:=⟨_,rfl⟩
  (try rw[hwz])
  obtain⟨hd,hep⟩:=hZ wz hwz.symm
  obtain⟨d0,d1⟩:=hd.cells
  clear hZ
  go_wp2_with fail
  refine bodyPost_ret (v:=.tuple #[glv nm 0,.bool false]) (by simp[results,Tryz.results100,go_sem,d0,d1]) rfl ?_
  exact hep
 subst hu2
 obtain⟨-,p1,p2,f1,f2,hlp⟩:=HM6.o.pat.cells
 obtain⟨s0,s1⟩:=HL6.o.cells
 obtain⟨j0,j1⟩:=HL6.o.froz
 have hlS:=HL6.o.lt
 have hw1:=HM6.o.w1
 have HM7:=Xj ((HM6.o.step (by rw[HU.o.1];decide)).sc (p:=⟨gs,1,none⟩) (by show w.heap.size<=gs;omega) (.int .i64 uv))
 have HR7:=Xj ((HR6.o.s1 (p:=⟨K.g,1,none⟩) (v:=.int .i64 ((ap:Int)+1)) (by show gR≠K.g;omega)).s1 (p:=⟨gs,1,none⟩) (v:=.int .i64 uv) (by show gR≠gs;omega))
 have HL7:=Xj ((HL6.o.s1 (p:=⟨K.g,1,none⟩) (v:=.int .i64 ((ap:Int)+1)) (by show gs≠K.g;omega)).ss uv)
 have HT8:=Xj ((HT7.o.s1 (p:=⟨K.g,1,none⟩) (v:=.int .i64 ((ap:Int)+1)) (by show gt≠K.g;omega)).s1 (p:=⟨gs,1,none⟩) (v:=.int .i64 uv) (by show gt≠gs;omega))
 have s0':=(HL6.o.s1 (p:=⟨K.g,1,none⟩) (v:=.int .i64 ((ap:Int)+1)) (by show gs≠K.g;omega)).cells
 go_upto_region 11 with fail
 obtain⟨w7,hw7⟩:∃ W,(w6.setCell ⟨K.g,1,none⟩ (.int .i64 ((ap:Int)+1))).setCell ⟨gs,1,none⟩ (.int .i64 uv)=W:=⟨_,rfl⟩
 rw[hw7] at HM7 HR7 HL7 HT8
 (try rw[hw7])
 clear hw7 s0' p1 p2 f1 f2 hlp s0 s1 j0 j1 hlS hw1 t0 t1 t2 t3 hlT HM6 HR6 HL6 HT7
 obtain⟨kw,hkw⟩:∃ x,K.wr=x:=⟨_,rfl⟩
 have HKW:=Xj hkw
 obtain⟨-,-,p2,-,f2,hlp⟩:=HM7.o.pat.cells
 rw[hkw] at p2
 clear hkw
 obtain⟨s0,s1⟩:=HL7.o.cells
 have hlS:=HL7.o.lt
 obtain⟨t0,t1,t2,t3⟩:=HT8.o.cells
 (try dsimp only at t0 t1 t2 t3)
 have hlT:=HT8.o.lt
 obtain⟨bw,hbw⟩:∃ b,((decide (uv<1)||decide (1024<uv))&&(kw==0))=b:=⟨_,rfl⟩
 have HBW:Xq (((decide (uv<1)||decide (1024<uv))&&(kw==0))=bw):=Xj hbw
 clear hbw
 go_cut [50] from 36 to 50 (λ v50 wx=>v50=.bool bw/\wx=w7)
 case first =>
  by_cases h1:uv<1
  ·have e1:decide (uv<1)=true:=decide_eq_true h1
   cases e3:(kw==0)
   ·obtain rfl:bw=false:=by rw[<- HBW.o,e1,e3];rfl
    go_wp2_with fail
    go_meet
    exact⟨rfl,rfl⟩
   obtain rfl:bw=true:=by rw[<- HBW.o,e1,e3];rfl
   go_wp2_with fail
   go_meet
   exact⟨rfl,rfl⟩
  have e1:decide (uv<1)=false:=decide_eq_false h1
  by_cases h2:1024<uv
  ·have e2:decide (1024<uv)=true:=decide_eq_true h2
   cases e3:(kw==0)
   ·obtain rfl:bw=false:=by rw[<- HBW.o,e1,e2,e3];rfl
    go_wp2_with fail
    go_meet
    exact⟨rfl,rfl⟩
   obtain rfl:bw=true:=by rw[<- HBW.o,e1,e2,e3];rfl
   go_wp2_with fail
   go_meet
   exact⟨rfl,rfl⟩
  have e2:decide (1024<uv)=false:=decide_eq_false h2
  obtain rfl:bw=false:=by rw[<- HBW.o,e1,e2];rfl
  go_wp2_with fail
  go_meet
  exact⟨rfl,rfl⟩
 case rest =>
 obtain⟨rfl,hwx⟩:=hcut
 rw[hwx]
 cases bw
 ·have HWR:Xq (Vk uv un K.wr=K.wr):=Xj (by
   unfold Vk
   rw[if_neg]
   intro hc
   have:=HBW.o
   rw[<- HKW.o] at this
   rw[hc.2] at this
   rcases hc.1 with h|h
   ·rw[decide_eq_true h] at this;simp at this
   rw[decide_eq_true h] at this;simp at this)
  go_wp2_with fail
  refine(Yj K (ap+1) rest.tail.tail.tail [93] w7 HM7.o.pat).mono ?_
  rintro e wA ⟨at5,r5,rfl,hp5,hg5,hc5⟩
  have HMA:=Xj (HM7.o.call hp5 hg5)
  have HRA:=Xj (HR7.o.grw hg5 (by intro e;injection e with e;have e2:K.g=gR:=e;omega))
  have HLA:=Xj (HL7.o.grw hg5 (by intro e;injection e with e;have e2:K.g=gs:=e;omega))
  clear hp5 hg5
  rcases hc5 with⟨hT,ha5,hr5⟩|⟨hT,ha5,hr5⟩<;>subst at5 r5
  rotate_left
  ·have HC:=Xj hT
   (try rw[hT])
   clear hT
   obtain⟨s0,s1⟩:=HLA.o.cells
   have hlS:=HLA.o.lt
   obtain⟨y0,y1⟩:=HRA.o.cells
   obtain⟨g0,g1⟩:=HRA.o.froz
   have hlR:=HRA.o.lt
   go_wp2_with fail
   have hZ:=Kr (K:=K) (rest:=rest) (wr:=K.wr) HMA.o HRA.o (show w.heap.size<=gR by have:=HGR.o;omega) (by have:=HRT.o;simp only[List.length_tail] at *;omega) nm uv false (.inr ⟨rfl,by unfold glP;rw[if_pos HK1.o,if_pos HB1.o,if_pos HU.o.1,if_neg (by rw[HC.o];simp)]⟩)
   obtain⟨wz,hwz⟩:∃ W,(wA.setCell ⟨gR,0,none⟩ (.string (st nm))).setCell ⟨gR,1,none⟩ (.int .i64 uv)=W:=⟨_,rfl⟩
   (try rw[hwz])
   obtain⟨hd,hep⟩:=hZ wz hwz.symm
   obtain⟨d0,d1⟩:=hd.cells
   clear hZ
   go_wp2_with fail
   refine bodyPost_ret (v:=.tuple #[glv nm uv,.bool false]) (by simp[results,Tryz.results100,go_sem,d0,d1]) rfl ?_
   exact hep
  have HC:=Xj hT
  (try rw[hT])
  clear hT
  go_upto_region 15 with fail
  obtain⟨s0,s1⟩:=HLA.o.cells
  obtain⟨wd,hwd⟩:∃ W,wA.drew=W:=⟨_,rfl⟩
  have HMd:=Xj (show MS K w wd (ap+1+1) rest.tail.tail.tail.tail by rw[<- hwd];exact HMA.o.be (Below.refl _ _).drew)
  have HRd:=Xj (show Lg wd gR [] 0 by rw[<- hwd];exact HRA.o)
  have HLd:=Xj (show Lg wd gs nm uv by rw[<- hwd];exact HLA.o)
  refine wp_region_held_drew (S:=(λ w'=>w'.cell? ⟨gs,0,none⟩=some (.string (st nm))/\w'.cell? ⟨gs,1,none⟩=some (.int .i64 uv))) (by kernel_rfl) (by rw[hwd];exact HLd.o.cells) (λ hJ=>?_)
  rw[hwd] at hJ ⊢
  clear hwd s0 s1
  refine tkH 0 60 ?_
  refine tkH 1 61 ?_
  refine rdH 2 λ K0 hK=>?_
  go_simp
  refine(Yj (K) (ap+1+1) rest.tail.tail.tail.tail [59] _ HMd.o.pat).mono ?_
  rintro e w9 ⟨at9,r9,rfl,hp9,hg9,hc9⟩
  have HM9:=Xj (HMd.o.call hp9 hg9)
  have HR9:=Xj (HRd.o.grw hg9 (by intro e;injection e with e;have e2:K.g=gR:=e;omega))
  have HL9:=Xj (HLd.o.grw hg9 (by intro e;injection e with e;have e2:K.g=gs:=e;omega))
  refine goH hK HL9.o.cells λ hJ=>?_
  clear hK K0 hp9 hg9
  have HC9:=Xj hc9
  obtain⟨b59,hzf⟩:∃ b,isT [59] rest.tail.tail.tail.tail=b:=⟨_,rfl⟩
  have hxt:=Xj hzf
  (try rw[hzf])
  clear hzf hc9
  obtain⟨y0,y1⟩:=HR9.o.cells
  obtain⟨g0,g1⟩:=HR9.o.froz
  have hlR:=HR9.o.lt
  refine rdH 3 λ K0 hK=>?_
  go_simp
  refine goH hK ⟨Yr _ (by omega) (Yr _ (by omega) hJ.1),Yr _ (by omega) (Yr _ (by omega) hJ.2)⟩ λ hJ=>?_
  clear hK K0
  refine tkH 4 3 ?_
  refine wpAnyH_done (by kernel_rfl) ?_ _
  refine Xz ?_
  clear y0 y1 g0 g1 hlR hJ
  have hZ:=Kr (K:=K) (rest:=rest) (wr:=(K).wr) HM9.o HR9.o hgr (by rcases HC9.o with⟨_,_,e⟩|⟨_,_,e⟩<;>(rw[e];have:=HRT.o;simp only[List.length_tail] at *;omega)) nm uv b59 (by
   rcases HC9.o with⟨h1,_,e⟩|⟨h1,_,e⟩
   ·exact .inl ⟨by rw[<- hxt.o];exact h1,by rw[e];unfold glP;rw[if_pos HK1.o,if_pos HB1.o,if_pos HU.o.1,if_pos HC.o,if_pos h1,HNM.o,HU.o.2.1,HU.o.2.2,HWR.o],by rw[e];have:=HRT.o;simp only[List.length_tail] at *;omega⟩
   exact .inr ⟨by rw[<- hxt.o];exact h1,by rw[e];unfold glP;rw[if_pos HK1.o,if_pos HB1.o,if_pos HU.o.1,if_pos HC.o,if_neg (by rw[h1];simp)]⟩)
  obtain⟨wz,hwz⟩:∃ W,(w9.setCell ⟨gR,0,none⟩ (.string (st nm))).setCell ⟨gR,1,none⟩ (.int .i64 uv)=W:=⟨_,rfl⟩
  (try rw[hwz])
  obtain⟨hd,hep⟩:=hZ wz hwz.symm
  obtain⟨d0,d1⟩:=hd.cells
  clear hZ
  go_wp2_with fail
  refine bodyPost_ret (v:=.tuple #[glv nm uv,.bool b59]) (by simp[results,Tryz.results100,go_sem,d0,d1]) rfl ?_
  exact hep
 have HWR:Xq (Vk uv un K.wr=un):=Xj (by
  have:=HBW.o
  simp only[Bool.and_eq_true,Bool.or_eq_true,decide_eq_true_eq,beq_iff_eq] at this
  unfold Vk
  rw[if_pos ⟨this.1,by rw[HKW.o];exact this.2⟩])
 have HM8:=Xj (HM7.o.wr un)
 have HR8:=Xj (HR7.o.s1 (p:=⟨K.g,2,none⟩) (v:=.int .i64 un) (by show gR≠K.g;omega))
 have HL8:=Xj (HL7.o.s1 (p:=⟨K.g,2,none⟩) (v:=.int .i64 un) (by show gs≠K.g;omega))
 go_upto_region 13 with fail
 obtain⟨w8,hw8⟩:∃ W,w7.setCell ⟨K.g,2,none⟩ (.int .i64 un)=W:=⟨_,rfl⟩
 rw[hw8] at HM8 HR8 HL8
 (try rw[hw8])
 clear hw8 p2 f2 hlp s0 s1 hlS t0 t1 t2 t3 hlT HM7 HR7 HL7 HT8
 go_wp2_with fail
 refine(Yj (K.mk' un) (ap+1) rest.tail.tail.tail [93] w8 HM8.o.pat).mono ?_
 rintro e wA ⟨at5,r5,rfl,hp5,hg5,hc5⟩
 have HMA:=Xj (HM8.o.call hp5 hg5)
 have HRA:=Xj (HR8.o.grw hg5 (by intro e;injection e with e;have e2:K.g=gR:=e;omega))
 have HLA:=Xj (HL8.o.grw hg5 (by intro e;injection e with e;have e2:K.g=gs:=e;omega))
 clear hp5 hg5
 rcases hc5 with⟨hT,ha5,hr5⟩|⟨hT,ha5,hr5⟩<;>subst at5 r5
 rotate_left
 ·have HC:=Xj hT
  (try rw[hT])
  clear hT
  obtain⟨s0,s1⟩:=HLA.o.cells
  have hlS:=HLA.o.lt
  obtain⟨y0,y1⟩:=HRA.o.cells
  obtain⟨g0,g1⟩:=HRA.o.froz
  have hlR:=HRA.o.lt
  go_wp2_with fail
  have hZ:=Kr (K:=K) (rest:=rest) (wr:=un) HMA.o HRA.o (show w.heap.size<=gR by have:=HGR.o;omega) (by have:=HRT.o;simp only[List.length_tail] at *;omega) nm uv false (.inr ⟨rfl,by unfold glP;rw[if_pos HK1.o,if_pos HB1.o,if_pos HU.o.1,if_neg (by rw[HC.o];simp)]⟩)
  obtain⟨wz,hwz⟩:∃ W,(wA.setCell ⟨gR,0,none⟩ (.string (st nm))).setCell ⟨gR,1,none⟩ (.int .i64 uv)=W:=⟨_,rfl⟩
  (try rw[hwz])
  obtain⟨hd,hep⟩:=hZ wz hwz.symm
  obtain⟨d0,d1⟩:=hd.cells
  clear hZ
  go_wp2_with fail
  refine bodyPost_ret (v:=.tuple #[glv nm uv,.bool false]) (by simp[results,Tryz.results100,go_sem,d0,d1]) rfl ?_
  exact hep
 have HC:=Xj hT
 (try rw[hT])
 clear hT
 go_upto_region 15 with fail
 obtain⟨s0,s1⟩:=HLA.o.cells
 obtain⟨wd,hwd⟩:∃ W,wA.drew=W:=⟨_,rfl⟩
 have HMd:=Xj (show MS (K.mk' un) w wd (ap+1+1) rest.tail.tail.tail.tail by rw[<- hwd];exact HMA.o.be (Below.refl _ _).drew)
 have HRd:=Xj (show Lg wd gR [] 0 by rw[<- hwd];exact HRA.o)
 have HLd:=Xj (show Lg wd gs nm uv by rw[<- hwd];exact HLA.o)
 refine wp_region_held_drew (S:=(λ w'=>w'.cell? ⟨gs,0,none⟩=some (.string (st nm))/\w'.cell? ⟨gs,1,none⟩=some (.int .i64 uv))) (by kernel_rfl) (by rw[hwd];exact HLd.o.cells) (λ hJ=>?_)
 rw[hwd] at hJ ⊢
 clear hwd s0 s1
 refine tkH 0 60 ?_
 refine tkH 1 61 ?_
 refine rdH 2 λ K0 hK=>?_
 go_simp
 refine(Yj ((K.mk' un)) (ap+1+1) rest.tail.tail.tail.tail [59] _ HMd.o.pat).mono ?_
 rintro e w9 ⟨at9,r9,rfl,hp9,hg9,hc9⟩
 have HM9:=Xj (HMd.o.call hp9 hg9)
 have HR9:=Xj (HRd.o.grw hg9 (by intro e;injection e with e;have e2:K.g=gR:=e;omega))
 have HL9:=Xj (HLd.o.grw hg9 (by intro e;injection e with e;have e2:K.g=gs:=e;omega))
 refine goH hK HL9.o.cells λ hJ=>?_
 clear hK K0 hp9 hg9
 have HC9:=Xj hc9
 obtain⟨b59,hzf⟩:∃ b,isT [59] rest.tail.tail.tail.tail=b:=⟨_,rfl⟩
 have hxt:=Xj hzf
 (try rw[hzf])
 clear hzf hc9
 obtain⟨y0,y1⟩:=HR9.o.cells
 obtain⟨g0,g1⟩:=HR9.o.froz
 have hlR:=HR9.o.lt
 refine rdH 3 λ K0 hK=>?_
 go_simp
 refine goH hK ⟨Yr _ (by omega) (Yr _ (by omega) hJ.1),Yr _ (by omega) (Yr _ (by omega) hJ.2)⟩ λ hJ=>?_
 clear hK K0
 refine tkH 4 3 ?_
 refine wpAnyH_done (by kernel_rfl) ?_ _
 refine Xz ?_
 clear y0 y1 g0 g1 hlR hJ
 have hZ:=Kr (K:=K) (rest:=rest) (wr:=((K.mk' un)).wr) HM9.o HR9.o hgr (by rcases HC9.o with⟨_,_,e⟩|⟨_,_,e⟩<;>(rw[e];have:=HRT.o;simp only[List.length_tail] at *;omega)) nm uv b59 (by
  rcases HC9.o with⟨h1,_,e⟩|⟨h1,_,e⟩
  ·exact .inl ⟨by rw[<- hxt.o];exact h1,by rw[e];unfold glP;rw[if_pos HK1.o,if_pos HB1.o,if_pos HU.o.1,if_pos HC.o,if_pos h1,HNM.o,HU.o.2.1,HU.o.2.2,HWR.o],by rw[e];have:=HRT.o;simp only[List.length_tail] at *;omega⟩
  exact .inr ⟨by rw[<- hxt.o];exact h1,by rw[e];unfold glP;rw[if_pos HK1.o,if_pos HB1.o,if_pos HU.o.1,if_pos HC.o,if_neg (by rw[h1];simp)]⟩)
 obtain⟨wz,hwz⟩:∃ W,(w9.setCell ⟨gR,0,none⟩ (.string (st nm))).setCell ⟨gR,1,none⟩ (.int .i64 uv)=W:=⟨_,rfl⟩
 (try rw[hwz])
 obtain⟨hd,hep⟩:=hZ wz hwz.symm
 obtain⟨d0,d1⟩:=hd.cells
 clear hZ
 go_wp2_with fail
 refine bodyPost_ret (v:=.tuple #[glv nm uv,.bool b59]) (by simp[results,Tryz.results100,go_sem,d0,d1]) rfl ?_
 exact hep
end
theorem RS.wr {K:PC} {w wx:World} {at_:Nat} {bad:Bool} {r:List Tk} (h:RS K w wx at_ bad r) (x:Int):RS (K.mk' x) w (wx.setCell ⟨K.g,3,none⟩ (.int .i64 x)) at_ bad r :=
 have hjc:=Xp wx K.g 3 (.int .i64 x)
 {pat :=
   {row:=heap_setCell_same wx K.g 3 _ _ _ h.pat.row
    tk:=λ j y hj=>by
     obtain⟨b,off,e,hb,h0,h1,h2,h3⟩:=h.pat.tk j y hj
     have key:(wx.setCell ⟨K.g,3,none⟩ (.int .i64 x)).heap[b]?=wx.heap[b]?:=hjc.block b hb (λ e2=>by injection e2 with e2;exact h.pat.ne _ e e2)
     have kc:∀ o,(wx.setCell ⟨K.g,3,none⟩ (.int .i64 x)).cell? ⟨b,o,none⟩=wx.cell? ⟨b,o,none⟩:=λ o=>World.cell?_of_block (a:=⟨b,o,none⟩) key
     exact⟨b,off,e,by have:=hjc.size;omega,(kc _).trans h0,(kc _).trans h1,(kc _).trans h2,(kc _).trans h3⟩
    ne:=h.pat.ne
    dr:=h.pat.dr
    en:=h.pat.en
    cap:=h.pat.cap
    n:=h.pat.n }
  gr:=Xb h.gr hjc
  gl:=h.gl
  tl:=h.tl }
theorem RAt.wrc {w:World} {K:PC} {at_:Nat} {bad:Bool} {rest:List Tk} (h:RAt w K at_ bad rest):w.cell? ⟨K.g,3,none⟩=some (.int .i64 K.wr)/\w.frozen? ⟨K.g,3,none⟩=false:=⟨cell_of_row _ _ 3 _ _ _ h.row,frozen_of_row _ _ 3 _ _ h.row⟩
def xqg (K:PC) (rest:List Tk) (w:World) (e:Ending) (w':World):Prop :=
 ∃ (nm:Bt) (sz wr:Int) (bad2:Bool) (at2:Nat) (r:List Tk),e=.returned (glv nm sz)/\RAt w' (K.mk' wr) at2 bad2 r/\r.length<=rest.length/\w.grownBy w' (some K.g) /\
  Xq ((bad2=false/\glP K.wr rest=.ok nm sz wr r/\r.length<rest.length)\/(bad2=true/\glP K.wr rest=.bad r))
theorem If {K:PC} {rest r:List Tk} {at2 gR:Nat} {bad2:Bool} {w wx:World} {n0:Bt} {z0 wr:Int} (M:RS (K.mk' wr) w wx at2 bad2 r) (R:Lg wx gR n0 z0) (b1:w.heap.size<=gR) (hl:r.length<=rest.length) (nm:Bt) (sz:Int)
  (hI:(bad2=false/\glP K.wr rest=.ok nm sz wr r/\r.length<rest.length)\/(bad2=true/\glP K.wr rest=.bad r)) (W:World) (hW:W=(wx.setCell ⟨gR,0,none⟩ (.string (st nm))).setCell ⟨gR,1,none⟩ (.int .i64 sz)) :
  Lg W gR nm sz/\xqg K rest w (.returned (glv nm sz)) W:=by
 subst hW
 have h2:=(M.sc (p:=⟨gR,0,none⟩) b1 (.string (st nm))).sc (p:=⟨gR,1,none⟩) b1 (.int .i64 sz)
 exact⟨R.st2 nm sz,nm,sz,wr,bad2,at2,r,rfl,h2.pat,hl,h2.gr,Xj hI⟩
theorem Nk (K:PC) (at_:Nat) (rest:List Tk) (w:World) (hP:RAt w K at_ false rest):Calls Tryz.prog 103 #[.pointer (some ⟨K.g,0,none⟩)] w (xqg K rest w):=by
 have HM1:=Xj ((RS.init hP).al (.cells #[.string (st []),.int .i64 0] 60))
 have HR1:=Xj (Lg.new w [] 0)
 have HRT:Xq (rest.tail.length<rest.length):=Xj (by obtain⟨x,r,e⟩:=hP.en.cons;rw[e];simp)
 clear hP
 go_enter Tryz.func103,Tryz.ntmps103
 go_upto_region 1 with fail
 obtain⟨w1,hw1⟩:∃ W,w.alloc (.cells #[.string (st []),.int .i64 0] 60)=W:=⟨_,rfl⟩
 obtain⟨gR,hgR⟩:∃ x,w.heap.size=x:=⟨_,rfl⟩
 (try rw[show w.alloc (.cells #[.string { data := #[] },.int .i64 0] 60)=w1 from hw1])
 rw[hw1] at HM1 HR1
 rw[hgR] at HR1
 (try rw[hgR])
 have HGR:=Xj hgR
 clear hw1 hgR
 go_wp2_with fail
 refine(Up K at_ false rest 1 w1 HM1.o.pat (by decide)).mono ?_
 rintro e w2 ⟨xk,xn,xv,nm,at2,bad2,r2,rfl,hp2,hg2,hK2⟩
 have hvg:∀ W:World,(Instr.field 103 (.agg #[.int .i64 xk,.int .i64 xn,.int .i64 xv,.string (st nm)]) 3).run Tryz.prog W=.ok (.string (st nm)) W:=λ _=>by kernel_rfl
 have HK2:=Xj hK2.out
 have hgl:=HM1.o.gl
 have hcp:w.heap.size<=gR:=by have:=HGR.o;omega
 have HM3:=Xj ((HM1.o.call hp2 hg2).al (.cells #[.string (st nm),.int .i64 0] 60))
 have HR2:=HR1.o.grw hg2 (by intro e;injection e with e;omega)
 have HNE:Xq (gR<w2.heap.size):=Xj HR2.lt
 have HR3:=Xj (HR2.al (.cells #[.string (st nm),.int .i64 0] 60))
 have HL3:=Xj (Lg.new w2 nm 0)
 clear hp2 hg2 hK2 HR2 HM1 HR1
 go_upto_region 2 with fail
 obtain⟨w3,hw3⟩:∃ W,w2.alloc (.cells #[.string (st nm),.int .i64 0] 60)=W:=⟨_,rfl⟩
 obtain⟨gs,hgs⟩:∃ x,w2.heap.size=x:=⟨_,rfl⟩
 (try rw[hw3])
 rw[hw3] at HM3 HR3 HL3
 rw[hgs] at HL3 HNE
 (try rw[hgs])
 clear hw3 hgs hvg
 go_wp2_with fail
 refine(Yy K at2 bad2 r2 [91] _ HM3.o.pat).mono ?_
 rintro e w4 ⟨at4,r4,rfl,hp4,hg4,hc4⟩
 have HC4:=Xj hc4
 have HM4:=Xj (HM3.o.call hp4 hg4)
 have HR4:=Xj (HR3.o.grw hg4 (by intro e;injection e with e;omega))
 have HL4:=Xj (HL3.o.grw hg4 (by have:=HNE.o;intro e;injection e with e;omega))
 clear hp4 hg4 hc4 HM3 HR3 HL3
 obtain⟨bt,hbt⟩:∃ b:Bool,(!bad2&&isT [91] r2)=b:=⟨_,rfl⟩
 have HBT:=Xj hbt
 go_upto_if 10 with fail
 (try rw[hbt])
 clear hbt
 -- what the size is,and where the reader stands
 go_cut [] from 11 to 45 (λ wx=>∃ (sz wr:Int) (at3:Nat) (bad3:Bool) (r3:List Tk),Xq (RS (K.mk' wr) w wx at3 bad3 r3/\Lg wx gR [] 0/\Lg wx gs nm sz/\r3.length<=rest.length /\
  ((bad3=false/\kOf rest=1/\nm=tOf rest/\((isT [91] rest.tail=false/\sz=0/\wr=K.wr/\r3=rest.tail)\/(isT [91] rest.tail=true/\kOf rest.tail.tail=2/\isT [93] rest.tail.tail.tail=true/\sz=vOf rest.tail.tail/\wr=Vk (vOf rest.tail.tail) (Yc rest.tail.tail) K.wr/\r3=rest.tail.tail.tail.tail)))\/(bad3=true/\glP K.wr rest=.bad r3))))
 case first =>
  cases bt
  ·go_wp2_with fail
   go_meet
   refine⟨0,K.wr,at4,bad2,r4,Xj ⟨HM4.o,HR4.o,HL4.o,?_,?_⟩⟩
   ·have h1:=HK2.o.1
    rcases HC4.o with⟨_,_,_,e⟩|⟨_,_,e⟩<;>rw[e]
    ·simp;omega
    exact h1
   have hb:=HBT.o
   rcases HC4.o with⟨c1,c2,_⟩|⟨c1,c2,c3⟩
   ·rw[c1,c2] at hb;cases hb
   rcases HK2.o.2 with⟨_,k2,k3,k4,_,_,k5⟩|⟨k1,k2,k3,k4⟩
   ·rw[k2,k5] at c1
    exact .inl ⟨k2,k3,k4,.inl ⟨by simpa using c1,rfl,rfl,by rw[c3,k5]⟩⟩
   exact .inr ⟨k1,by unfold glP;rw[if_neg (k2 (by first|rfl|trivial)),c3,k4]⟩
  have HF4:Xq (bad2=false/\kOf rest=1/\nm=tOf rest/\isT [91] rest.tail=true/\r4=rest.tail.tail):=Xj (by
   have hb:=HBT.o
   rcases HC4.o with⟨c1,c2,c3,c4⟩|⟨c1,_⟩
   ·rcases HK2.o.2 with⟨_,k2,k3,k4,_,_,k5⟩|⟨k1,_⟩
    ·rw[k5] at c2 c4
     exact⟨k2,k3,k4,c2,c4⟩
    rw[k1] at c1;cases c1
   rw[c1] at hb;cases hb)
  go_wp2_with fail
  refine(Up K at4 bad2 r4 2 _ HM4.o.pat (by decide)).mono ?_
  rintro e w5 ⟨yk,yn,yv,yt,at5,bad5,r5,rfl,hp5,hg5,hK5⟩
  have HK5:=Xj hK5.out
  have hgl:=HM4.o.gl
  have HM5:=Xj ((HM4.o.call hp5 hg5).al (.cells #[.int .i64 yk,.int .i64 yn,.int .i64 yv,.string (st yt)] 103))
  have HR5:=Xj ((HR4.o.grw hg5 (by intro e;injection e with e;omega)).al (.cells #[.int .i64 yk,.int .i64 yn,.int .i64 yv,.string (st yt)] 103))
  have HL5:=Xj ((HL4.o.grw hg5 (by have:=HNE.o;intro e;injection e with e;omega)).al (.cells #[.int .i64 yk,.int .i64 yn,.int .i64 yv,.string (st yt)] 103))
  have HT5:=Xj (Lt.new w5 ⟨yk,yn,yv,yt⟩)
  have HN5:Xq (gs<w5.heap.size/\K.g<w5.heap.size):=Xj ⟨by have:=HL4.o.lt;have:=hg5.size;omega,by have:=HM4.o.gr.size;have:=hg5.size;omega⟩
  clear hp5 hg5 hK5 HM4 HR4 HL4
  go_upto_region 4 with fail
  obtain⟨w6,hw6⟩:∃ W,w5.alloc (.cells #[.int .i64 yk,.int .i64 yn,.int .i64 yv,.string (st yt)] 103)=W:=⟨_,rfl⟩
  obtain⟨gt,hgt⟩:∃ x,w5.heap.size=x:=⟨_,rfl⟩
  (try rw[hw6])
  have HT6:Xq (Lt w6 gt ⟨yk,yn,yv,yt⟩):=Xj (by rw[<- hw6,<- hgt];exact HT5.o)
  rw[hw6] at HM5 HR5 HL5
  rw[hgt] at HN5
  (try rw[hgt])
  clear hw6 hgt HT5
  go_cut [34] from 13 to 34 (λ v34 wx=>∃ (b:Bool),v34=.bool b/\Xq (RS K w wx at5 bad5 r5/\Lg wx gR [] 0/\Lg wx gs nm 0/\Lt wx gt ⟨yk,yn,yv,yt⟩/\(bad5=false->Vk yv yn K.wr=if b=true then yn else K.wr)))
  case first =>
   obtain⟨t0,t1,t2,t3⟩:=HT6.o.cells
   (try dsimp only at t0 t1 t2 t3)
   have hlT:=HT6.o.lt
   obtain⟨-,-,p2,-,-,hlp⟩:=HM5.o.pat.cells
   obtain⟨p3,f3⟩:=HM5.o.pat.wrc
   obtain⟨wo,hwo⟩:∃ x,K.wr=x:=⟨_,rfl⟩
   have HWO:=Xj hwo
   rw[hwo] at p3
   clear hwo
   cases bad5
   ·have HNO:Vk yv yn wo=wo->Xq (Vk yv yn K.wr=if false=true then yn else K.wr):=λ e=>Xj (by rw[HWO.o];simpa using e)
    have HYE:Vk yv yn wo=yn->Xq (Vk yv yn K.wr=if true=true then yn else K.wr):=λ e=>Xj (by rw[HWO.o];simpa using e)
    by_cases h1:yv<1
    ·have d1:decide (yv<1)=true:=decide_eq_true h1
     by_cases h0:wo=0
     ·have d0:(wo==0)=true:=by simpa using h0
      have HE:=HYE (by unfold Vk;rw[if_pos ⟨.inl h1,h0⟩])
      clear h1 h0 HNO HYE
      go_wp2_with fail
      go_meet
      exact⟨true,rfl,Xj ⟨HM5.o,HR5.o,HL5.o,HT6.o,λ _=>HE.o⟩⟩
     have d0:(wo==0)=false:=by simpa using h0
     have HE:=HNO (by unfold Vk;rw[if_neg (by intro e;exact h0 e.2)])
     clear h1 h0 HNO HYE
     go_wp2_with fail
     go_meet
     exact⟨false,rfl,Xj ⟨HM5.o,HR5.o,HL5.o,HT6.o,λ _=>HE.o⟩⟩
    have d1:decide (yv<1)=false:=decide_eq_false h1
    by_cases h2:1024<yv
    ·have d2:decide (1024<yv)=true:=decide_eq_true h2
     by_cases h0:wo=0
     ·have d0:(wo==0)=true:=by simpa using h0
      have HE:=HYE (by unfold Vk;rw[if_pos ⟨.inr h2,h0⟩])
      clear h1 h2 h0 HNO HYE
      go_wp2_with fail
      go_meet
      exact⟨true,rfl,Xj ⟨HM5.o,HR5.o,HL5.o,HT6.o,λ _=>HE.o⟩⟩
     have d0:(wo==0)=false:=by simpa using h0
     have HE:=HNO (by unfold Vk;rw[if_neg (by intro e;exact h0 e.2)])
     clear h1 h2 h0 HNO HYE
     go_wp2_with fail
     go_meet
     exact⟨false,rfl,Xj ⟨HM5.o,HR5.o,HL5.o,HT6.o,λ _=>HE.o⟩⟩
    have d2:decide (1024<yv)=false:=decide_eq_false h2
    have HE:=HNO (by unfold Vk;rw[if_neg (by intro e;rcases e.1 with e|e;exact h1 e;exact h2 e)])
    clear h1 h2 HNO HYE
    go_wp2_with fail
    go_meet
    exact⟨false,rfl,Xj ⟨HM5.o,HR5.o,HL5.o,HT6.o,λ _=>HE.o⟩⟩
   go_wp2_with fail
   go_meet
   exact⟨false,rfl,Xj ⟨HM5.o,HR5.o,HL5.o,HT6.o,λ e=>nomatch e⟩⟩
  case rest =>
  rename World=>w6b
  obtain⟨b34,rfl,H6⟩:=hcut
  clear HM5 HR5 HL5 HT6
  go_upto_if 34 with fail
  go_cut [] from 35 to 39 (λ wx=>∃ (wr:Int),Xq (RS (K.mk' wr) w wx at5 bad5 r5/\Lg wx gR [] 0/\Lg wx gs nm 0/\Lt wx gt ⟨yk,yn,yv,yt⟩/\(bad5=false->wr=Vk yv yn K.wr)))
  case first =>
   cases b34
   ·go_wp2_with fail
    go_meet
    exact⟨K.wr,Xj ⟨H6.o.1,H6.o.2.1,H6.o.2.2.1,H6.o.2.2.2.1,λ e=>by rw[H6.o.2.2.2.2 e];rfl⟩⟩
   obtain⟨t0,t1,t2,t3⟩:=H6.o.2.2.2.1.cells
   (try dsimp only at t0 t1 t2 t3)
   have hlT:=H6.o.2.2.2.1.lt
   obtain⟨p3,f3⟩:=H6.o.1.pat.wrc
   have hlg:=H6.o.1.pat.glt
   have HNT:Xq (gR≠K.g/\gs≠K.g/\gt≠K.g):=Xj ⟨by omega,by have:=HNE.o;omega,by have:=HN5.o;omega⟩
   have HW:Xq (RS (K.mk' yn) w (w6b.setCell ⟨K.g,3,none⟩ (.int .i64 yn)) at5 bad5 r5/\Lg (w6b.setCell ⟨K.g,3,none⟩ (.int .i64 yn)) gR [] 0/\Lg (w6b.setCell ⟨K.g,3,none⟩ (.int .i64 yn)) gs nm 0/\Lt (w6b.setCell ⟨K.g,3,none⟩ (.int .i64 yn)) gt ⟨yk,yn,yv,yt⟩):=Xj ⟨H6.o.1.wr yn,H6.o.2.1.s1 (p:=⟨K.g,3,none⟩) HNT.o.1,H6.o.2.2.1.s1 (p:=⟨K.g,3,none⟩) HNT.o.2.1,H6.o.2.2.2.1.s1 (p:=⟨K.g,3,none⟩) (v:=.int .i64 yn) HNT.o.2.2⟩
   go_wp2_with fail
   go_meet
   exact⟨yn,Xj ⟨HW.o.1,HW.o.2.1,HW.o.2.2.1,HW.o.2.2.2,λ e=>by rw[H6.o.2.2.2.2 e];rfl⟩⟩
  case rest =>
  rename World=>w7
  obtain⟨wr,H7⟩:=hcut
  obtain⟨t0,t1,t2,t3⟩:=H7.o.2.2.2.1.cells
  (try dsimp only at t0 t1 t2 t3)
  have hlT:=H7.o.2.2.2.1.lt
  obtain⟨l0,l1⟩:=H7.o.2.2.1.cells
  obtain⟨k0,k1⟩:=H7.o.2.2.1.froz
  have hlL:=H7.o.2.2.1.lt
  have HM8:=Xj (H7.o.1.sc (p:=⟨gs,1,none⟩) (by show _<=gs;have:=HNE.o;omega) (.int .i64 yv))
  have HR8:=Xj (H7.o.2.1.s1 (p:=⟨gs,1,none⟩) (v:=.int .i64 yv) (by show gR≠gs;have:=HNE.o;omega))
  have HL8:=Xj (H7.o.2.2.1.ss yv)
  go_upto_region 7 with fail
  obtain⟨w8,hw8⟩:∃ W,w7.setCell ⟨gs,1,none⟩ (.int .i64 yv)=W:=⟨_,rfl⟩
  (try rw[hw8])
  rw[hw8] at HM8 HR8 HL8
  clear hw8 t0 t1 t2 t3 hlT l0 l1 k0 k1 hlL
  go_wp2_with fail
  refine(Qu (K.mk' wr) at5 bad5 r5 [93] _ HM8.o.pat).mono ?_
  rintro e w9 ⟨at6,bad6,r6,rfl,hp6,hg6,hE6⟩
  have hgl:=HM8.o.gl
  go_wp2_with fail
  go_meet
  refine⟨yv,wr,at6,bad6,r6,Xj ⟨HM8.o.call hp6 hg6,HR8.o.grw hg6 (by intro e;injection e with e;have e2:K.g=gR:=e;omega),HL8.o.grw hg6 (by have:=HNE.o;intro e;injection e with e;have e2:K.g=gs:=e;omega),?_,?_⟩⟩
  ·have h1:=hE6.o.1
   have h2:=HK5.o.1
   have h3:=HF4.o.2.2.2.2
   have h4:=HRT.o
   rw[h3] at h2
   simp only[List.length_tail] at *
   omega
  obtain⟨f1,f2,f3,f4,f5⟩:=HF4.o
  rcases HK5.o.2 with⟨_,k2,k3,k4,k5,k6,k7⟩|⟨k1,k2,k3,k4⟩
  ·rw[f5] at k3 k5 k6 k7
   rcases hE6.o.2 with⟨_,c2,c3,c4⟩|⟨c1,c2,_,c4⟩
   ·rw[k7] at c3 c4
    exact .inl ⟨c2,f2,f3,.inr ⟨f4,k3,c3,k5,by rw[H7.o.2.2.2.2 k2,k5,k6],c4⟩⟩
   have c3:=c2 k2
   rw[k7] at c3 c4
   exact .inr ⟨c1,by unfold glP;rw[if_pos f2,if_pos f4,if_pos k3,if_neg (by rw[c3];simp),c4]⟩
  have k5:=k2 f1
  rw[f5] at k5 k4
  rcases hE6.o.2 with⟨c1,_⟩|⟨c1,_,_,c4⟩
  ·rw[k1] at c1;cases c1
  exact .inr ⟨c1,by unfold glP;rw[if_pos f2,if_pos f4,if_neg k5,c4,k4]⟩
 case rest =>
 rename World=>wq
 obtain⟨sz,wr,at3,bad3,r3,HC⟩:=hcut
 go_wp2_with fail
 refine(Qu (K.mk' wr) at3 bad3 r3 [59] _ HC.o.1.pat).mono ?_
 rintro e w9 ⟨at6,bad6,r6,rfl,hp6,hg6,hE6⟩
 have hgl:=HC.o.1.gl
 have HM9:=Xj (HC.o.1.call hp6 hg6)
 have HR9:=Xj (HC.o.2.1.grw hg6 (by intro e;injection e with e;have e2:K.g=gR:=e;omega))
 have HL9:=Xj (HC.o.2.2.1.grw hg6 (by have:=HNE.o;intro e;injection e with e;have e2:K.g=gs:=e;omega))
 have HE6:=Xj hE6.o
 clear hp6 hg6 hE6
 have hjy:Xq ((bad6=false/\glP K.wr rest=.ok nm sz wr r6/\r6.length<rest.length)\/(bad6=true/\glP K.wr rest=.bad r6)):=Xj (by
  have hrt:=HRT.o
  rcases HC.o.2.2.2.2 with⟨b1,b2,b3,b4⟩|⟨b1,b2⟩
  ·rcases b4 with⟨d1,d2,d3,d4⟩|⟨d1,d2,d3,d4,d5,d6⟩
   ·rcases HE6.o.2 with⟨_,c2,c3,c4⟩|⟨c1,c2,_,c4⟩
    ·rw[d4] at c3 c4
     exact .inl ⟨c2,by unfold glP;rw[if_pos b2,if_neg (by rw[d1];simp),if_pos c3,b3,c4,d2,d3],by rw[c4];simp only[List.length_tail] at *;omega⟩
    have c3:=c2 b1
    rw[d4] at c3 c4
    exact .inr ⟨c1,by unfold glP;rw[if_pos b2,if_neg (by rw[d1];simp),if_neg (by rw[c3];simp),c4]⟩
   rcases HE6.o.2 with⟨_,c2,c3,c4⟩|⟨c1,c2,_,c4⟩
   ·rw[d6] at c3 c4
    exact .inl ⟨c2,by unfold glP;rw[if_pos b2,if_pos d1,if_pos d2,if_pos d3,if_pos c3,b3,c4,d4,d5],by rw[c4];simp only[List.length_tail] at *;omega⟩
   have c3:=c2 b1
   rw[d6] at c3 c4
   exact .inr ⟨c1,by unfold glP;rw[if_pos b2,if_pos d1,if_pos d2,if_pos d3,if_neg (by rw[c3];simp),c4]⟩
  rcases HE6.o.2 with⟨c1,_⟩|⟨c1,_,_,c4⟩
  ·rw[b1] at c1;cases c1
  exact .inr ⟨c1,by rw[b2,c4]⟩)
 have hle:r6.length<=rest.length:=by have:=HE6.o.1;have:=HC.o.2.2.2.1;omega
 have hZ:=If (K:=K) (rest:=rest) (wr:=wr) HM9.o HR9.o hcp hle nm sz hjy.o
 obtain⟨y0,y1⟩:=HR9.o.cells
 obtain⟨g0,g1⟩:=HR9.o.froz
 have hlR:=HR9.o.lt
 obtain⟨l0,l1⟩:=HL9.o.cells
 have hlL:=HL9.o.lt
 clear hle
 go_wp2_with fail
 obtain⟨wz,hwz⟩:∃ W,(w9.setCell ⟨gR,0,none⟩ (.string (st nm))).setCell ⟨gR,1,none⟩ (.int .i64 sz)=W:=⟨_,rfl⟩
 (try rw[hwz])
 obtain⟨hd,hep⟩:=hZ wz hwz.symm
 obtain⟨d0,d1⟩:=hd.cells
 clear hZ
 refine bodyPost_ret (v:=glv nm sz) (by simp[results,Tryz.results103,go_sem,d0,d1]) rfl ?_
 exact hep
section
def Lf (wx:World) (b:Nat) (nm:Bt) (ln:Int) (vp vb:Value):Prop:=wx.heap[b]?=some (.cells #[.string (st nm),.int .i64 ln,vp,vb] 63 (0,0))
section
variable {wx wy:World} {b:Nat} {nm:Bt} {ln:Int} {vp vb:Value}
theorem Lf.lt (h:Lf wx b nm ln vp vb):b<wx.heap.size:=Xv h
theorem Lf.al (h:Lf wx b nm ln vp vb) (o:Obj):Lf (wx.alloc o) b nm ln vp vb:=(Below.heap_alloc wx o b h.lt).trans h
theorem Lf.be (h:Lf wx b nm ln vp vb) (hb:Below wx.heap.size wx wy):Lf wy b nm ln vp vb:=(hb.block b h.lt).trans h
theorem Lf.grw {row:Option Nat} (h:Lf wx b nm ln vp vb) (hg:wx.grownBy wy row) (hn:row≠some b):Lf wy b nm ln vp vb:=(hg.block b h.lt (λ e=>hn e.symm)).trans h
theorem Lf.s1 (h:Lf wx b nm ln vp vb) {p:Addr} {v:Value} (hn:b≠p.block):Lf (wx.setCell p v) b nm ln vp vb:=(heap_setCell_other wx p b v hn).trans h
theorem Lf.sn (h:Lf wx b nm ln vp vb) (n2:Bt):Lf (wx.setCell ⟨b,0,none⟩ (.string (st n2))) b n2 ln vp vb:=heap_setCell_same wx b 0 _ _ _ h
theorem Lf.sp (h:Lf wx b nm ln vp vb) (v:Value):Lf (wx.setCell ⟨b,2,none⟩ v) b nm ln v vb:=heap_setCell_same wx b 2 _ _ _ h
theorem Lf.sb (h:Lf wx b nm ln vp vb) (v:Value):Lf (wx.setCell ⟨b,3,none⟩ v) b nm ln vp v:=heap_setCell_same wx b 3 _ _ _ h
theorem Lf.s4 (h:Lf wx b nm ln vp vb) (n2:Bt) (l2:Int) (p2 b2:Value):Lf (set4 wx b (.string (st n2)) (.int .i64 l2) p2 b2) b n2 l2 p2 b2:=Yd h
theorem Lf.cells (h:Lf wx b nm ln vp vb):wx.cell? ⟨b,0,none⟩=some (.string (st nm))/\wx.cell? ⟨b,1,none⟩=some (.int .i64 ln)/\wx.cell? ⟨b,2,none⟩=some vp/\wx.cell? ⟨b,3,none⟩=some vb :=
 ⟨cell_of_row _ b 0 _ _ _ h,cell_of_row _ b 1 _ _ _ h,cell_of_row _ b 2 _ _ _ h,cell_of_row _ b 3 _ _ _ h⟩
theorem Lf.froz (h:Lf wx b nm ln vp vb):wx.frozen? ⟨b,0,none⟩=false/\wx.frozen? ⟨b,1,none⟩=false/\wx.frozen? ⟨b,2,none⟩=false/\wx.frozen? ⟨b,3,none⟩=false :=
 ⟨frozen_of_row _ b 0 _ _ h,frozen_of_row _ b 1 _ _ h,frozen_of_row _ b 2 _ _ h,frozen_of_row _ b 3 _ _ h⟩
end
abbrev zfn:Obj:=.cells #[.string { data := #[] },.int .i64 0,.slice none 0 0,.slice none 0 0] 63
theorem Lf.zero (w:World):Lf (w.alloc zfn) w.heap.size [] 0 Xs Xs:=heap_alloc_new w _
abbrev fnv (nm:Bt) (ln:Int) (vp vb:Value):Value:=.agg #[.string (st nm),.int .i64 ln,vp,vb]
def Ux (w:World) (P:Nat->Prop) (ps:List Bt) (v:Value):Prop:=∃ a c,v=.slice a ps.length c/\ps.length<=c/\c<=maxLen/\Vt w P a (ps.map λ x=>Value.string (st x))
theorem Ux.keep {w w':World} {P Q:Nat->Prop} {ps:List Bt} {v:Value} (h:Ux w P ps v) (hk:∀ b,P b->b<w.heap.size->w'.heap[b]?=w.heap[b]?/\Q b) (hs:w.heap.size<=w'.heap.size):Ux w' Q ps v:=by
 obtain⟨a,c,e,h1,h2,h3⟩:=h
 exact⟨a,c,e,h1,h2,h3.keep hk hs⟩
def FuQ (K:PC) (rest:List Tk) (w:World) (e:Ending) (w':World):Prop :=
 ∃ (nm:Bt) (pa:Option Addr) (pn pc:Nat) (ba:Option Addr) (bn bc:Nat) (ok:Bool) (at2:Nat) (r:List Tk),e=.returned (.tuple #[fnv nm 0 (.slice pa pn pc) (.slice ba bn bc),.bool ok])/\PAt w' K at2 r/\r.length<=rest.length/\w.grownBy w' (some K.g) /\
  Xq ((ok=true/\∃ ps S,Fs rest (.ok nm ps S r)/\Ux w' (λ b=>w.heap.size<=b) ps (.slice pa pn pc)/\Xl w' (λ b=>w.heap.size<=b) S (.slice ba bn bc)/\r.length<rest.length)\/(ok=false/\Fs rest (.bad r)))
structure FD (K:PC) (w:World) (gR gf:Nat) (nm:Bt) (vp:Value) (nn:Nat) (xs:List Value) (at2:Nat) (r:List Tk) (wx:World):Prop where
 ms:MS K w wx at2 r
 rc:Lf wx gR [] 0 Xs Xs
 fc:Lf wx gf nm 0 vp Xs
 own:wx.ownsRow w.heap.size 9 1 vp nn xs
 ne:w.heap.size<=gR/\gR<gf/\vp.ownBlock≠some gR/\vp.ownBlock≠some gf
section
variable {K:PC} {w wx wy:World} {gR gf:Nat} {nm:Bt} {vp:Value} {nn:Nat} {xs:List Value} {at2 at3:Nat} {r r3:List Tk}
theorem FD.gr (d:FD K w gR gf nm vp nn xs at2 r wx) (hp:PAt wy K at3 r3) (hg:wx.grownBy wy (some K.g)):FD K w gR gf nm vp nn xs at3 r3 wy:=by
 have hl:=d.ms.gl
 obtain⟨n1,n2,n3,n4⟩:=d.ne
 exact⟨d.ms.call hp hg,d.rc.grw hg (by intro e;injection e with e;omega),d.fc.grw hg (by intro e;injection e with e;omega),Yz d.own hg hl,d.ne⟩
theorem FD.sn (d:FD K w gR gf nm vp nn xs at2 r wx) (m2:Bt):FD K w gR gf m2 vp nn xs at2 r (wx.setCell ⟨gf,0,none⟩ (.string (st m2))):=by
 obtain⟨n1,n2,n3,n4⟩:=d.ne
 exact⟨d.ms.sc (p:=⟨gf,0,none⟩) (by show _<=gf;omega) _,d.rc.s1 (p:=⟨gf,0,none⟩) (by show gR≠gf;omega),d.fc.sn m2,d.own.kept (Xp wx gf 0 _) (.inr n4),d.ne⟩
theorem FD.push (d:FD K w gR gf nm vp nn xs at2 r wx) {ob:Obj} {g9 c9:Nat} {w9:World} {ys:List Value} (hg9:(wx.alloc ob).grownBy w9 vp.ownBlock) (h9:vp.ownBlock=some g9\/g9=(wx.alloc ob).heap.size) (ho:w9.ownsRow w.heap.size 9 1 (.slice (some ⟨g9,0,none⟩) (nn+1) c9) (nn+1) ys) :
  FD K w gR gf nm (.slice (some ⟨g9,0,none⟩) (nn+1) c9) (nn+1) ys at2 r (w9.setCell ⟨gf,2,none⟩ (.slice (some ⟨g9,0,none⟩) (nn+1) c9))/\Lf w9 gf nm 0 vp Xs:=by
 obtain⟨n1,n2,n3,n4⟩:=d.ne
 have l1:=d.rc.lt
 have l2:=d.fc.lt
 have hsA:(wx.alloc ob).heap.size=wx.heap.size+1:=by simp
 have q1:g9≠gR:=by rcases h9 with e|e;(intro e2;rw[e,e2] at n3;exact n3 rfl);omega
 have q2:g9≠gf:=by rcases h9 with e|e;(intro e2;rw[e,e2] at n4;exact n4 rfl);omega
 have f9:=(d.fc.al ob).grw hg9 n4
 refine⟨⟨((d.ms.al ob).own hg9 (λ k2 e=>(d.own.lt k2 e).1)).sc (p:=⟨gf,2,none⟩) (by show _<=gf;omega) _,((d.rc.al ob).grw hg9 n3).s1 (p:=⟨gf,2,none⟩) (by show gR≠gf;omega),f9.sp _,ho.kept (Xp w9 gf 2 _) (.inr (by show some g9≠some gf;simp;exact q2)),n1,n2,?_,?_⟩,f9⟩
 ·show some g9≠some gR;simp;exact q1
 show some g9≠some gf;simp;exact q2
theorem Gj {rest:List Tk} {n0:Bt} {l0:Int} {p0 b0:Value} (M:MS K w wx at2 r) (R:Lf wx gR n0 l0 p0 b0) (b1:w.heap.size<=gR) (hl:r.length<=rest.length) (nm:Bt) (pa:Option Addr) (pn pc:Nat) (ba:Option Addr) (bn bc:Nat) (ok:Bool)
  (hI:(ok=true/\∃ ps S,Fs rest (.ok nm ps S r)/\Ux wx (λ b=>w.heap.size<=b/\b≠gR) ps (.slice pa pn pc)/\Xl wx (λ b=>w.heap.size<=b/\b≠gR) S (.slice ba bn bc)/\r.length<rest.length)\/(ok=false/\Fs rest (.bad r))) (W:World) (hW:W=set4 wx gR (.string (st nm)) (.int .i64 0) (.slice pa pn pc) (.slice ba bn bc)) :
  Lf W gR nm 0 (.slice pa pn pc) (.slice ba bn bc)/\FuQ K rest w (.returned (.tuple #[fnv nm 0 (.slice pa pn pc) (.slice ba bn bc),.bool ok])) W:=by
 subst hW
 have h2:=(((M.sc (p:=⟨gR,0,none⟩) b1 (.string (st nm))).sc (p:=⟨gR,1,none⟩) b1 (.int .i64 0)).sc (p:=⟨gR,2,none⟩) b1 (.slice pa pn pc)).sc (p:=⟨gR,3,none⟩) b1 (.slice ba bn bc)
 have key:∀ b,b≠gR->(set4 wx gR (.string (st nm)) (.int .i64 0) (.slice pa pn pc) (.slice ba bn bc)).heap[b]?=wx.heap[b]?:=λ b hb=>by
  rw[heap_setCell_other _ _ b _ hb,heap_setCell_other _ _ b _ hb,heap_setCell_other _ _ b _ hb,heap_setCell_other _ _ b _ hb]
 have hsz:wx.heap.size<=(set4 wx gR (.string (st nm)) (.int .i64 0) (.slice pa pn pc) (.slice ba bn bc)).heap.size:=by simp[World.setCell]
 refine⟨R.s4 _ _ _ _,nm,pa,pn,pc,ba,bn,bc,ok,at2,r,rfl,h2.pat,hl,h2.gr,Xj ?_⟩
 rcases hI with⟨e1,ps,S,e2,e3,e4,e5⟩|e
 ·exact .inl ⟨e1,ps,S,e2,e3.keep (λ b hb _=>⟨key b hb.2,hb.1⟩) hsz,e4.keep (λ b hb _=>⟨key b hb.2,hb.1⟩) hsz,e5⟩
 exact .inr e
end
theorem Dy (K:PC) (at_:Nat) (rest:List Tk) (w:World) (hP:PAt w K at_ rest):Calls Tryz.prog 101 #[.pointer (some ⟨K.g,0,none⟩)] w (FuQ K rest w):=by
 have HSZ:Xq ((w.alloc zfn).heap.size=w.heap.size+1):=Xj (by simp)
 have HD1:Xq (FD K w w.heap.size (w.alloc zfn).heap.size [] Xs 0 [] at_ rest ((w.alloc zfn).alloc zfn)):=Xj ⟨((MS.init hP).al zfn).al zfn,(Lf.zero w).al zfn,Lf.zero (w.alloc zfn),World.ownsRow_nil _ _ _ _,Nat.le_refl _,by simp,(λ e=>nomatch e),(λ e=>nomatch e)⟩
 have HRT:Xq (rest.tail.length<rest.length):=Xj (by obtain⟨x,r,e⟩:=hP.en.cons;rw[e];simp)
 clear hP
 go_enter Tryz.func101,Tryz.ntmps101
 go_upto_region 3 with fail
 rw[HSZ.o] at HD1
 obtain⟨w1,hw1⟩:∃ W,(w.alloc zfn).alloc zfn=W:=⟨_,rfl⟩
 obtain⟨gR,hgR⟩:∃ x,w.heap.size=x:=⟨_,rfl⟩
 (try rw[show (w.alloc (.cells #[.string { data := #[] },.int .i64 0,.slice none 0 0,.slice none 0 0] 63)).alloc (.cells #[.string { data := #[] },.int .i64 0,.slice none 0 0,.slice none 0 0] 63)=w1 from hw1])
 rw[hw1,hgR] at HD1
 (try rw[hgR])
 obtain⟨gf,hgf⟩:∃ x,gR+1=x:=⟨_,rfl⟩
 rw[hgf] at HD1
 (try rw[hgf])
 clear hw1 hgR hgf HSZ
 go_wp2_with fail
 refine(Us K at_ rest w1 HD1.o.ms.pat).mono ?_
 rintro e w2 ⟨at2,r2,hp2,hg2,hc2⟩
 have HD2:=Xj (HD1.o.gr hp2 hg2)
 clear hp2 hg2 HD1
 obtain⟨nm,hnm⟩:∃ x,tOf rest=x:=⟨_,rfl⟩
 have HNM:=Xj hnm
 (try rw[hnm] at hc2)
 clear hnm
 rcases hc2 with⟨hk1,rfl,ha2,hr2⟩|⟨hk1,rfl,ha2,hr2⟩<;>subst at2 r2
 rotate_left
 ·have HK1:=Xj hk1
  clear hk1
  obtain⟨s0,s1,s2,s3⟩:=HD2.o.fc.cells
  obtain⟨j0,j1,j2,j3⟩:=HD2.o.fc.froz
  have hlS:=HD2.o.fc.lt
  have HD3:=Xj (HD2.o.sn [])
  go_upto_region 4 with fail
  obtain⟨w3,hw3⟩:∃ W,w2.setCell ⟨gf,0,none⟩ (.string (st []))=W:=⟨_,rfl⟩
  (try rw[hw3])
  (try rw[show w2.setCell ⟨gf,0,none⟩ (.string { data := #[] })=w3 from hw3])
  rw[hw3] at HD3
  clear hw3 s0 s1 s2 s3 j0 j1 j2 j3 hlS HD2
  obtain⟨y0,y1,y2,y3⟩:=HD3.o.rc.cells
  obtain⟨g0,g1,g2,g3⟩:=HD3.o.rc.froz
  have hlR:=HD3.o.rc.lt
  obtain⟨s0,s1,s2,s3⟩:=HD3.o.fc.cells
  have hlS:=HD3.o.fc.lt
  go_wp2_with fail
  have hZ:=Gj (rest:=rest) HD3.o.ms HD3.o.rc HD3.o.ne.1 (Nat.le_refl _) [] none 0 0 none 0 0 false (.inr ⟨rfl,Fs.name HK1.o⟩)
  obtain⟨wz,hwz⟩:∃ W,set4 w3 gR (.string (st [])) (.int .i64 0) (.slice none 0 0) (.slice none 0 0)=W:=⟨_,rfl⟩
  have hY:=hwz
  unfold set4 at hY
  (try rw[hY])
  obtain⟨hd,hep⟩:=hZ wz hwz.symm
  obtain⟨d0,d1,d2,d3⟩:=hd.cells
  clear hZ
  refine bodyPost_ret (v:=.tuple #[fnv [] 0 (.slice none 0 0) (.slice none 0 0),.bool false]) (by simp[results,Tryz.results101,go_sem,d0,d1,d2,d3]) rfl ?_
  exact hep
 have HK1:=Xj hk1
 clear hk1
 obtain⟨s0,s1,s2,s3⟩:=HD2.o.fc.cells
 obtain⟨j0,j1,j2,j3⟩:=HD2.o.fc.froz
 have hlS:=HD2.o.fc.lt
 have HD3:=Xj (HD2.o.sn nm)
 go_upto_region 4 with fail
 obtain⟨w3,hw3⟩:∃ W,w2.setCell ⟨gf,0,none⟩ (.string (st nm))=W:=⟨_,rfl⟩
 (try rw[hw3])
 rw[hw3] at HD3
 clear hw3 s0 s1 s2 s3 j0 j1 j2 j3 hlS HD2
 go_wp2_with fail
 refine(Yj K (at_+1) rest.tail [40] w3 HD3.o.ms.pat).mono ?_
 rintro e w4 ⟨at5,r5,rfl,hp5,hg5,hc5⟩
 have HD4:=Xj (HD3.o.gr hp5 hg5)
 clear hp5 hg5 HD3
 rcases hc5 with⟨hT,ha5,hr5⟩|⟨hT,ha5,hr5⟩<;>subst at5 r5
 rotate_left
 ·have HP:=Xj hT
  (try rw[hT])
  clear hT
  obtain⟨y0,y1,y2,y3⟩:=HD4.o.rc.cells
  obtain⟨g0,g1,g2,g3⟩:=HD4.o.rc.froz
  have hlR:=HD4.o.rc.lt
  obtain⟨s0,s1,s2,s3⟩:=HD4.o.fc.cells
  have hlS:=HD4.o.fc.lt
  go_wp2_with fail
  have hZ:=Gj (rest:=rest) HD4.o.ms HD4.o.rc HD4.o.ne.1 (by have:=HRT.o;simp only[List.length_tail] at *;omega) nm none 0 0 none 0 0 false (.inr ⟨rfl,Fs.par HK1.o HP.o⟩)
  obtain⟨wz,hwz⟩:∃ W,set4 w4 gR (.string (st nm)) (.int .i64 0) (.slice none 0 0) (.slice none 0 0)=W:=⟨_,rfl⟩
  have hY:=hwz
  unfold set4 at hY
  (try rw[hY])
  obtain⟨hd,hep⟩:=hZ wz hwz.symm
  obtain⟨d0,d1,d2,d3⟩:=hd.cells
  clear hZ
  refine bodyPost_ret (v:=.tuple #[fnv nm 0 (.slice none 0 0) (.slice none 0 0),.bool false]) (by simp[results,Tryz.results101,go_sem,d0,d1,d2,d3]) rfl ?_
  exact hep
 have HP:=Xj hT
 (try rw[hT])
 clear hT
 have HLP:Xq (rest.tail.tail.length<rest.length):=Xj (by have:=HRT.o;simp only[List.length_tail] at *;omega)
 go_upto_block 0 with fail
 go_wp2_with fail
 go_loopw [6,7] (λ _ _ wr=>∃ (ps:List Bt) (a:Option Addr) (n c:Nat) (xs:List Value) (at3:Nat) (r3:List Tk),Xq (FD K w gR gf nm (.slice a n c) n xs at3 r3 wr/\xs=ps.map (λ x=>Value.string (st x))/\n=ps.length/\n<=at3/\r3.length<rest.length/\(∀ y,Pr ps r3 y->Pr [] rest.tail.tail y))) (λ _ _ wr=>K.ts.length-natAt wr K.g)
 case atStart=>exact⟨[],none,0,0,[],at_+1+1,rest.tail.tail,Xj ⟨HD4.o,rfl,rfl,by omega,HLP.o,λ y h=>h⟩⟩
 rename World=>wa
 obtain⟨ps,a,n,c,xs,at3,r3,HI⟩:=hrel
 go_wp2_with fail
 refine(Yj K at3 r3 [41] wa HI.o.1.ms.pat).mono ?_
 rintro e w5 ⟨at5,r5,rfl,hp5,hg5,hc5⟩
 have HD5:=Xj (HI.o.1.gr hp5 hg5)
 clear hp5 hg5
 rcases hc5 with⟨hT,ha5,hr5⟩|⟨hT,ha5,hr5⟩<;>subst at5 r5
 ·have HC:=Xj hT
  (try rw[hT])
  clear hT
  have HL5:Xq (r3.tail.length<rest.length):=Xj (by have:=HI.o.2.2.2.2.1;simp only[List.length_tail];omega)
  go_wp2_with fail
  refine(Aj K (at3+1) r3.tail w5 HD5.o.ms.pat).mono ?_
  rintro e w6 ⟨ba,bn,bc,ok,at6,r6,rfl,hp6,hxh,hg6,hqq⟩
  have HD6:=Xj (HD5.o.gr hp6 hg6)
  have HL6:Xq (r6.length<rest.length):=Xj (by have:=HL5.o;omega)
  have HR6:Xq ((ok=true/\∃ S,Qs .bl r3.tail (.ok S r6)/\Xl w6 (λ b=>w.heap.size<=b/\b≠gR/\b≠gf) S (.slice ba bn bc))\/(ok=false/\Qs .bl r3.tail (.bad r6))):=Xj (by
   rcases hqq.o with⟨e1,S,e2,e3⟩|hr
   ·exact .inl ⟨e1,S,e2,Zj e3 (λ b hb _=>by have:=HD5.o.ms.gr.size;have:=HD5.o.rc.lt;have:=HD5.o.fc.lt;exact⟨by omega,by omega,by omega⟩)⟩
   exact .inr hr)
  clear hp6 hxh hg6 hqq HD5
  obtain⟨s0,s1,s2,s3⟩:=HD6.o.fc.cells
  obtain⟨j0,j1,j2,j3⟩:=HD6.o.fc.froz
  have hlS:=HD6.o.fc.lt
  have HM7:=Xj (HD6.o.ms.sc (p:=⟨gf,3,none⟩) (by have:=HD6.o.ne;show w.heap.size<=gf;omega) (.slice ba bn bc))
  have HR7:=Xj (HD6.o.rc.s1 (p:=⟨gf,3,none⟩) (v:=.slice ba bn bc) (by have:=HD6.o.ne;show gR≠gf;omega))
  have HF7:=Xj (HD6.o.fc.sb (.slice ba bn bc))
  have HO7:=Xj (HD6.o.own.kept (Xp w6 gf 3 (.slice ba bn bc)) (.inr HD6.o.ne.2.2.2))
  have HNE:=Xj HD6.o.ne
  have HS7:Xq ((ok=true/\∃ S,Qs .bl r3.tail (.ok S r6)/\Xl (w6.setCell ⟨gf,3,none⟩ (.slice ba bn bc)) (λ b=>w.heap.size<=b/\b≠gR) S (.slice ba bn bc))\/(ok=false/\Qs .bl r3.tail (.bad r6))):=Xj (by
   rcases HR6.o with⟨e1,S,e2,e3⟩|hr
   ·exact .inl ⟨e1,S,e2,Zj (Wh (p:=⟨gf,3,none⟩) (v:=.slice ba bn bc) e3 (λ b hb=>hb.2.2)) (λ b hb _=>⟨hb.1,hb.2.1⟩)⟩
   exact .inr hr)
  go_upto_region 14 with fail
  obtain⟨w7,hw7⟩:∃ W,w6.setCell ⟨gf,3,none⟩ (.slice ba bn bc)=W:=⟨_,rfl⟩
  (try rw[hw7])
  rw[hw7] at HM7 HR7 HF7 HO7 HS7
  clear hw7 s0 s1 s2 s3 j0 j1 j2 j3 hlS HD6 HR6
  have HPS:Xq (Ux w7 (λ b=>w.heap.size<=b/\b≠gR) ps (.slice a n c)):=Xj (by
   obtain⟨a',c',e,h1,h2,h3,h4,h5⟩:=Yf.of_own HO7.o
   injection e with e1 _ e3
   subst e1 e3
   refine⟨a,c,by rw[HI.o.2.2.1],by rw[<- HI.o.2.2.1];exact h2,h3,λ hx=>?_⟩
   rw[<- HI.o.2.1] at hx ⊢
   obtain⟨b,off,e,hb,hc⟩:=h4 hx
   exact⟨b,off,e,⟨h5 _ e,λ e2=>HNE.o.2.2.1 (by rw[e,<- e2];rfl)⟩,hb,hc⟩)
  obtain⟨y0,y1,y2,y3⟩:=HR7.o.cells
  obtain⟨g0,g1,g2,g3⟩:=HR7.o.froz
  have hlR:=HR7.o.lt
  obtain⟨s0,s1,s2,s3⟩:=HF7.o.cells
  have hlS:=HF7.o.lt
  go_wp2_with fail
  have hZ:=Gj (rest:=rest) HM7.o HR7.o HNE.o.1 (Nat.le_of_lt HL6.o) nm a n c ba bn bc ok (by
   have hpr:=HI.o.2.2.2.2.2 _ (Pr.fin HC.o)
   rcases HS7.o with⟨e1,S,e2,e3⟩|⟨e1,e2⟩
   ·have hok:=Fs.ok (ts:=rest) HK1.o HP.o hpr e2
    rw[HNM.o] at hok
    exact .inl ⟨e1,ps,S,hok,HPS.o,e3,HL6.o⟩
   exact .inr ⟨e1,Fs.bbad HK1.o HP.o hpr e2⟩)
  obtain⟨wz,hwz⟩:∃ W,set4 w7 gR (.string (st nm)) (.int .i64 0) (.slice a n c) (.slice ba bn bc)=W:=⟨_,rfl⟩
  have hY:=hwz
  unfold set4 at hY
  (try rw[hY])
  obtain⟨hd,hep⟩:=hZ wz hwz.symm
  obtain⟨d0,d1,d2,d3⟩:=hd.cells
  clear hZ
  refine bodyPost_ret (v:=.tuple #[fnv nm 0 (.slice a n c) (.slice ba bn bc),.bool ok]) (by simp[results,Tryz.results101,go_sem,d0,d1,d2,d3]) rfl ?_
  exact hep
 have HC:=Xj hT
 (try rw[hT])
 clear hT
 have HUP:Xq ((uP ps r3).length<=r3.length):=Xj (by unfold uP;split<;>simp)
 go_upto_region 7 with fail
 go_cut [33] from 25 to 33 (λ v33 wx=>∃ (b:Bool) (at6:Nat) (r6:List Tk),v33=.bool b/\Xq (FD K w gR gf nm (.slice a n c) n xs at6 r6 wx/\((b=true/\ps≠[]/\isT [44] r3=false/\r6=r3)\/(b=false/\(ps≠[]->isT [44] r3=true)/\r6=uP ps r3/\at3<=at6))))
 case first =>
  obtain⟨s0,s1,s2,s3⟩:=HD5.o.fc.cells
  have hlS:=HD5.o.fc.lt
  by_cases hn0:n=0
  ·have hps:ps=[]:=List.eq_nil_of_length_eq_zero (by rw[<- HI.o.2.2.1];exact hn0)
   have HPS:=Xj hps
   subst hn0
   clear hps
   go_wp2_with fail
   go_meet
   exact⟨false,at3,r3,rfl,Xj ⟨HD5.o,.inr ⟨rfl,λ h=>absurd HPS.o h,by unfold uP;rw[if_pos HPS.o],Nat.le_refl _⟩⟩⟩
  have hps:ps≠[]:=λ e=>hn0 (by rw[HI.o.2.2.1,e];rfl)
  have HPS:=Xj hps
  have hn1:(0:Int)<(n:Int):=by omega
  have dn:decide ((0:Int)<(n:Int))=true:=decide_eq_true hn1
  have dn2:decide (0<n)=true:=decide_eq_true (by omega)
  clear hps
  go_wp2_with fail
  refine(Yj K at3 r3 [44] w5 HD5.o.ms.pat).mono ?_
  rintro e w6 ⟨at7,r7,rfl,hp7,hg7,hc7⟩
  have HD6:=Xj (HD5.o.gr hp7 hg7)
  clear hp7 hg7
  rcases hc7 with⟨hT,ha7,hr7⟩|⟨hT,ha7,hr7⟩<;>subst at7 r7
  ·have HT:=Xj hT
   (try rw[hT])
   clear hT
   go_wp2_with fail
   go_meet
   exact⟨false,_,_,rfl,Xj ⟨HD6.o,.inr ⟨rfl,λ _=>HT.o,by unfold uP;rw[if_neg HPS.o],by omega⟩⟩⟩
  have HT:=Xj hT
  (try rw[hT])
  clear hT
  go_wp2_with fail
  go_meet
  exact⟨true,_,_,rfl,Xj ⟨HD6.o,.inl ⟨rfl,HPS.o,HT.o,rfl⟩⟩⟩
 case rest =>
 rename World=>wq
 clear HD5
 obtain⟨b,at6,r6,rfl,HC6⟩:=hcut
 have HL6:Xq (r6.length<rest.length):=Xj (by
  have h1:=HI.o.2.2.2.2.1
  have h2:=HUP.o
  rcases HC6.o.2 with⟨_,_,_,e⟩|⟨_,_,e,_⟩
  ·rw[e];exact h1
  rw[e];omega)
 have HD6:Xq (FD K w gR gf nm (.slice a n c) n xs at6 r6 wq):=Xj HC6.o.1
 cases b
 rotate_left
 ·have HBD:Xq (Fs rest (.bad r6)):=Xj (by
   rcases HC6.o.2 with⟨_,e1,e2,e3⟩|⟨e1,_⟩
   ·rw[e3];exact Fs.pbad HK1.o HP.o (HI.o.2.2.2.2.2 _ (Pr.no HC.o e1 e2))
   cases e1)
  obtain⟨y0,y1,y2,y3⟩:=HD6.o.rc.cells
  obtain⟨g0,g1,g2,g3⟩:=HD6.o.rc.froz
  have hlR:=HD6.o.rc.lt
  obtain⟨s0,s1,s2,s3⟩:=HD6.o.fc.cells
  have hlS:=HD6.o.fc.lt
  go_wp2_with fail
  have hZ:=Gj (rest:=rest) HD6.o.ms HD6.o.rc HD6.o.ne.1 (Nat.le_of_lt HL6.o) nm a n c none 0 0 false (.inr ⟨rfl,HBD.o⟩)
  obtain⟨wz,hwz⟩:∃ W,set4 wq gR (.string (st nm)) (.int .i64 0) (.slice a n c) (.slice none 0 0)=W:=⟨_,rfl⟩
  have hY:=hwz
  unfold set4 at hY
  (try rw[hY])
  obtain⟨hd,hep⟩:=hZ wz hwz.symm
  obtain⟨d0,d1,d2,d3⟩:=hd.cells
  clear hZ
  refine bodyPost_ret (v:=.tuple #[fnv nm 0 (.slice a n c) (.slice none 0 0),.bool false]) (by simp[results,Tryz.results101,go_sem,d0,d1,d2,d3]) rfl ?_
  exact hep
 have HX6:Xq ((ps≠[]->isT [44] r3=true)/\r6=uP ps r3/\at3<=at6):=Xj (by
  rcases HC6.o.2 with⟨e1,_⟩|⟨_,h⟩
  ·cases e1
  exact h)
 clear HC6
 go_wp2_with fail
 refine(Us K at6 r6 wq HD6.o.ms.pat).mono ?_
 rintro e w7 ⟨at7,r7,hp7,hg7,hc7⟩
 have HD7:=Xj (HD6.o.gr hp7 hg7)
 clear hp7 hg7 HD6
 obtain⟨pn,hpn⟩:∃ x,tOf r6=x:=⟨_,rfl⟩
 have HPN:=Xj hpn
 (try rw[hpn] at hc7)
 clear hpn
 rcases hc7 with⟨hk7,rfl,ha7,hr7⟩|⟨hk7,rfl,ha7,hr7⟩<;>subst at7 r7
 rotate_left
 ·have HBD:Xq (Fs rest (.bad r6)):=Xj (Fs.pbad HK1.o HP.o (HI.o.2.2.2.2.2 _ (Pr.nm HC.o HX6.o.1 HX6.o.2.1 hk7)))
  clear hk7
  obtain⟨y0,y1,y2,y3⟩:=HD7.o.rc.cells
  obtain⟨g0,g1,g2,g3⟩:=HD7.o.rc.froz
  have hlR:=HD7.o.rc.lt
  obtain⟨s0,s1,s2,s3⟩:=HD7.o.fc.cells
  have hlS:=HD7.o.fc.lt
  go_wp2_with fail
  have hZ:=Gj (rest:=rest) HD7.o.ms HD7.o.rc HD7.o.ne.1 (Nat.le_of_lt HL6.o) nm a n c none 0 0 false (.inr ⟨rfl,HBD.o⟩)
  obtain⟨wz,hwz⟩:∃ W,set4 w7 gR (.string (st nm)) (.int .i64 0) (.slice a n c) (.slice none 0 0)=W:=⟨_,rfl⟩
  have hY:=hwz
  unfold set4 at hY
  (try rw[hY])
  obtain⟨hd,hep⟩:=hZ wz hwz.symm
  obtain⟨d0,d1,d2,d3⟩:=hd.cells
  clear hZ
  refine bodyPost_ret (v:=.tuple #[fnv nm 0 (.slice a n c) (.slice none 0 0),.bool false]) (by simp[results,Tryz.results101,go_sem,d0,d1,d2,d3]) rfl ?_
  exact hep
 have HK7:=Xj hk7
 clear hk7
 obtain⟨s0,s1,s2,s3⟩:=HD7.o.fc.cells
 obtain⟨j0,j1,j2,j3⟩:=HD7.o.fc.froz
 have hlS:=HD7.o.fc.lt
 have hqp:=HD7.o.ms.gr.size
 have hn3:n<=100000:=by have:=HI.o.2.2.2.1;have:=HI.o.1.ms.pat.lt;have:=HI.o.1.ms.pat.n;omega
 obtain⟨i0,hi0,hz0,hz1,hz2⟩:=info_parts Tryz.infoStr
 have HIF:=Xj hi0
 have HZ0:=Xj hz0
 have HZ1:=Xj hz1
 have HZ2:=Xj hz2
 clear hi0 hz0 hz1 hz2
 have HOA:=Xj (HD7.o.own.alloc (.cells #[.string (st pn)] 9))
 go_wp2_with (at_builtin;refine wpList_append_lies _ rfl _ _ _ rfl w.heap.size 9 i0 _ 1 16 Tryz.underlying42 HIF.o HZ0.o HZ1.o HZ2.o rfl (by omega) _ _ _ rfl HOA.o ⟨w7.heap.size,0,none⟩ 1 1 [.string (st pn)] rfl rfl (World.news_of_block (cs := #[.string (st pn)]) (t:=9) (fr:=(0,0)) (heap_alloc_new w7 _)) (by simp[Value.oneCell']) (by omega) (by unfold maxLen;omega) (by omega) (by simp;omega) _ rfl ?_;intro g9 c9 w9 hown9 hgrow9 Ho hlt9;have HO9:=Xj hown9;have HPU:=Xj (HD7.o.push hgrow9 Ho hown9);obtain⟨q0,q1,q2,q3⟩:=HPU.o.2.cells;obtain⟨k0,k1,k2,k3⟩:=HPU.o.2.froz;have hl9:=HPU.o.2.lt;clear hown9 hgrow9 Ho hlt9)
 go_roundw
 case rel=>exact⟨ps++[pn],some ⟨g9,0,none⟩,n+1,c9,xs++[.string (st pn)],at6+1,r6.tail,Xj ⟨HPU.o.1,by rw[HI.o.2.1];simp,by rw[HI.o.2.2.1];simp,by have:=HI.o.2.2.2.1;have:=HX6.o.2.2;omega,by have:=HL6.o;simp only[List.length_tail];omega,λ y hy=>HI.o.2.2.2.2.2 _ (Pr.more HC.o HX6.o.1 HX6.o.2.1 HK7.o (by rw[HPN.o];exact hy))⟩⟩
 have h1:=HPU.o.1.ms.pat.natAt
 have h2:=HI.o.1.ms.pat.natAt
 have h3:=HPU.o.1.ms.pat.lt
 have h4:=HX6.o.2.2
 rw[h1,h2]
 omega
end
end Go.Proofs.YtldgghnjminhiaaGreatDoor
