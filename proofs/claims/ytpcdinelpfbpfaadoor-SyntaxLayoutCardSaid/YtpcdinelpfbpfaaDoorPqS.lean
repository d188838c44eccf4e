/-
  WALK of the implementation's parser's stmt. (Filled in from a template of this repo, printed by mk_pqs.py.)
-/
import Derived.Test.YtpcdinelpfbpfaaDoorPqB
namespace Go.Proofs.YtpcdinelpfbpfaaDoor
open Go.ChangeShapes Go.WideShapes Go.ChangeAt Go.RowKit
set_option linter.unusedVariables false
set_option linter.unusedSimpArgs false

structure SD (K:PC) (w:World) (gR gs:Nat) (k ln:Int) (nm:Bt) (vx:Value) (nn:Nat) (xs:List Value) (at2:Nat) (r:List Tk) (wx:World):Prop where
 ms:MS K w wx at2 r
 rc:Ls wx gR 0 0 [] nilS nilS nilS
 sc:Ls wx gs k ln nm vx nilS nilS
 own:wx.ownsRow w.heap.size 40 6 vx nn xs
 ne:w.heap.size<=gR/\gR<gs/\vx.ownBlock≠some gR/\vx.ownBlock≠some gs
def FS (w:World) (gR gs:Nat) (vx:Value) (nn:Nat) (xs:List Value) (F:Fo) (wx:World):Prop:=FoAt wx (fun b=>w.heap.size<=b/\b≠gR/\b≠gs/\some b≠vx.ownBlock) F xs/\F.len=nn
section
variable {K:PC} {w wx wy:World} {gR gs:Nat} {k ln:Int} {nm:Bt} {vx:Value} {nn:Nat} {xs:List Value} {at2 at3:Nat} {r r3:List Tk} {F:Fo}
theorem SD.gr (d:SD K w gR gs k ln nm vx nn xs at2 r wx) (hp:PAt wy K at3 r3) (hg:wx.grownBy wy (some K.g)):SD K w gR gs k ln nm vx nn xs at3 r3 wy:=by
 have hl:=d.ms.gl
 obtain⟨n1,n2,n3,n4⟩:=d.ne
 exact⟨d.ms.call hp hg,d.rc.grw hg (by intro e;injection e with e;omega),d.sc.grw hg (by intro e;injection e with e;omega),own_grown d.own hg hl,d.ne⟩
theorem SD.be (d:SD K w gR gs k ln nm vx nn xs at2 r wx) (hb:Below wx.heap.size wx wy):SD K w gR gs k ln nm vx nn xs at2 r wy:=d.gr (d.ms.be hb).pat (grownBy_of_below hb _)
theorem SD.sk (d:SD K w gR gs k ln nm vx nn xs at2 r wx) (k2:Int):SD K w gR gs k2 ln nm vx nn xs at2 r (wx.setCell ⟨gs,0,none⟩ (.int .i64 k2)):=by
 obtain⟨n1,n2,n3,n4⟩:=d.ne
 exact⟨d.ms.sc (p:=⟨gs,0,none⟩) (by show _<=gs;omega) _,d.rc.s1 (p:=⟨gs,0,none⟩) (by show gR≠gs;omega),d.sc.sk k2,d.own.kept (grownBy_set wx gs 0 _) (.inr n4),d.ne⟩
theorem SD.sn (d:SD K w gR gs k ln nm vx nn xs at2 r wx) (m2:Bt):SD K w gR gs k ln m2 vx nn xs at2 r (wx.setCell ⟨gs,2,none⟩ (.string (st m2))):=by
 obtain⟨n1,n2,n3,n4⟩:=d.ne
 exact⟨d.ms.sc (p:=⟨gs,2,none⟩) (by show _<=gs;omega) _,d.rc.s1 (p:=⟨gs,2,none⟩) (by show gR≠gs;omega),d.sc.sn m2,d.own.kept (grownBy_set wx gs 2 _) (.inr n4),d.ne⟩
theorem SD.vl (d:SD K w gR gs k ln nm vx nn xs at2 r wx) {g9 c9:Nat} {ys:List Value} (hM:MS K w wy at3 r3) (hL:Ls wy gs k ln nm (.slice (some ⟨g9,0,none⟩) (nn+1) c9) nilS nilS) (hO:wy.ownsRow w.heap.size 40 6 (.slice (some ⟨g9,0,none⟩) (nn+1) c9) (nn+1) ys)
  (hg:vx.ownBlock=some g9\/wx.heap.size<=g9) (hfr : ∀ b,b<wx.heap.size->b≠K.g->b≠gs->some b≠vx.ownBlock->wy.heap[b]?=wx.heap[b]?):SD K w gR gs k ln nm (.slice (some ⟨g9,0,none⟩) (nn+1) c9) (nn+1) ys at3 r3 wy:=by
 obtain⟨n1,n2,n3,n4⟩:=d.ne
 have hl:=d.ms.gl
 have h1:=d.rc.lt
 have h2:=d.sc.lt
 refine⟨hM,(hfr gR h1 (by omega) (by omega) (fun e=>n3 e.symm)).trans d.rc,hL,hO,n1,n2,?_,?_⟩
 ·show some g9≠some gR
  rcases hg with e | e
  ·rw [<- e];exact n3
  ·simp;omega
 ·show some g9≠some gs
  rcases hg with e | e
  ·rw [<- e];exact n4
  ·simp;omega
theorem FS.vl (f:FS w gR gs vx nn xs F wx) (d:SD K w gR gs k ln nm vx nn xs at2 r wx) {g9 c9:Nat} {h:Hd} {s:Value} {ar:Fo} (ha:ArgsAt wy (fun b=>wx.heap.size<=b/\b≠g9) ar s) (hsz:wx.heap.size<=wy.heap.size)
  (hg:vx.ownBlock=some g9\/wx.heap.size<=g9) (hfr : ∀ b,b<wx.heap.size->b≠K.g->b≠gs->some b≠vx.ownBlock->wy.heap[b]?=wx.heap[b]?):FS w gR gs (.slice (some ⟨g9,0,none⟩) (nn+1) c9) (nn+1) (xs++hdc h s) (F.app (one1 h ar)) wy:=by
 have hl:=d.ms.gl
 have hs:=d.ms.gr.size
 have h1:=d.rc.lt
 have h2:=d.sc.lt
 refine⟨FoAt.app (f.1.keep (fun b hb hlt=>⟨hfr b hlt (by have:=hb.1;omega) hb.2.2.1 hb.2.2.2,hb.1,hb.2.1,hb.2.2.1,?_⟩) hsz) (ArgsAt.one (args_mono ha (fun b hb _=>⟨by omega,by omega,by omega,?_⟩))),by rw [Fo.len_app,f.2];rfl⟩
 ·show some b≠some g9
  rcases hg with e | e
  ·rw [<- e];exact hb.2.2.2
  ·simp;omega
 ·show some b≠some g9
  simp
  exact hb.2
theorem SD.args (d:SD K w gR gs k ln nm vx nn xs at2 r wx) (f:FS w gR gs vx nn xs F wx):ArgsAt wx (fun b=>w.heap.size<=b/\b≠gR) F vx :=
 ArgsAt.of_own (e:=40) (size:=6) (base:=w.heap.size) (by rw [f.2];exact d.own) (f.1.keep (fun b hb _=>⟨rfl,hb.1,hb.2.1⟩) (Nat.le_refl _)) (fun b hb=>⟨(d.own.lt b hb).1,fun e=>d.ne.2.2.1 (by rw [hb,e])⟩)
end
set_option maxRecDepth 100000 in
set_option maxHeartbeats 16000000 in
theorem pstmt_of (m:Nat) (hB : ∀ j,j<m->CBl j):CSt m:=by
 intro K at_ rest w hP hm
 have HM1:=Lib.hid ((MS.init hP).al zstm)
 have HR1:=Lib.hid (Ls.zero w)
 have HB:=Lib.hid hB
 have HMm:=Lib.hid hm
 obtain⟨⟨tk,tn,tv,tt⟩,r0,hr0⟩:=hP.en.cons
 have HX0:=Lib.hid hr0
 have HLN:Hid (lnOf rest=tn):=Lib.hid (by rw [hr0];rfl)
 have HRT:Hid (rest.tail.length<rest.length):=Lib.hid (by rw [hr0];simp)
 have hfd : ∀ W:World,(Instr.field 56 (.agg #[.int .i64 tk,.int .i64 tn,.int .i64 tv,.string (st tt)]) 1).run Tryd.prog W=.ok (.int .i64 tn) W:=fun _=>by kernel_rfl
 clear hB hP hm hr0
 go_enter Tryd.func53,Tryd.ntmps53
 go_upto_region 1 with fail
 obtain⟨w1,hw1⟩ : ∃ W,w.alloc zstm=W:=⟨_,rfl⟩
 obtain⟨gR,hgR⟩ : ∃ x,w.heap.size=x:=⟨_,rfl⟩
 (try rw [show w.alloc (.cells #[.int .i64 0,.int .i64 0,.string { data := #[] },.slice none 0 0,.slice none 0 0,.slice none 0 0] 83)=w1 from hw1])
 rw [hw1] at HM1 HR1
 rw [hgR] at HR1
 (try rw [hgR])
 have HGR:=Lib.hid hgR
 clear hw1 hgR
 go_wp2_with fail
 refine(look_at K at_ tk tn tv tt r0 w1 (HX0.out▸HM1.out.pat)).mono ?_
 rintro e w2 ⟨rfl,hb2⟩
 have HD3:Hid (SD K w gR w2.heap.size 0 tn [] nilS 0 [] at_ rest (w2.alloc (.cells (scs 0 tn [] nilS nilS nilS) 83))):=Lib.hid ⟨(HM1.out.be hb2).al _,(HR1.out.be hb2).al _,Ls.new w2 0 tn [] nilS nilS nilS,World.ownsRow_nil _ _ _ _,by have:=HGR.out;omega,(HR1.out.be hb2).lt,(fun e=>nomatch e),(fun e=>nomatch e)⟩
 clear hb2 HM1 HR1
 go_upto_block 0 with fail
 obtain⟨w3,hw3⟩ : ∃ W,w2.alloc (.cells (scs 0 tn [] nilS nilS nilS) 83)=W:=⟨_,rfl⟩
 obtain⟨gs,hgs⟩ : ∃ x,w2.heap.size=x:=⟨_,rfl⟩
 (try rw [show w2.alloc (.cells #[.int .i64 0,.int .i64 tn,.string { data := #[] },.slice none 0 0,.slice none 0 0,.slice none 0 0] 83)=w3 from hw3])
 rw [hw3,hgs] at HD3
 (try rw [hgs])
 clear hw3 hgs
 go_cut [5] from 10 to 83 (fun _ wx => ∃ (k:Int) (nm:Bt) (ax:Option Addr) (nx cx:Nat) (xs:List Value) (F:Fo) (at4:Nat) (r4:List Tk),Hid (SD K w gR gs k tn nm (.slice ax nx cx) nx xs at4 r4 wx/\FS w gR gs (.slice ax nx cx) nx xs F wx/\nx<=1/\r4.length<rest.length/\(∀ y,Ps .ex r4 y->Qs .st rest (endR k tn nm F y))))
 case first =>
  go_wp2_with fail
  refine(accept_any K (at_) rest [118,97,114] _ HD3.out.ms.pat).mono ?_
  rintro e w4 ⟨at5,r5,rfl,hp5,hg5,hc5⟩
  have HD4:=Lib.hid (HD3.out.gr hp5 hg5)
  clear hp5 hg5 HD3
  rcases hc5 with⟨hT,ha5,hr5⟩ | ⟨hT,ha5,hr5⟩ <;> subst at5 r5
  ·have HV:=Lib.hid hT
   (try rw [hT])
   clear hT
   obtain⟨s0,s1,s2,s3,s4,s5⟩:=HD4.out.sc.cells
   obtain⟨j0,j1,j2,j3,j4,j5⟩:=HD4.out.sc.froz
   have hlS:=HD4.out.sc.lt
   have HD6:=Lib.hid (HD4.out.sk 1)
   go_upto_region 15 with fail
   obtain⟨w6,hwy⟩ : ∃ W,w4.setCell ⟨gs,0,none⟩ (.int .i64 1)=W:=⟨_,rfl⟩
   (try rw [hwy])
   rw [hwy] at HD6
   clear hwy s0 s1 s2 s3 s4 s5 j0 j1 j2 j3 j4 j5 hlS HD4
   go_wp2_with fail
   refine(name_any K (at_+1) rest.tail _ HD6.out.ms.pat).mono ?_
   rintro e w7 ⟨at7,r7,hp7,hg7,hc7⟩
   have HD7:=Lib.hid (HD6.out.gr hp7 hg7)
   clear hp7 hg7 HD6
   obtain⟨nm,hnm⟩ : ∃ x,tOf rest.tail=x:=⟨_,rfl⟩
   have HNM:=Lib.hid hnm
   (try rw [hnm] at hc7)
   clear hnm
   rcases hc7 with⟨hk1,rfl,ha7,hr7⟩ | ⟨hk1,rfl,ha7,hr7⟩ <;> subst at7 r7
   ·have HK1:=Lib.hid hk1
    clear hk1
    obtain⟨s0,s1,s2,s3,s4,s5⟩:=HD7.out.sc.cells
    obtain⟨j0,j1,j2,j3,j4,j5⟩:=HD7.out.sc.froz
    have hlS:=HD7.out.sc.lt
    have HD8:=Lib.hid (HD7.out.sn nm)
    go_upto_region 16 with fail
    obtain⟨w8,hwy⟩ : ∃ W,w7.setCell ⟨gs,2,none⟩ (.string (st nm))=W:=⟨_,rfl⟩
    (try rw [hwy])
    rw [hwy] at HD8
    clear hwy s0 s1 s2 s3 s4 s5 j0 j1 j2 j3 j4 j5 hlS HD7
    go_wp2_with fail
    refine(accept_any K (at_+1+1) rest.tail.tail [61] _ HD8.out.ms.pat).mono ?_
    rintro e w9 ⟨at5,r5,rfl,hp5,hg5,hc5⟩
    have HD9:=Lib.hid (HD8.out.gr hp5 hg5)
    clear hp5 hg5 HD8
    rcases hc5 with⟨hT,ha5,hr5⟩ | ⟨hT,ha5,hr5⟩ <;> subst at5 r5
    ·have HE:=Lib.hid hT
     (try rw [hT])
     clear hT
     go_wp2_with fail
     go_meet
     exact⟨1,nm,none,0,0,[],.nil,at_+1+1+1,rest.tail.tail.tail,Lib.hid ⟨HD9.out,⟨rfl,rfl⟩,by omega,by have:=HRT.out;simp only [List.length_tail] at *;omega,fun y hy=>by
       have h:=Qs.st_val (ts:=rest) (k:=1) (nm:=nm) (by rw [hk_var HV.out,if_pos HK1.out,if_pos HE.out,HNM.out]) hy
       rw [HLN.out] at h
       exact h⟩⟩
    ·have HE:=Lib.hid hT
     (try rw [hT])
     clear hT
     obtain⟨y0,y1,y2,y3,y4,y5⟩:=HD9.out.rc.cells
     obtain⟨g0,g1,g2,g3,g4,g5⟩:=HD9.out.rc.froz
     have hlR:=HD9.out.rc.lt
     obtain⟨s0,s1,s2,s3,s4,s5⟩:=HD9.out.sc.cells
     have hlS:=HD9.out.sc.lt
     go_wp2_with fail
     have hfin:=sq_fin (ts:=rest) (m:=rest.length) HD9.out.ms HD9.out.rc HD9.out.ne.1 (by have:=HRT.out;simp only [List.length_tail] at *;omega) 1 tn nm none 0 0 none 0 0 none 0 0 false (.inr ⟨rfl,Qs.st_bad (by rw [hk_var HV.out,if_pos HK1.out,if_neg (by rw [HE.out];simp)])⟩)
     obtain⟨wz,hwz⟩ : ∃ W,set6 w9 gR (.int .i64 1) (.int .i64 tn) (.string (st nm)) (.slice none 0 0) (.slice none 0 0) (.slice none 0 0)=W:=⟨_,rfl⟩
     have hwz2:=hwz
     unfold set6 at hwz2
     (try rw [hwz2])
     obtain⟨hd,hep⟩:=hfin wz hwz.symm
     obtain⟨d0,d1,d2,d3,d4,d5⟩:=hd.cells
     clear hfin
     refine bodyPost_ret (v:=.tuple #[stv 1 tn nm (.slice none 0 0) (.slice none 0 0) (.slice none 0 0),.bool false]) (by simp [results,Tryd.results53,go_sem,d0,d1,d2,d3,d4,d5]) rfl ?_
     exact hep
   ·have HK1:=Lib.hid hk1
    clear hk1
    obtain⟨s0,s1,s2,s3,s4,s5⟩:=HD7.out.sc.cells
    obtain⟨j0,j1,j2,j3,j4,j5⟩:=HD7.out.sc.froz
    have hlS:=HD7.out.sc.lt
    have HD8:=Lib.hid (HD7.out.sn [])
    go_upto_region 16 with fail
    obtain⟨w8,hwy⟩ : ∃ W,w7.setCell ⟨gs,2,none⟩ (.string (st []))=W:=⟨_,rfl⟩
    (try rw [hwy])
    (try rw [show w7.setCell ⟨gs,2,none⟩ (.string { data := #[] })=w8 from hwy])
    rw [hwy] at HD8
    clear hwy s0 s1 s2 s3 s4 s5 j0 j1 j2 j3 j4 j5 hlS HD7
    obtain⟨y0,y1,y2,y3,y4,y5⟩:=HD8.out.rc.cells
    obtain⟨g0,g1,g2,g3,g4,g5⟩:=HD8.out.rc.froz
    have hlR:=HD8.out.rc.lt
    obtain⟨s0,s1,s2,s3,s4,s5⟩:=HD8.out.sc.cells
    have hlS:=HD8.out.sc.lt
    go_wp2_with fail
    have hfin:=sq_fin (ts:=rest) (m:=rest.length) HD8.out.ms HD8.out.rc HD8.out.ne.1 (by have:=HRT.out;simp only [List.length_tail] at *;omega) 1 tn [] none 0 0 none 0 0 none 0 0 false (.inr ⟨rfl,Qs.st_bad (by rw [hk_var HV.out,if_neg HK1.out])⟩)
    obtain⟨wz,hwz⟩ : ∃ W,set6 w8 gR (.int .i64 1) (.int .i64 tn) (.string (st [])) (.slice none 0 0) (.slice none 0 0) (.slice none 0 0)=W:=⟨_,rfl⟩
    have hwz2:=hwz
    unfold set6 at hwz2
    (try rw [hwz2])
    obtain⟨hd,hep⟩:=hfin wz hwz.symm
    obtain⟨d0,d1,d2,d3,d4,d5⟩:=hd.cells
    clear hfin
    refine bodyPost_ret (v:=.tuple #[stv 1 tn [] (.slice none 0 0) (.slice none 0 0) (.slice none 0 0),.bool false]) (by simp [results,Tryd.results53,go_sem,d0,d1,d2,d3,d4,d5]) rfl ?_
    exact hep
  have HN1:=Lib.hid hT
  (try rw [hT])
  clear hT
  go_wp2_with fail
  refine(accept_any K (at_) rest [105,102] _ HD4.out.ms.pat).mono ?_
  rintro e w5 ⟨at5,r5,rfl,hp5,hg5,hc5⟩
  have HD5:=Lib.hid (HD4.out.gr hp5 hg5)
  clear hp5 hg5 HD4
  rcases hc5 with⟨hT,ha5,hr5⟩ | ⟨hT,ha5,hr5⟩ <;> subst at5 r5
  ·have HV:=Lib.hid hT
   (try rw [hT])
   clear hT
   obtain⟨s0,s1,s2,s3,s4,s5⟩:=HD5.out.sc.cells
   obtain⟨j0,j1,j2,j3,j4,j5⟩:=HD5.out.sc.froz
   have hlS:=HD5.out.sc.lt
   have HD6:=Lib.hid (HD5.out.sk 4)
   go_upto_region 20 with fail
   obtain⟨w6,hwy⟩ : ∃ W,w5.setCell ⟨gs,0,none⟩ (.int .i64 4)=W:=⟨_,rfl⟩
   (try rw [hwy])
   rw [hwy] at HD6
   clear hwy s0 s1 s2 s3 s4 s5 j0 j1 j2 j3 j4 j5 hlS HD5
   obtain⟨s0,s1,s2,s3,s4,s5⟩:=HD6.out.sc.cells
   have hlS:=HD6.out.sc.lt
   go_wp2_with fail
   refine(choice_of rest.tail.length (HB.out _ (by have:=HRT.out;have:=HMm.out;omega)) K (at_+1) rest.tail rest 4 tn w6 HD6.out.ms.pat (Nat.le_refl _) (hk_if HV.out) HLN.out HRT.out).mono ?_
   rintro e w7 ⟨k2,ln2,nm2,ax,nx,cx,ta,tn2,tc,ea,en,ec,ok,at7,r7,rfl,hp7,hle7,hg7,hres7⟩
   have HM7:=Lib.hid (HD6.out.ms.call hp7 hg7)
   have HR7:=Lib.hid (HD6.out.rc.grw hg7 (by have:=HD6.out.ms.gl;have:=HD6.out.ne.1;intro e;injection e with e;omega))
   have HS7:Hid (w.heap.size<=gR/\gR<w6.heap.size/\w.heap.size<=w6.heap.size/\r7.length<=rest.length):=Lib.hid ⟨HD6.out.ne.1,HD6.out.rc.lt,HD6.out.ms.gr.size,by have:=HRT.out;omega⟩
   have HRS:=hres7
   clear hp7 hle7 hg7 hres7 s0 s1 s2 s3 s4 s5 hlS HD6
   obtain⟨y0,y1,y2,y3,y4,y5⟩:=HR7.out.cells
   obtain⟨g0,g1,g2,g3,g4,g5⟩:=HR7.out.froz
   have hlR:=HR7.out.lt
   go_wp2_with fail
   have hfin:=sq_fin (ts:=rest) (m:=rest.length) HM7.out HR7.out HS7.out.1 HS7.out.2.2.2 k2 ln2 nm2 ax nx cx ta tn2 tc ea en ec ok (by
    have hs:=HS7.out
    rcases HRS.out with⟨e1,xs,th,el,e2,e3,e4,e5,e6⟩ | hr
    ·exact .inl ⟨e1,xs,th,el,e2,args_mono e3 (fun b hb _=>⟨by omega,by omega⟩),sts_mono e4 (fun b hb _=>⟨by omega,by omega⟩),sts_mono e5 (fun b hb _=>⟨by omega,by omega⟩),e6⟩
    ·exact .inr hr)
   obtain⟨wz,hwz⟩ : ∃ W,set6 w7 gR (.int .i64 k2) (.int .i64 ln2) (.string (st nm2)) (.slice ax nx cx) (.slice ta tn2 tc) (.slice ea en ec)=W:=⟨_,rfl⟩
   have hwz2:=hwz
   unfold set6 at hwz2
   (try rw [hwz2])
   obtain⟨hd,hep⟩:=hfin wz hwz.symm
   obtain⟨d0,d1,d2,d3,d4,d5⟩:=hd.cells
   clear hfin
   refine bodyPost_ret (v:=.tuple #[stv k2 ln2 nm2 (.slice ax nx cx) (.slice ta tn2 tc) (.slice ea en ec),.bool ok]) (by simp [results,Tryd.results53,go_sem,d0,d1,d2,d3,d4,d5]) rfl ?_
   exact hep
  have HN2:=Lib.hid hT
  (try rw [hT])
  clear hT
  go_wp2_with fail
  refine(accept_any K (at_) rest [119,104,105,108,101] _ HD5.out.ms.pat).mono ?_
  rintro e wa ⟨at5,r5,rfl,hp5,hg5,hc5⟩
  have HDa:=Lib.hid (HD5.out.gr hp5 hg5)
  clear hp5 hg5 HD5
  rcases hc5 with⟨hT,ha5,hr5⟩ | ⟨hT,ha5,hr5⟩ <;> subst at5 r5
  ·have HV:=Lib.hid hT
   (try rw [hT])
   clear hT
   obtain⟨s0,s1,s2,s3,s4,s5⟩:=HDa.out.sc.cells
   obtain⟨j0,j1,j2,j3,j4,j5⟩:=HDa.out.sc.froz
   have hlS:=HDa.out.sc.lt
   have HD6:=Lib.hid (HDa.out.sk 5)
   go_upto_region 23 with fail
   obtain⟨w6,hwy⟩ : ∃ W,wa.setCell ⟨gs,0,none⟩ (.int .i64 5)=W:=⟨_,rfl⟩
   (try rw [hwy])
   rw [hwy] at HD6
   clear hwy s0 s1 s2 s3 s4 s5 j0 j1 j2 j3 j4 j5 hlS HDa
   obtain⟨s0,s1,s2,s3,s4,s5⟩:=HD6.out.sc.cells
   have hlS:=HD6.out.sc.lt
   go_wp2_with fail
   refine(choice_of rest.tail.length (HB.out _ (by have:=HRT.out;have:=HMm.out;omega)) K (at_+1) rest.tail rest 5 tn w6 HD6.out.ms.pat (Nat.le_refl _) (hk_while HV.out) HLN.out HRT.out).mono ?_
   rintro e w7 ⟨k2,ln2,nm2,ax,nx,cx,ta,tn2,tc,ea,en,ec,ok,at7,r7,rfl,hp7,hle7,hg7,hres7⟩
   have HM7:=Lib.hid (HD6.out.ms.call hp7 hg7)
   have HR7:=Lib.hid (HD6.out.rc.grw hg7 (by have:=HD6.out.ms.gl;have:=HD6.out.ne.1;intro e;injection e with e;omega))
   have HS7:Hid (w.heap.size<=gR/\gR<w6.heap.size/\w.heap.size<=w6.heap.size/\r7.length<=rest.length):=Lib.hid ⟨HD6.out.ne.1,HD6.out.rc.lt,HD6.out.ms.gr.size,by have:=HRT.out;omega⟩
   have HRS:=hres7
   clear hp7 hle7 hg7 hres7 s0 s1 s2 s3 s4 s5 hlS HD6
   obtain⟨y0,y1,y2,y3,y4,y5⟩:=HR7.out.cells
   obtain⟨g0,g1,g2,g3,g4,g5⟩:=HR7.out.froz
   have hlR:=HR7.out.lt
   go_wp2_with fail
   have hfin:=sq_fin (ts:=rest) (m:=rest.length) HM7.out HR7.out HS7.out.1 HS7.out.2.2.2 k2 ln2 nm2 ax nx cx ta tn2 tc ea en ec ok (by
    have hs:=HS7.out
    rcases HRS.out with⟨e1,xs,th,el,e2,e3,e4,e5,e6⟩ | hr
    ·exact .inl ⟨e1,xs,th,el,e2,args_mono e3 (fun b hb _=>⟨by omega,by omega⟩),sts_mono e4 (fun b hb _=>⟨by omega,by omega⟩),sts_mono e5 (fun b hb _=>⟨by omega,by omega⟩),e6⟩
    ·exact .inr hr)
   obtain⟨wz,hwz⟩ : ∃ W,set6 w7 gR (.int .i64 k2) (.int .i64 ln2) (.string (st nm2)) (.slice ax nx cx) (.slice ta tn2 tc) (.slice ea en ec)=W:=⟨_,rfl⟩
   have hwz2:=hwz
   unfold set6 at hwz2
   (try rw [hwz2])
   obtain⟨hd,hep⟩:=hfin wz hwz.symm
   obtain⟨d0,d1,d2,d3,d4,d5⟩:=hd.cells
   clear hfin
   refine bodyPost_ret (v:=.tuple #[stv k2 ln2 nm2 (.slice ax nx cx) (.slice ta tn2 tc) (.slice ea en ec),.bool ok]) (by simp [results,Tryd.results53,go_sem,d0,d1,d2,d3,d4,d5]) rfl ?_
   exact hep
  have HN3:=Lib.hid hT
  (try rw [hT])
  clear hT
  go_wp2_with fail
  refine(accept_any K (at_) rest [114,101,116,117,114,110] _ HDa.out.ms.pat).mono ?_
  rintro e wb ⟨at5,r5,rfl,hp5,hg5,hc5⟩
  have HDb:=Lib.hid (HDa.out.gr hp5 hg5)
  clear hp5 hg5 HDa
  rcases hc5 with⟨hT,ha5,hr5⟩ | ⟨hT,ha5,hr5⟩ <;> subst at5 r5
  ·have HV:=Lib.hid hT
   (try rw [hT])
   clear hT
   obtain⟨s0,s1,s2,s3,s4,s5⟩:=HDb.out.sc.cells
   obtain⟨j0,j1,j2,j3,j4,j5⟩:=HDb.out.sc.froz
   have hlS:=HDb.out.sc.lt
   have HD6:=Lib.hid (HDb.out.sk 6)
   go_wp2_with fail
   go_meet
   exact⟨6,[],none,0,0,[],.nil,at_+1,rest.tail,Lib.hid ⟨HD6.out,⟨rfl,rfl⟩,by omega,HRT.out,fun y hy=>by
     have h:=Qs.st_val (ts:=rest) (k:=6) (nm:=[]) (hk_return HV.out) hy
     rw [HLN.out] at h
     exact h⟩⟩
  have HN4:=Lib.hid hT
  (try rw [hT])
  clear hT
  go_wp2_with fail
  refine(accept_any K (at_) rest [112,114,105,110,116] _ HDb.out.ms.pat).mono ?_
  rintro e wc ⟨at5,r5,rfl,hp5,hg5,hc5⟩
  have HDc:=Lib.hid (HDb.out.gr hp5 hg5)
  clear hp5 hg5 HDb
  rcases hc5 with⟨hT,ha5,hr5⟩ | ⟨hT,ha5,hr5⟩ <;> subst at5 r5
  ·have HV:=Lib.hid hT
   (try rw [hT])
   clear hT
   obtain⟨s0,s1,s2,s3,s4,s5⟩:=HDc.out.sc.cells
   obtain⟨j0,j1,j2,j3,j4,j5⟩:=HDc.out.sc.froz
   have hlS:=HDc.out.sc.lt
   have HD6:=Lib.hid (HDc.out.sk 7)
   go_wp2_with fail
   go_meet
   exact⟨7,[],none,0,0,[],.nil,at_+1,rest.tail,Lib.hid ⟨HD6.out,⟨rfl,rfl⟩,by omega,HRT.out,fun y hy=>by
     have h:=Qs.st_val (ts:=rest) (k:=7) (nm:=[]) (hk_print HV.out) hy
     rw [HLN.out] at h
     exact h⟩⟩
  have HN5:=Lib.hid hT
  (try rw [hT])
  clear hT
  go_wp2_with fail
  refine(accept_any K (at_) rest [99,97,108,108] _ HDc.out.ms.pat).mono ?_
  rintro e wd ⟨at5,r5,rfl,hp5,hg5,hc5⟩
  have HDd:=Lib.hid (HDc.out.gr hp5 hg5)
  clear hp5 hg5 HDc
  rcases hc5 with⟨hT,ha5,hr5⟩ | ⟨hT,ha5,hr5⟩ <;> subst at5 r5
  ·have HV:=Lib.hid hT
   (try rw [hT])
   clear hT
   obtain⟨s0,s1,s2,s3,s4,s5⟩:=HDd.out.sc.cells
   obtain⟨j0,j1,j2,j3,j4,j5⟩:=HDd.out.sc.froz
   have hlS:=HDd.out.sc.lt
   have HD6:=Lib.hid (HDd.out.sk 8)
   go_wp2_with fail
   go_meet
   exact⟨8,[],none,0,0,[],.nil,at_+1,rest.tail,Lib.hid ⟨HD6.out,⟨rfl,rfl⟩,by omega,HRT.out,fun y hy=>by
     have h:=Qs.st_val (ts:=rest) (k:=8) (nm:=[]) (hk_call HV.out) hy
     rw [HLN.out] at h
     exact h⟩⟩
  have HN6:=Lib.hid hT
  (try rw [hT])
  clear hT
  have HNW:Hid (noW rest):=Lib.hid ⟨HN1.out,HN2.out,HN3.out,HN4.out,HN5.out,HN6.out⟩
  clear HN1 HN2 HN3 HN4 HN5 HN6
  go_wp2_with fail
  refine(name_any K at_ rest _ HDd.out.ms.pat).mono ?_
  rintro e w7 ⟨at7,r7,hp7,hg7,hc7⟩
  have HD7:=Lib.hid (HDd.out.gr hp7 hg7)
  clear hp7 hg7 HDd
  obtain⟨nm,hnm⟩ : ∃ x,tOf rest=x:=⟨_,rfl⟩
  have HNM:=Lib.hid hnm
  (try rw [hnm] at hc7)
  clear hnm
  rcases hc7 with⟨hk1,rfl,ha7,hr7⟩ | ⟨hk1,rfl,ha7,hr7⟩ <;> subst at7 r7
  rotate_left
  ·have HK1:=Lib.hid hk1
   clear hk1
   obtain⟨s0,s1,s2,s3,s4,s5⟩:=HD7.out.sc.cells
   obtain⟨j0,j1,j2,j3,j4,j5⟩:=HD7.out.sc.froz
   have hlS:=HD7.out.sc.lt
   have HD8:=Lib.hid (HD7.out.sn [])
   go_upto_region 4 with fail
   obtain⟨w8,hwy⟩ : ∃ W,w7.setCell ⟨gs,2,none⟩ (.string (st []))=W:=⟨_,rfl⟩
   (try rw [hwy])
   (try rw [show w7.setCell ⟨gs,2,none⟩ (.string { data := #[] })=w8 from hwy])
   rw [hwy] at HD8
   clear hwy s0 s1 s2 s3 s4 s5 j0 j1 j2 j3 j4 j5 hlS HD7
   obtain⟨y0,y1,y2,y3,y4,y5⟩:=HD8.out.rc.cells
   obtain⟨g0,g1,g2,g3,g4,g5⟩:=HD8.out.rc.froz
   have hlR:=HD8.out.rc.lt
   obtain⟨s0,s1,s2,s3,s4,s5⟩:=HD8.out.sc.cells
   have hlS:=HD8.out.sc.lt
   go_wp2_with fail
   have hfin:=sq_fin (ts:=rest) (m:=rest.length) HD8.out.ms HD8.out.rc HD8.out.ne.1 (Nat.le_refl _) 0 tn [] none 0 0 none 0 0 none 0 0 false (.inr ⟨rfl,Qs.st_bad (by rw [hk_else HNW.out,if_neg HK1.out])⟩)
   obtain⟨wz,hwz⟩ : ∃ W,set6 w8 gR (.int .i64 0) (.int .i64 tn) (.string (st [])) (.slice none 0 0) (.slice none 0 0) (.slice none 0 0)=W:=⟨_,rfl⟩
   have hwz2:=hwz
   unfold set6 at hwz2
   (try rw [hwz2])
   obtain⟨hd,hep⟩:=hfin wz hwz.symm
   obtain⟨d0,d1,d2,d3,d4,d5⟩:=hd.cells
   clear hfin
   refine bodyPost_ret (v:=.tuple #[stv 0 tn [] (.slice none 0 0) (.slice none 0 0) (.slice none 0 0),.bool false]) (by simp [results,Tryd.results53,go_sem,d0,d1,d2,d3,d4,d5]) rfl ?_
   exact hep
  ·have HK1:=Lib.hid hk1
   clear hk1
   obtain⟨s0,s1,s2,s3,s4,s5⟩:=HD7.out.sc.cells
   obtain⟨j0,j1,j2,j3,j4,j5⟩:=HD7.out.sc.froz
   have hlS:=HD7.out.sc.lt
   have HD8:=Lib.hid (HD7.out.sn nm)
   go_upto_region 4 with fail
   obtain⟨w8,hwy⟩ : ∃ W,w7.setCell ⟨gs,2,none⟩ (.string (st nm))=W:=⟨_,rfl⟩
   (try rw [hwy])
   rw [hwy] at HD8
   clear hwy s0 s1 s2 s3 s4 s5 j0 j1 j2 j3 j4 j5 hlS HD7
   obtain⟨s0,s1,s2,s3,s4,s5⟩:=HD8.out.sc.cells
   obtain⟨j0,j1,j2,j3,j4,j5⟩:=HD8.out.sc.froz
   have hlS:=HD8.out.sc.lt
   have HD9:=Lib.hid (HD8.out.sk 2)
   go_upto_region 7 with fail
   obtain⟨w9,hwy⟩ : ∃ W,w8.setCell ⟨gs,0,none⟩ (.int .i64 2)=W:=⟨_,rfl⟩
   (try rw [hwy])
   rw [hwy] at HD9
   clear hwy s0 s1 s2 s3 s4 s5 j0 j1 j2 j3 j4 j5 hlS HD8
   go_wp2_with fail
   refine(accept_any K (at_+1) rest.tail [91] _ HD9.out.ms.pat).mono ?_
   rintro e wA ⟨at5,r5,rfl,hp5,hg5,hc5⟩
   have HDA:=Lib.hid (HD9.out.gr hp5 hg5)
   clear hp5 hg5 HD9
   rcases hc5 with⟨hT,ha5,hr5⟩ | ⟨hT,ha5,hr5⟩ <;> subst at5 r5
   ·have HB1:=Lib.hid hT
    (try rw [hT])
    clear hT
    obtain⟨s0,s1,s2,s3,s4,s5⟩:=HDA.out.sc.cells
    obtain⟨j0,j1,j2,j3,j4,j5⟩:=HDA.out.sc.froz
    have hlS:=HDA.out.sc.lt
    have HDB:=Lib.hid (HDA.out.sk 3)
    go_upto_region 9 with fail
    obtain⟨wB,hwy⟩ : ∃ W,wA.setCell ⟨gs,0,none⟩ (.int .i64 3)=W:=⟨_,rfl⟩
    (try rw [hwy])
    rw [hwy] at HDB
    clear hwy s0 s1 s2 s3 s4 s5 j0 j1 j2 j3 j4 j5 hlS HDA
    go_wp2_with fail
    refine(pvalue_any K w (at_+1+1) gs rest.tail.tail 3 tn nm nilS nilS nilS 0 [] wB HDB.out.ms HDB.out.sc HDB.out.own (by have:=HDB.out.ne;omega) (fun e=>nomatch e) (by omega)).mono ?_
    rintro e wC ⟨okv,atC,rC,g9,c9,h,a,n,c,rfl,hmC,hleC,hsC,hoC,hgC,hszC,hresC⟩
    have HDC:=Lib.hid (HDB.out.vl hmC hsC hoC hgC hresC.out.1)
    have HLEC:=Lib.hid hleC
    have HRC:Hid ((okv=true /\ ∃ ar,Ps .ex rest.tail.tail (.ok (one1 h ar) rC)/\FS w gR gs (.slice (some ⟨g9,0,none⟩) (0+1) c9) (0+1) ([]++hdc h (.slice a n c)) (Fo.nil.app (one1 h ar)) wC)\/(okv=false/\Ps .ex rest.tail.tail (.bad rC))):=Lib.hid (by
     rcases hresC.out.2 with⟨e1,ar,e2,e3,e4⟩ | hr
     ·exact .inl ⟨e1,ar,e2,FS.vl (F:=.nil) ⟨rfl,rfl⟩ HDB.out e3 hszC hgC hresC.out.1⟩
     ·exact .inr hr)
    clear hmC hleC hsC hoC hgC hszC hresC HDB
    have HKS:Hid (hk rest=.sto nm rest.tail.tail):=Lib.hid (by rw [hk_else HNW.out,if_pos HK1.out,if_pos HB1.out,HNM.out])
    cases okv
    ·have HBD:Hid (Qs .st rest (.bad rC)):=Lib.hid (by
      rcases HRC.out with⟨h1,_⟩ | ⟨_,h1⟩
      ·cases h1
      ·exact Qs.sto_bad HKS.out h1)
     obtain⟨y0,y1,y2,y3,y4,y5⟩:=HDC.out.rc.cells
     obtain⟨g0,g1,g2,g3,g4,g5⟩:=HDC.out.rc.froz
     have hlR:=HDC.out.rc.lt
     obtain⟨s0,s1,s2,s3,s4,s5⟩:=HDC.out.sc.cells
     have hlS:=HDC.out.sc.lt
     go_wp2_with fail
     have hfin:=sq_fin (ts:=rest) (m:=rest.length) HDC.out.ms HDC.out.rc HDC.out.ne.1 (by have:=HLEC.out;have:=HRT.out;simp only [List.length_tail] at *;omega) 3 tn nm (some ⟨g9,0,none⟩) (0+1) c9 none 0 0 none 0 0 false (.inr ⟨rfl,HBD.out⟩)
     obtain⟨wz,hwz⟩ : ∃ W,set6 wC gR (.int .i64 3) (.int .i64 tn) (.string (st nm)) (.slice (some ⟨g9,0,none⟩) (0+1) c9) (.slice none 0 0) (.slice none 0 0)=W:=⟨_,rfl⟩
     have hwz2:=hwz
     unfold set6 at hwz2
     (try rw [hwz2])
     obtain⟨hd,hep⟩:=hfin wz hwz.symm
     obtain⟨d0,d1,d2,d3,d4,d5⟩:=hd.cells
     clear hfin
     refine bodyPost_ret (v:=.tuple #[stv 3 tn nm (.slice (some ⟨g9,0,none⟩) (0+1) c9) (.slice none 0 0) (.slice none 0 0),.bool false]) (by simp [results,Tryd.results53,go_sem,d0,d1,d2,d3,d4,d5]) rfl ?_
     exact hep
    ·obtain⟨ar,hps,hfs⟩ : ∃ ar,Ps .ex rest.tail.tail (.ok (one1 h ar) rC)/\FS w gR gs (.slice (some ⟨g9,0,none⟩) (0+1) c9) (0+1) ([]++hdc h (.slice a n c)) (Fo.nil.app (one1 h ar)) wC:=by
      rcases HRC.out with⟨_,h1⟩ | ⟨h1,_⟩
      ·exact h1
      ·cases h1
     have HPS:=Lib.hid hps
     have HFS:=Lib.hid hfs
     clear hps hfs HRC
     go_wp2_with fail
     refine(accept_any K atC rC [93] _ HDC.out.ms.pat).mono ?_
     rintro e wD ⟨at5,r5,rfl,hp5,hg5,hc5⟩
     have HDD:=Lib.hid (HDC.out.gr hp5 hg5)
     have HFD:Hid (FS w gR gs (.slice (some ⟨g9,0,none⟩) (0+1) c9) (0+1) ([]++hdc h (.slice a n c)) (Fo.nil.app (one1 h ar)) wD):=Lib.hid ⟨HFS.out.1.keep (fun b hb hlt=>⟨hg5.block b hlt (fun e=>by injection e with e;have:=HDC.out.ms.gl;have:=hb.1;omega),hb⟩) hg5.size,HFS.out.2⟩
     clear hp5 hg5 HDC HFS
     rcases hc5 with⟨hT,ha5,hr5⟩ | ⟨hT,ha5,hr5⟩ <;> subst at5 r5
     rotate_left
     ·have HC:=Lib.hid hT
      (try rw [hT])
      clear hT
      obtain⟨y0,y1,y2,y3,y4,y5⟩:=HDD.out.rc.cells
      obtain⟨g0,g1,g2,g3,g4,g5⟩:=HDD.out.rc.froz
      have hlR:=HDD.out.rc.lt
      obtain⟨s0,s1,s2,s3,s4,s5⟩:=HDD.out.sc.cells
      have hlS:=HDD.out.sc.lt
      go_wp2_with fail
      have hfin:=sq_fin (ts:=rest) (m:=rest.length) HDD.out.ms HDD.out.rc HDD.out.ne.1 (by have:=HLEC.out;have:=HRT.out;simp only [List.length_tail] at *;omega) 3 tn nm (some ⟨g9,0,none⟩) (0+1) c9 none 0 0 none 0 0 false (.inr ⟨rfl,Qs.sto_no1 HKS.out HPS.out HC.out⟩)
      obtain⟨wz,hwz⟩ : ∃ W,set6 wD gR (.int .i64 3) (.int .i64 tn) (.string (st nm)) (.slice (some ⟨g9,0,none⟩) (0+1) c9) (.slice none 0 0) (.slice none 0 0)=W:=⟨_,rfl⟩
      have hwz2:=hwz
      unfold set6 at hwz2
      (try rw [hwz2])
      obtain⟨hd,hep⟩:=hfin wz hwz.symm
      obtain⟨d0,d1,d2,d3,d4,d5⟩:=hd.cells
      clear hfin
      refine bodyPost_ret (v:=.tuple #[stv 3 tn nm (.slice (some ⟨g9,0,none⟩) (0+1) c9) (.slice none 0 0) (.slice none 0 0),.bool false]) (by simp [results,Tryd.results53,go_sem,d0,d1,d2,d3,d4,d5]) rfl ?_
      exact hep
     ·have HC:=Lib.hid hT
      (try rw [hT])
      clear hT
      go_wp2_with fail
      refine(accept_any K (atC+1) rC.tail [61] _ HDD.out.ms.pat).mono ?_
      rintro e wE ⟨at5,r5,rfl,hp5,hg5,hc5⟩
      have HDE:=Lib.hid (HDD.out.gr hp5 hg5)
      have HFE:Hid (FS w gR gs (.slice (some ⟨g9,0,none⟩) (0+1) c9) (0+1) ([]++hdc h (.slice a n c)) (Fo.nil.app (one1 h ar)) wE):=Lib.hid ⟨HFD.out.1.keep (fun b hb hlt=>⟨hg5.block b hlt (fun e=>by injection e with e;have:=HDD.out.ms.gl;have:=hb.1;omega),hb⟩) hg5.size,HFD.out.2⟩
      clear hp5 hg5 HDD HFD
      rcases hc5 with⟨hT,ha5,hr5⟩ | ⟨hT,ha5,hr5⟩ <;> subst at5 r5
      ·have HE:=Lib.hid hT
       (try rw [hT])
       clear hT
       go_wp2_with fail
       go_meet
       exact⟨3,nm,some ⟨g9,0,none⟩,0+1,c9,_,_,atC+1+1,rC.tail.tail,Lib.hid ⟨HDE.out,HFE.out,by omega,by have:=HLEC.out;have:=HRT.out;simp only [List.length_tail] at *;omega,fun y hy=>by
         have h:=Qs.sto_ok HKS.out HPS.out HC.out HE.out hy
         rw [HLN.out] at h
         exact h⟩⟩
      ·have HE:=Lib.hid hT
       (try rw [hT])
       clear hT
       obtain⟨y0,y1,y2,y3,y4,y5⟩:=HDE.out.rc.cells
       obtain⟨g0,g1,g2,g3,g4,g5⟩:=HDE.out.rc.froz
       have hlR:=HDE.out.rc.lt
       obtain⟨s0,s1,s2,s3,s4,s5⟩:=HDE.out.sc.cells
       have hlS:=HDE.out.sc.lt
       go_wp2_with fail
       have hfin:=sq_fin (ts:=rest) (m:=rest.length) HDE.out.ms HDE.out.rc HDE.out.ne.1 (by have:=HLEC.out;have:=HRT.out;simp only [List.length_tail] at *;omega) 3 tn nm (some ⟨g9,0,none⟩) (0+1) c9 none 0 0 none 0 0 false (.inr ⟨rfl,Qs.sto_no2 HKS.out HPS.out HC.out HE.out⟩)
       obtain⟨wz,hwz⟩ : ∃ W,set6 wE gR (.int .i64 3) (.int .i64 tn) (.string (st nm)) (.slice (some ⟨g9,0,none⟩) (0+1) c9) (.slice none 0 0) (.slice none 0 0)=W:=⟨_,rfl⟩
       have hwz2:=hwz
       unfold set6 at hwz2
       (try rw [hwz2])
       obtain⟨hd,hep⟩:=hfin wz hwz.symm
       obtain⟨d0,d1,d2,d3,d4,d5⟩:=hd.cells
       clear hfin
       refine bodyPost_ret (v:=.tuple #[stv 3 tn nm (.slice (some ⟨g9,0,none⟩) (0+1) c9) (.slice none 0 0) (.slice none 0 0),.bool false]) (by simp [results,Tryd.results53,go_sem,d0,d1,d2,d3,d4,d5]) rfl ?_
       exact hep
   ·have HB1:=Lib.hid hT
    (try rw [hT])
    clear hT
    go_wp2_with fail
    refine(accept_any K (at_+1) rest.tail [61] _ HDA.out.ms.pat).mono ?_
    rintro e wB ⟨at5,r5,rfl,hp5,hg5,hc5⟩
    have HDB:=Lib.hid (HDA.out.gr hp5 hg5)
    clear hp5 hg5 HDA
    rcases hc5 with⟨hT,ha5,hr5⟩ | ⟨hT,ha5,hr5⟩ <;> subst at5 r5
    ·have HE:=Lib.hid hT
     (try rw [hT])
     clear hT
     go_wp2_with fail
     go_meet
     exact⟨2,nm,none,0,0,[],.nil,at_+1+1,rest.tail.tail,Lib.hid ⟨HDB.out,⟨rfl,rfl⟩,by omega,by have:=HRT.out;simp only [List.length_tail] at *;omega,fun y hy=>by
       have h:=Qs.st_val (ts:=rest) (k:=2) (nm:=nm) (by rw [hk_else HNW.out,if_pos HK1.out,if_neg (by rw [HB1.out];simp),if_pos HE.out,HNM.out]) hy
       rw [HLN.out] at h
       exact h⟩⟩
    ·have HE:=Lib.hid hT
     (try rw [hT])
     clear hT
     obtain⟨y0,y1,y2,y3,y4,y5⟩:=HDB.out.rc.cells
     obtain⟨g0,g1,g2,g3,g4,g5⟩:=HDB.out.rc.froz
     have hlR:=HDB.out.rc.lt
     obtain⟨s0,s1,s2,s3,s4,s5⟩:=HDB.out.sc.cells
     have hlS:=HDB.out.sc.lt
     go_wp2_with fail
     have hfin:=sq_fin (ts:=rest) (m:=rest.length) HDB.out.ms HDB.out.rc HDB.out.ne.1 (by have:=HRT.out;simp only [List.length_tail] at *;omega) 2 tn nm none 0 0 none 0 0 none 0 0 false (.inr ⟨rfl,Qs.st_bad (by rw [hk_else HNW.out,if_pos HK1.out,if_neg (by rw [HB1.out];simp),if_neg (by rw [HE.out];simp)])⟩)
     obtain⟨wz,hwz⟩ : ∃ W,set6 wB gR (.int .i64 2) (.int .i64 tn) (.string (st nm)) (.slice none 0 0) (.slice none 0 0) (.slice none 0 0)=W:=⟨_,rfl⟩
     have hwz2:=hwz
     unfold set6 at hwz2
     (try rw [hwz2])
     obtain⟨hd,hep⟩:=hfin wz hwz.symm
     obtain⟨d0,d1,d2,d3,d4,d5⟩:=hd.cells
     clear hfin
     refine bodyPost_ret (v:=.tuple #[stv 2 tn nm (.slice none 0 0) (.slice none 0 0) (.slice none 0 0),.bool false]) (by simp [results,Tryd.results53,go_sem,d0,d1,d2,d3,d4,d5]) rfl ?_
     exact hep
 case rest =>
 rename World=>wq
 obtain⟨k,nm,ax,nx,cx,xs,F,at4,r4,HC⟩:=hcut
 go_wp2_with fail
 refine(pvalue_any K w at4 gs r4 k tn nm (.slice ax nx cx) nilS nilS nx xs wq HC.out.1.ms HC.out.1.sc HC.out.1.own (by have:=HC.out.1.ne;omega) HC.out.1.ne.2.2.2 HC.out.2.2.1).mono ?_
 rintro e w5 ⟨okv,at5,r5,g9,c9,h,a,n,c,rfl,hm5,hle5,hs5,ho5,hg5,hsz5,hres5⟩
 have HD5:=Lib.hid (HC.out.1.vl hm5 hs5 ho5 hg5 hres5.out.1)
 have HLE5:Hid (r5.length<=r4.length/\r5.length<rest.length):=Lib.hid ⟨hle5,by have:=HC.out.2.2.2.1;omega⟩
 have HR5:Hid ((okv=true /\ ∃ ar,Ps .ex r4 (.ok (one1 h ar) r5)/\FS w gR gs (.slice (some ⟨g9,0,none⟩) (nx+1) c9) (nx+1) (xs++hdc h (.slice a n c)) (F.app (one1 h ar)) w5)\/(okv=false/\Ps .ex r4 (.bad r5))):=Lib.hid (by
  rcases hres5.out.2 with⟨e1,ar,e2,e3,e4⟩ | hr
  ·exact .inl ⟨e1,ar,e2,FS.vl HC.out.2.1 HC.out.1 e3 hsz5 hg5 hres5.out.1⟩
  ·exact .inr hr)
 clear hm5 hle5 hs5 ho5 hg5 hsz5 hres5
 cases okv
 ·have HBD:Hid (Qs .st rest (.bad r5)):=Lib.hid (by
   rcases HR5.out with⟨h1,_⟩ | ⟨_,h1⟩
   ·cases h1
   ·exact HC.out.2.2.2.2 _ h1)
  obtain⟨y0,y1,y2,y3,y4,y5⟩:=HD5.out.rc.cells
  obtain⟨g0,g1,g2,g3,g4,g5⟩:=HD5.out.rc.froz
  have hlR:=HD5.out.rc.lt
  obtain⟨s0,s1,s2,s3,s4,s5⟩:=HD5.out.sc.cells
  have hlS:=HD5.out.sc.lt
  go_wp2_with fail
  have hfin:=sq_fin (ts:=rest) (m:=rest.length) HD5.out.ms HD5.out.rc HD5.out.ne.1 (Nat.le_of_lt HLE5.out.2) k tn nm (some ⟨g9,0,none⟩) (nx+1) c9 none 0 0 none 0 0 false (.inr ⟨rfl,HBD.out⟩)
  obtain⟨wz,hwz⟩ : ∃ W,set6 w5 gR (.int .i64 k) (.int .i64 tn) (.string (st nm)) (.slice (some ⟨g9,0,none⟩) (nx+1) c9) (.slice none 0 0) (.slice none 0 0)=W:=⟨_,rfl⟩
  have hwz2:=hwz
  unfold set6 at hwz2
  (try rw [hwz2])
  obtain⟨hd,hep⟩:=hfin wz hwz.symm
  obtain⟨d0,d1,d2,d3,d4,d5⟩:=hd.cells
  clear hfin
  refine bodyPost_ret (v:=.tuple #[stv k tn nm (.slice (some ⟨g9,0,none⟩) (nx+1) c9) (.slice none 0 0) (.slice none 0 0),.bool false]) (by simp [results,Tryd.results53,go_sem,d0,d1,d2,d3,d4,d5]) rfl ?_
  exact hep
 ·obtain⟨ar,hps,hfs⟩ : ∃ ar,Ps .ex r4 (.ok (one1 h ar) r5)/\FS w gR gs (.slice (some ⟨g9,0,none⟩) (nx+1) c9) (nx+1) (xs++hdc h (.slice a n c)) (F.app (one1 h ar)) w5:=by
   rcases HR5.out with⟨_,h1⟩ | ⟨h1,_⟩
   ·exact h1
   ·cases h1
  have HPS:=Lib.hid (HC.out.2.2.2.2 _ hps)
  have HFS:=Lib.hid hfs
  clear hps hfs HR5
  go_wp2_with fail
  refine(accept_any K at5 r5 [59] _ HD5.out.ms.pat).mono ?_
  rintro e w6 ⟨at6,r6,rfl,hp6,hg6,hc6⟩
  have HD6:=Lib.hid (HD5.out.gr hp6 hg6)
  have HF6:Hid (FS w gR gs (.slice (some ⟨g9,0,none⟩) (nx+1) c9) (nx+1) (xs++hdc h (.slice a n c)) (F.app (one1 h ar)) w6):=Lib.hid ⟨HFS.out.1.keep (fun b hb hlt=>⟨hg6.block b hlt (fun e=>by injection e with e;have:=HD5.out.ms.gl;have:=hb.1;omega),hb⟩) hg6.size,HFS.out.2⟩
  clear hp6 hg6 HD5 HFS
  rcases hc6 with⟨hT,ha6,hr6⟩ | ⟨hT,ha6,hr6⟩ <;> subst at6 r6
  ·have HQ:Hid (Qs .st rest (.ok (oneS k tn nm (F.app (one1 h ar)) .nil .nil) r5.tail)):=Lib.hid (by
    have h:=HPS.out
    unfold endR at h
    dsimp only at h
    rw [if_pos hT] at h
    exact h)
   (try rw [hT])
   clear hT
   obtain⟨y0,y1,y2,y3,y4,y5⟩:=HD6.out.rc.cells
   obtain⟨g0,g1,g2,g3,g4,g5⟩:=HD6.out.rc.froz
   have hlR:=HD6.out.rc.lt
   obtain⟨s0,s1,s2,s3,s4,s5⟩:=HD6.out.sc.cells
   have hlS:=HD6.out.sc.lt
   go_wp2_with fail
   have hfin:=sq_fin (ts:=rest) (m:=rest.length) HD6.out.ms HD6.out.rc HD6.out.ne.1 (by have:=HLE5.out;simp only [List.length_tail];omega) k tn nm (some ⟨g9,0,none⟩) (nx+1) c9 none 0 0 none 0 0 true (.inl ⟨rfl,_,.nil,.nil,HQ.out,HD6.out.args HF6.out,StsAt.nil _ _,StsAt.nil _ _,by have:=HLE5.out;simp only [List.length_tail];omega⟩)
   obtain⟨wz,hwz⟩ : ∃ W,set6 w6 gR (.int .i64 k) (.int .i64 tn) (.string (st nm)) (.slice (some ⟨g9,0,none⟩) (nx+1) c9) (.slice none 0 0) (.slice none 0 0)=W:=⟨_,rfl⟩
   have hwz2:=hwz
   unfold set6 at hwz2
   (try rw [hwz2])
   obtain⟨hd,hep⟩:=hfin wz hwz.symm
   obtain⟨d0,d1,d2,d3,d4,d5⟩:=hd.cells
   clear hfin
   refine bodyPost_ret (v:=.tuple #[stv k tn nm (.slice (some ⟨g9,0,none⟩) (nx+1) c9) (.slice none 0 0) (.slice none 0 0),.bool true]) (by simp [results,Tryd.results53,go_sem,d0,d1,d2,d3,d4,d5]) rfl ?_
   exact hep
  ·have HQ:Hid (Qs .st rest (.bad r5)):=Lib.hid (by
    have h:=HPS.out
    unfold endR at h
    dsimp only at h
    rw [if_neg (by rw [hT];simp)] at h
    exact h)
   (try rw [hT])
   clear hT
   obtain⟨y0,y1,y2,y3,y4,y5⟩:=HD6.out.rc.cells
   obtain⟨g0,g1,g2,g3,g4,g5⟩:=HD6.out.rc.froz
   have hlR:=HD6.out.rc.lt
   obtain⟨s0,s1,s2,s3,s4,s5⟩:=HD6.out.sc.cells
   have hlS:=HD6.out.sc.lt
   go_wp2_with fail
   have hfin:=sq_fin (ts:=rest) (m:=rest.length) HD6.out.ms HD6.out.rc HD6.out.ne.1 (Nat.le_of_lt HLE5.out.2) k tn nm (some ⟨g9,0,none⟩) (nx+1) c9 none 0 0 none 0 0 false (.inr ⟨rfl,HQ.out⟩)
   obtain⟨wz,hwz⟩ : ∃ W,set6 w6 gR (.int .i64 k) (.int .i64 tn) (.string (st nm)) (.slice (some ⟨g9,0,none⟩) (nx+1) c9) (.slice none 0 0) (.slice none 0 0)=W:=⟨_,rfl⟩
   have hwz2:=hwz
   unfold set6 at hwz2
   (try rw [hwz2])
   obtain⟨hd,hep⟩:=hfin wz hwz.symm
   obtain⟨d0,d1,d2,d3,d4,d5⟩:=hd.cells
   clear hfin
   refine bodyPost_ret (v:=.tuple #[stv k tn nm (.slice (some ⟨g9,0,none⟩) (nx+1) c9) (.slice none 0 0) (.slice none 0 0),.bool false]) (by simp [results,Tryd.results53,go_sem,d0,d1,d2,d3,d4,d5]) rfl ?_
   exact hep
end Go.Proofs.YtpcdinelpfbpfaaDoor
