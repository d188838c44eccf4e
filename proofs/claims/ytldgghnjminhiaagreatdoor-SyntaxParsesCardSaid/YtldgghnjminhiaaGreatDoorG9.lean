/-
  WORDS, PLAIN LAWS and WALKS (PqC PqB QtB QtS), pressed. (Filled in from templates of this repo.)
-/
import Derived.Test.YtldgghnjminhiaaGreatDoorG8
import Derived.Laws.OwnMore
namespace Go.Proofs.YtldgghnjminhiaaGreatDoor
open Go Go.ChangeAt Go.ChangeShapes Go.RowKit Go.WideShapes
set_option linter.unusedVariables false
set_option linter.unusedSimpArgs false
set_option maxRecDepth 100000
set_option maxHeartbeats 16000000
theorem Hn {w:World} {P:Nat->Prop} {S:Sf} {sl:Value} {g:Nat} {v0 v1 v2 v3 v4 v5:Value} (h:Xl w P S sl) (hP:∀ b,P b->b≠g):Xl (set6 w g v0 v1 v2 v3 v4 v5) P S sl:=h.keep (λ b hb hlt=>⟨Yx b (hP b hb),hb⟩) (by rw[Zv];exact Nat.le_refl _)
theorem Zj {w:World} {P Q:Nat->Prop} {S:Sf} {sl:Value} (h:Xl w P S sl) (hPQ:∀ b,P b->b<w.heap.size->Q b):Xl w Q S sl:=h.keep (λ b hb hlt=>⟨rfl,hPQ b hb hlt⟩) (Nat.le_refl _)
theorem Mt {w w':World} {P:Nat->Prop} {S:Sf} {sl:Value} {g:Nat} (h:Xl w P S sl) (hg:w.grownBy w' (some g)) (hP:∀ b,P b->b≠g):Xl w' P S sl:=h.keep (λ b hb hlt=>⟨hg.block b hlt (λ e=>by injection e with e;exact hP b hb e),hb⟩) hg.size
theorem Wh {w:World} {P:Nat->Prop} {S:Sf} {sl:Value} {p:Addr} {v:Value} (h:Xl w P S sl) (hP:∀ b,P b->b≠p.block):Xl (w.setCell p v) P S sl:=h.keep (λ b hb hlt=>⟨heap_setCell_other w p b v (hP b hb),hb⟩) (by simp[World.setCell])
def StQ (K:PC) (ts:List Tk) (m:Nat) (w:World) (e:Ending) (w':World):Prop :=
 ∃ (k ln:Int) (nm:Bt) (ax:Option Addr) (nx cx:Nat) (ta:Option Addr) (tn tc:Nat) (ea:Option Addr) (en ec:Nat) (ok:Bool) (at2:Nat) (r:List Tk),
  e=.returned (.tuple #[stv k ln nm (.slice ax nx cx) (.slice ta tn tc) (.slice ea en ec),.bool ok])/\PAt w' K at2 r/\r.length<=m/\w.grownBy w' (some K.g) /\
  Xq ((ok=true/\∃ xs th el,Qs .st ts (.ok (Zd k ln nm xs th el) r)/\Xk w' (λ b=>w.heap.size<=b) xs (.slice ax nx cx)/\Xl w' (λ b=>w.heap.size<=b) th (.slice ta tn tc)/\Xl w' (λ b=>w.heap.size<=b) el (.slice ea en ec)/\r.length<ts.length)\/(ok=false/\Qs .st ts (.bad r)))
def BlQ (K:PC) (rest:List Tk) (w:World) (e:Ending) (w':World):Prop :=
 ∃ (a:Option Addr) (n c:Nat) (ok:Bool) (at2:Nat) (r:List Tk),e=.returned (.tuple #[.slice a n c,.bool ok])/\PAt w' K at2 r/\r.length<=rest.length/\w.grownBy w' (some K.g) /\
  Xq ((ok=true/\∃ S,Qs .bl rest (.ok S r)/\Xl w' (λ b=>w.heap.size<=b) S (.slice a n c))\/(ok=false/\Qs .bl rest (.bad r)))
def CBl (m:Nat):Prop:=∀ (K:PC) (at_:Nat) (rest:List Tk) (w:World),PAt w K at_ rest->rest.length<=m->Calls Tryz.prog 147 #[.pointer (some ⟨K.g,0,none⟩)] w (BlQ K rest w)
abbrev Xs:Value:=.slice none 0 0
abbrev Dn:Obj:=.cells #[.int .i64 0,.int .i64 0,.string { data := #[] },.slice none 0 0,.slice none 0 0,.slice none 0 0] 110
theorem Ls.zero (w:World):Ls (w.alloc Dn) w.heap.size 0 0 [] Xs Xs Xs:=heap_alloc_new w _
theorem Ls.s6 {wx:World} {b:Nat} {k ln:Int} {nm:Bt} {vx vt ve:Value} (h:Ls wx b k ln nm vx vt ve) (k2 ln2:Int) (n2:Bt) (x2 t2 e2:Value):Ls (set6 wx b (.int .i64 k2) (.int .i64 ln2) (.string (st n2)) x2 t2 e2) b k2 ln2 n2 x2 t2 e2:=Qj h
theorem Qx {K:PC} {ts r:List Tk} {m at2 gR:Nat} {w wx:World} {k0 l0:Int} {n0:Bt} {x0 t0 e0:Value} (M:MS K w wx at2 r) (R:Ls wx gR k0 l0 n0 x0 t0 e0) (b1:w.heap.size<=gR) (hl:r.length<=m) (k ln:Int) (nm:Bt) (ax:Option Addr) (nx cx:Nat) (ta:Option Addr) (tn tc:Nat) (ea:Option Addr) (en ec:Nat) (ok:Bool)
  (hI:(ok=true/\∃ xs th el,Qs .st ts (.ok (Zd k ln nm xs th el) r)/\Xk wx (λ b=>w.heap.size<=b/\b≠gR) xs (.slice ax nx cx)/\Xl wx (λ b=>w.heap.size<=b/\b≠gR) th (.slice ta tn tc)/\Xl wx (λ b=>w.heap.size<=b/\b≠gR) el (.slice ea en ec)/\r.length<ts.length)\/(ok=false/\Qs .st ts (.bad r))) (W:World)
  (hW:W=set6 wx gR (.int .i64 k) (.int .i64 ln) (.string (st nm)) (.slice ax nx cx) (.slice ta tn tc) (.slice ea en ec)) :
  Ls W gR k ln nm (.slice ax nx cx) (.slice ta tn tc) (.slice ea en ec)/\StQ K ts m w (.returned (.tuple #[stv k ln nm (.slice ax nx cx) (.slice ta tn tc) (.slice ea en ec),.bool ok])) W:=by
 subst hW
 have h2:=M.s6 b1 (.int .i64 k) (.int .i64 ln) (.string (st nm)) (.slice ax nx cx) (.slice ta tn tc) (.slice ea en ec)
 refine⟨R.s6 _ _ _ _ _ _,k,ln,nm,ax,nx,cx,ta,tn,tc,ea,en,ec,ok,at2,r,rfl,h2.pat,hl,h2.gr,Xj ?_⟩
 rcases hI with⟨e1,xs,th,el,e2,e3,e4,e5,e6⟩|e
 ·exact .inl ⟨e1,xs,th,el,e2,Xc (Yv e3 (λ b hb=>hb.2)) (λ b hb _=>hb.1),Zj (Hn e4 (λ b hb=>hb.2)) (λ b hb _=>hb.1),Zj (Hn e5 (λ b hb=>hb.2)) (λ b hb _=>hb.1),e6⟩
 exact .inr e
theorem Hc (m:Nat) (hB:CBl m) (K:PC) (at_:Nat) (rest ts:List Tk) (k ln:Int) (w:World) (hP:PAt w K at_ rest) (hm:rest.length<=m) (hh:hk ts=.cho k rest) (hln:Yc ts=ln) (hrt:rest.length<ts.length) :
  Calls Tryz.prog 191 #[.pointer (some ⟨K.g,0,none⟩),stv k ln [] (.slice none 0 0) (.slice none 0 0) (.slice none 0 0)] w (StQ K ts rest.length w):=by
 have HM1:=Xj (((MS.init hP).al (.cells (scs k ln [] Xs Xs Xs) 110)).al Dn)
 have HS1:=Xj ((Ls.new w k ln [] Xs Xs Xs).al Dn)
 have HR1:=Xj (Ls.zero (w.alloc (.cells (scs k ln [] Xs Xs Xs) 110)))
 have HSZ:Xq ((w.alloc (.cells (scs k ln [] Xs Xs Xs) 110)).heap.size=w.heap.size+1):=Xj (by simp)
 have HB:=Xj hB
 have HMm:=Xj hm
 have HH:=Xj (And.intro hh hln)
 have HTS:=Xj hrt
 clear hB hP hm hh hln hrt
 go_enter Tryz.func191,Tryz.ntmps191
 go_upto_region 1 with fail
 obtain⟨w1,hw1⟩:∃ W,(w.alloc (.cells (scs k ln [] Xs Xs Xs) 110)).alloc Dn=W:=⟨_,rfl⟩
 obtain⟨gs,hgs⟩:∃ x,w.heap.size=x:=⟨_,rfl⟩
 (try rw[show (w.alloc (.cells #[.int .i64 k,.int .i64 ln,.string (st []),.slice none 0 0,.slice none 0 0,.slice none 0 0] 110)).alloc (.cells #[.int .i64 0,.int .i64 0,.string { data := #[] },.slice none 0 0,.slice none 0 0,.slice none 0 0] 110)=w1 from hw1])
 rw[HSZ.o] at HR1
 rw[hw1,hgs] at HS1 HR1
 rw[hw1] at HM1
 (try rw[hgs])
 have HGS:=Xj hgs
 obtain⟨gR,hgR⟩:∃ x,gs+1=x:=⟨_,rfl⟩
 rw[hgR] at HR1
 (try rw[hgR])
 have HGR:Xq (w.heap.size=gs/\gR=gs+1):=Xj ⟨hgs,hgR.symm⟩
 have HZ1:Xq (w1.heap.size=gs+2):=Xj (by rw[<- hw1,<- hgs];simp)
 clear hw1 hgs hgR HSZ HGS
 go_wp2_with fail
 refine(Kd K w at_ gs rest k ln [] Xs Xs Xs 0 [] w1 HM1.o HS1.o (World.ownsRow_nil _ _ _ _) (by have:=HGR.o.1;omega) (λ e=>nomatch e) (by omega)).mono ?_
 rintro e w2 ⟨ok,at2,r,g9,c9,h,a,n,c,rfl,hm2,hjb,hs2,ho2,hg9,hwh,hI⟩
 have HM2:=Xj hm2
 have HS2:=Xj hs2
 have HO2:=Xj ho2
 have HR2:Xq (Ls w2 gR 0 0 [] Xs Xs Xs):=Xj ((hI.o.1 gR HR1.o.lt (by have:=HM1.o.gl;have:=HGR.o;omega) (by have:=HGR.o;omega) (λ e=>nomatch e)).trans HR1.o)
 have HG9:Xq (gs+2<=g9/\w1.heap.size<=w2.heap.size):=Xj ⟨by rcases hg9 with e|e;(cases e);(have:=HZ1.o;omega),hwh⟩
 have HLE:=Xj hjb
 have HRS:Xq ((ok=true/\∃ ar,Ps .ex rest (.ok (Xh h ar) r)/\Xk w2 (λ b=>w1.heap.size<=b/\b≠g9) ar (.slice a n c)/\r.length<rest.length)\/(ok=false/\Ps .ex rest (.bad r))):=Xj hI.o.2
 clear hm2 hjb hs2 ho2 hg9 hwh hI HM1 HS1 HR1
 cases ok
 ·have HBD:Xq (Qs .st ts (.bad r)):=Xj (by
   rcases HRS.o with⟨h1,_⟩|⟨_,h1⟩
   ·cases h1
   exact Qs.cho_bad HH.o.1 h1)
  obtain⟨y0,y1,y2,y3,y4,y5⟩:=HR2.o.cells
  obtain⟨g0,g1,g2,g3,g4,g5⟩:=HR2.o.froz
  have hlR:=HR2.o.lt
  obtain⟨s0,s1,s2,s3,s4,s5⟩:=HS2.o.cells
  have hlS:=HS2.o.lt
  go_wp2_with fail
  have hZ:=Qx (ts:=ts) (m:=rest.length) HM2.o HR2.o (show w.heap.size<=gR by have:=HGR.o;omega) (HLE.o) k ln [] (some ⟨g9,0,none⟩) (0+1) c9 none 0 0 none 0 0 false (.inr ⟨rfl,HBD.o⟩)
  obtain⟨wz,hwz⟩:∃ W,set6 w2 gR (.int .i64 k) (.int .i64 ln) (.string (st [])) (.slice (some ⟨g9,0,none⟩) (0+1) c9) (.slice none 0 0) (.slice none 0 0)=W:=⟨_,rfl⟩
  have hY:=hwz
  unfold set6 at hY
  (try rw[hY])
  obtain⟨hd,hep⟩:=hZ wz hwz.symm
  obtain⟨d0,d1,d2,d3,d4,d5⟩:=hd.cells
  clear hZ
  refine bodyPost_ret (v:=.tuple #[stv k ln [] (.slice (some ⟨g9,0,none⟩) (0+1) c9) (.slice none 0 0) (.slice none 0 0),.bool false]) (by simp[results,Tryz.results191,go_sem,d0,d1,d2,d3,d4,d5]) rfl ?_
  exact hep
 obtain⟨ar,hps,har,hlt⟩:∃ ar,Ps .ex rest (.ok (Xh h ar) r)/\Xk w2 (λ b=>w1.heap.size<=b/\b≠g9) ar (.slice a n c)/\r.length<rest.length:=by
  rcases HRS.o with⟨_,h1⟩|⟨h1,_⟩
  ·exact h1
  cases h1
 have HPS:=Xj hps
 have HLT:=Xj hlt
 have HAX:Xq (Xk w2 (λ b=>w.heap.size<=b/\b≠gR/\b≠gs) (Xh h ar) (.slice (some ⟨g9,0,none⟩) (0+1) c9)):=Xj (Xk.of_own (e:=37) (size:=6) (base:=w.heap.size) (F:=Xh h ar) HO2.o (Xk.one (Xc har (λ b hb _=>⟨by have:=HZ1.o;have:=HGR.o;omega,by have:=HZ1.o;have:=HGR.o;omega,by have:=HZ1.o;omega⟩))) (λ b hb=>by have hb2:some g9=some b:=hb;injection hb2 with hb2;have:=HG9.o;have:=HGR.o;omega))
 clear hps har hlt HRS
 go_wp2_with fail
 refine(HB.o K at2 r w2 HM2.o.pat (by have:=HLT.o;have:=HMm.o;omega)).mono ?_
 rintro e w3 ⟨ta,tn,tc,ok3,at3,r3,rfl,hp3,hvu,hg3,hqf⟩
 have hgl:=HM2.o.gl
 have hgr:w.heap.size<=gs/\gs<=w.heap.size/\gs<gR/\gR<=gs+1:=by have:=HGR.o;omega
 have HM3:=Xj (HM2.o.call hp3 hg3)
 have HS3:=Xj (HS2.o.grw hg3 (by intro e;injection e with e;omega))
 have HR3:=Xj (HR2.o.grw hg3 (by intro e;injection e with e;omega))
 have HAX3:=Xj (Zq HAX.o hg3 (λ b hb=>by have:=hb.1;omega))
 have hzz:Xq (r3.length<=rest.length/\r3.length<rest.length):=Xj ⟨by have:=HLT.o;omega,by have:=HLT.o;omega⟩
 have HRS3:Xq ((ok3=true/\∃ S,Qs .bl r (.ok S r3)/\Xl w3 (λ b=>w.heap.size<=b/\b≠gR/\b≠gs) S (.slice ta tn tc))\/(ok3=false/\Qs .bl r (.bad r3))):=Xj (by
  rcases hqf.o with⟨e1,S,e2,e3⟩|hr
  ·exact .inl ⟨e1,S,e2,Zj e3 (λ b hb _=>by have:=HG9.o.2;have:=HZ1.o;exact⟨by omega,by omega,by omega⟩)⟩
  exact .inr hr)
 clear hp3 hg3 hvu hqf HM2 HS2 HR2 HO2 HAX
 obtain⟨s0,s1,s2,s3,s4,s5⟩:=HS3.o.cells
 obtain⟨j0,j1,j2,j3,j4,j5⟩:=HS3.o.froz
 have hlS:=HS3.o.lt
 have HM4:=Xj (HM3.o.sc (p:=⟨gs,4,none⟩) (by show w.heap.size<=gs;omega) (.slice ta tn tc))
 have HS4:=Xj (HS3.o.sth (.slice ta tn tc))
 have HR4:=Xj (HR3.o.s1 (p:=⟨gs,4,none⟩) (v:=.slice ta tn tc) (by show gR≠gs;omega))
 have huh:=Xj (Qh (p:=⟨gs,4,none⟩) (v:=.slice ta tn tc) HAX3.o (λ b hb=>hb.2.2))
 have hul:Xq ((ok3=true/\∃ S,Qs .bl r (.ok S r3)/\Xl (w3.setCell ⟨gs,4,none⟩ (.slice ta tn tc)) (λ b=>w.heap.size<=b/\b≠gR/\b≠gs) S (.slice ta tn tc))\/(ok3=false/\Qs .bl r (.bad r3))):=Xj (by
  rcases HRS3.o with⟨e1,S,e2,e3⟩|hr
  ·exact .inl ⟨e1,S,e2,Wh e3 (λ b hb=>hb.2.2)⟩
  exact .inr hr)
 go_upto_region 5 with fail
 obtain⟨w4,hw4⟩:∃ W,w3.setCell ⟨gs,4,none⟩ (.slice ta tn tc)=W:=⟨_,rfl⟩
 (try rw[hw4])
 rw[hw4] at HM4 HS4 HR4 huh hul
 clear hw4 s0 s1 s2 s3 s4 s5 j0 j1 j2 j3 j4 j5 hlS HM3 HS3 HR3 HAX3 HRS3
 cases ok3
 ·have HBD:Xq (Qs .st ts (.bad r3)):=Xj (by
   rcases hul.o with⟨h1,_⟩|⟨_,h1⟩
   ·cases h1
   exact Qs.cho_bl HH.o.1 HPS.o h1)
  obtain⟨y0,y1,y2,y3,y4,y5⟩:=HR4.o.cells
  obtain⟨g0,g1,g2,g3,g4,g5⟩:=HR4.o.froz
  have hlR:=HR4.o.lt
  obtain⟨s0,s1,s2,s3,s4,s5⟩:=HS4.o.cells
  have hlS:=HS4.o.lt
  go_wp2_with fail
  have hZ:=Qx (ts:=ts) (m:=rest.length) HM4.o HR4.o (show w.heap.size<=gR by have:=HGR.o;omega) (hzz.o.1) k ln [] (some ⟨g9,0,none⟩) (0+1) c9 ta tn tc none 0 0 false (.inr ⟨rfl,HBD.o⟩)
  obtain⟨wz,hwz⟩:∃ W,set6 w4 gR (.int .i64 k) (.int .i64 ln) (.string (st [])) (.slice (some ⟨g9,0,none⟩) (0+1) c9) (.slice ta tn tc) (.slice none 0 0)=W:=⟨_,rfl⟩
  have hY:=hwz
  unfold set6 at hY
  (try rw[hY])
  obtain⟨hd,hep⟩:=hZ wz hwz.symm
  obtain⟨d0,d1,d2,d3,d4,d5⟩:=hd.cells
  clear hZ
  refine bodyPost_ret (v:=.tuple #[stv k ln [] (.slice (some ⟨g9,0,none⟩) (0+1) c9) (.slice ta tn tc) (.slice none 0 0),.bool false]) (by simp[results,Tryz.results191,go_sem,d0,d1,d2,d3,d4,d5]) rfl ?_
  exact hep
 obtain⟨th,hth,hta⟩:∃ S,Qs .bl r (.ok S r3)/\Xl w4 (λ b=>w.heap.size<=b/\b≠gR/\b≠gs) S (.slice ta tn tc):=by
  rcases hul.o with⟨_,h1⟩|⟨h1,_⟩
  ·exact h1
  cases h1
 have HTH:=Xj hth
 have HTA:=Xj hta
 clear hth hta hul
 cases hk4:(k==4)
 ·have HOK:Xq (Qs .st ts (.ok (Zd k ln [] (Xh h ar) th .nil) r3)):=Xj (by
   have:=Qs.cho_one HH.o.1 HPS.o HTH.o (λ e=>by rw[e.1] at hk4;cases hk4)
   rw[HH.o.2] at this
   exact this)
  obtain⟨y0,y1,y2,y3,y4,y5⟩:=HR4.o.cells
  obtain⟨g0,g1,g2,g3,g4,g5⟩:=HR4.o.froz
  have hlR:=HR4.o.lt
  obtain⟨s0,s1,s2,s3,s4,s5⟩:=HS4.o.cells
  have hlS:=HS4.o.lt
  go_wp2_with fail
  have hZ:=Qx (ts:=ts) (m:=rest.length) HM4.o HR4.o (show w.heap.size<=gR by have:=HGR.o;omega) (hzz.o.1) k ln [] (some ⟨g9,0,none⟩) (0+1) c9 ta tn tc none 0 0 true (.inl ⟨rfl,_,th,.nil,HOK.o,Xc huh.o (λ b hb _=>⟨hb.1,hb.2.1⟩),Zj HTA.o (λ b hb _=>⟨hb.1,hb.2.1⟩),Xl.nil _ _,by have:=hzz.o;have:=HTS.o;omega⟩)
  obtain⟨wz,hwz⟩:∃ W,set6 w4 gR (.int .i64 k) (.int .i64 ln) (.string (st [])) (.slice (some ⟨g9,0,none⟩) (0+1) c9) (.slice ta tn tc) (.slice none 0 0)=W:=⟨_,rfl⟩
  have hY:=hwz
  unfold set6 at hY
  (try rw[hY])
  obtain⟨hd,hep⟩:=hZ wz hwz.symm
  obtain⟨d0,d1,d2,d3,d4,d5⟩:=hd.cells
  clear hZ
  refine bodyPost_ret (v:=.tuple #[stv k ln [] (.slice (some ⟨g9,0,none⟩) (0+1) c9) (.slice ta tn tc) (.slice none 0 0),.bool true]) (by simp[results,Tryz.results191,go_sem,d0,d1,d2,d3,d4,d5]) rfl ?_
  exact hep
 have hk44:k=4:=by simpa using hk4
 subst hk44
 obtain⟨s0,s1,s2,s3,s4,s5⟩:=HS4.o.cells
 have hlS:=HS4.o.lt
 go_wp2_with fail
 refine(Yj K at3 r3 [101,108,115,101] _ HM4.o.pat).mono ?_
 rintro e w5 ⟨at5,r5,rfl,hp5,hg5,hc5⟩
 have HM5:=Xj (HM4.o.call hp5 hg5)
 have HS5:=Xj (HS4.o.grw hg5 (by intro e;injection e with e;omega))
 have HR5:=Xj (HR4.o.grw hg5 (by intro e;injection e with e;omega))
 have hcy:=Xj (Zq huh.o hg5 (λ b hb=>by have:=hb.1;omega))
 have hcu:=Xj (Mt HTA.o hg5 (λ b hb=>by have:=hb.1;omega))
 clear hp5 hg5 HM4 HS4 HR4 huh HTA s0 s1 s2 s3 s4 s5 hlS hk4
 rcases hc5 with⟨hT,rfl,rfl⟩|⟨hT,rfl,rfl⟩
 rotate_left
 ·have HOK:Xq (Qs .st ts (.ok (Zd 4 ln [] (Xh h ar) th .nil) r5)):=Xj (by
   have:=Qs.cho_one HH.o.1 HPS.o HTH.o (λ e=>by have:=e.2;rw[hT] at this;cases this)
   rw[HH.o.2] at this
   exact this)
  (try rw[hT])
  clear hT
  obtain⟨y0,y1,y2,y3,y4,y5⟩:=HR5.o.cells
  obtain⟨g0,g1,g2,g3,g4,g5⟩:=HR5.o.froz
  have hlR:=HR5.o.lt
  obtain⟨s0,s1,s2,s3,s4,s5⟩:=HS5.o.cells
  have hlS:=HS5.o.lt
  go_wp2_with fail
  have hZ:=Qx (ts:=ts) (m:=rest.length) HM5.o HR5.o (show w.heap.size<=gR by have:=HGR.o;omega) (hzz.o.1) 4 ln [] (some ⟨g9,0,none⟩) (0+1) c9 ta tn tc none 0 0 true (.inl ⟨rfl,_,th,.nil,HOK.o,Xc hcy.o (λ b hb _=>⟨hb.1,hb.2.1⟩),Zj hcu.o (λ b hb _=>⟨hb.1,hb.2.1⟩),Xl.nil _ _,by have:=hzz.o;have:=HTS.o;omega⟩)
  obtain⟨wz,hwz⟩:∃ W,set6 w5 gR (.int .i64 4) (.int .i64 ln) (.string (st [])) (.slice (some ⟨g9,0,none⟩) (0+1) c9) (.slice ta tn tc) (.slice none 0 0)=W:=⟨_,rfl⟩
  have hY:=hwz
  unfold set6 at hY
  (try rw[hY])
  obtain⟨hd,hep⟩:=hZ wz hwz.symm
  obtain⟨d0,d1,d2,d3,d4,d5⟩:=hd.cells
  clear hZ
  refine bodyPost_ret (v:=.tuple #[stv 4 ln [] (.slice (some ⟨g9,0,none⟩) (0+1) c9) (.slice ta tn tc) (.slice none 0 0),.bool true]) (by simp[results,Tryz.results191,go_sem,d0,d1,d2,d3,d4,d5]) rfl ?_
  exact hep
 have HT:=Xj hT
 (try rw[hT])
 clear hT
 have HRT:Xq (r3.tail.length<r3.length):=Xj (Jv (by intro e;have:=HT.o;rw[e] at this;cases this))
 go_wp2_with fail
 refine(HB.o K (at3+1) r3.tail w5 HM5.o.pat (by have:=hzz.o.2;have:=HRT.o;have:=HMm.o;omega)).mono ?_
 rintro e w6 ⟨ea,en,ec,ok6,at6,r6,rfl,hp6,hxh,hg6,hqq⟩
 have HM6:=Xj ((HM5.o.call hp6 hg6).sc (p:=⟨gs,5,none⟩) (by show w.heap.size<=gs;omega) (.slice ea en ec))
 have hyf:=Xj (HS5.o.grw hg6 (by intro e;injection e with e;omega))
 have HS6:=Xj (hyf.o.sel (.slice ea en ec))
 have HR6:=Xj ((HR5.o.grw hg6 (by intro e;injection e with e;omega)).s1 (p:=⟨gs,5,none⟩) (v:=.slice ea en ec) (by show gR≠gs;omega))
 have HAX6:=Xj (Qh (p:=⟨gs,5,none⟩) (v:=.slice ea en ec) (Zq hcy.o hg6 (λ b hb=>by have:=hb.1;omega)) (λ b hb=>hb.2.2))
 have HTA6:=Xj (Wh (p:=⟨gs,5,none⟩) (v:=.slice ea en ec) (Mt hcu.o hg6 (λ b hb=>by have:=hb.1;omega)) (λ b hb=>hb.2.2))
 have hzn:Xq (r6.length<=rest.length):=Xj (by have:=hzz.o.2;have:=HRT.o;omega)
 have HRS6:Xq ((ok6=true/\∃ el,Qs .st ts (.ok (Zd 4 ln [] (Xh h ar) th el) r6)/\Xl (w6.setCell ⟨gs,5,none⟩ (.slice ea en ec)) (λ b=>w.heap.size<=b/\b≠gR) el (.slice ea en ec))\/(ok6=false/\Qs .st ts (.bad r6))):=Xj (by
  have hz:=HM5.o.gr.size
  have hr:=HR5.o.lt
  have hsl:=HS5.o.lt
  rcases hqq.o with⟨e1,S,e2,e3⟩|⟨e1,e2⟩
  ·refine .inl ⟨e1,S,?_,?_⟩
   ·have:=Qs.cho_two HH.o.1 HPS.o HTH.o ⟨rfl,HT.o⟩ e2
    rw[HH.o.2] at this
    exact this
   exact Zj (Wh (p:=⟨gs,5,none⟩) (v:=.slice ea en ec) e3 (λ b hb=>by show b≠gs;omega)) (λ b hb _=>⟨by omega,by omega⟩)
  exact .inr ⟨e1,Qs.cho_two_bad HH.o.1 HPS.o HTH.o ⟨rfl,HT.o⟩ e2⟩)
 clear hp6 hg6 hxh hqq HM5 HS5 HR5 hcy hcu
 obtain⟨s0,s1,s2,s3,s4,s5⟩:=hyf.o.cells
 obtain⟨j0,j1,j2,j3,j4,j5⟩:=hyf.o.froz
 have hlS:=hyf.o.lt
 go_upto_region 9 with fail
 obtain⟨w7,hw7⟩:∃ W,w6.setCell ⟨gs,5,none⟩ (.slice ea en ec)=W:=⟨_,rfl⟩
 (try rw[hw7])
 rw[hw7] at HM6 HS6 HR6 HAX6 HTA6 HRS6
 clear hw7 s0 s1 s2 s3 s4 s5 j0 j1 j2 j3 j4 j5 hlS hyf
 obtain⟨y0,y1,y2,y3,y4,y5⟩:=HR6.o.cells
 obtain⟨g0,g1,g2,g3,g4,g5⟩:=HR6.o.froz
 have hlR:=HR6.o.lt
 obtain⟨s0,s1,s2,s3,s4,s5⟩:=HS6.o.cells
 have hlS:=HS6.o.lt
 go_wp2_with fail
 have hZ:=Qx (ts:=ts) (m:=rest.length) HM6.o HR6.o (show w.heap.size<=gR by have:=HGR.o;omega) (hzn.o) 4 ln [] (some ⟨g9,0,none⟩) (0+1) c9 ta tn tc ea en ec ok6 (by
  rcases HRS6.o with⟨e1,el,e2,e3⟩|⟨e1,e2⟩
  ·exact .inl ⟨e1,_,th,el,e2,Xc HAX6.o (λ b hb _=>⟨hb.1,hb.2.1⟩),Zj HTA6.o (λ b hb _=>⟨hb.1,hb.2.1⟩),e3,by have:=hzn.o;have:=HTS.o;omega⟩
  exact .inr ⟨e1,e2⟩)
 obtain⟨wz,hwz⟩:∃ W,set6 w7 gR (.int .i64 4) (.int .i64 ln) (.string (st [])) (.slice (some ⟨g9,0,none⟩) (0+1) c9) (.slice ta tn tc) (.slice ea en ec)=W:=⟨_,rfl⟩
 have hY:=hwz
 unfold set6 at hY
 (try rw[hY])
 obtain⟨hd,hep⟩:=hZ wz hwz.symm
 obtain⟨d0,d1,d2,d3,d4,d5⟩:=hd.cells
 clear hZ
 refine bodyPost_ret (v:=.tuple #[stv 4 ln [] (.slice (some ⟨g9,0,none⟩) (0+1) c9) (.slice ta tn tc) (.slice ea en ec),.bool ok6]) (by simp[results,Tryz.results191,go_sem,d0,d1,d2,d3,d4,d5]) rfl ?_
 exact hep
def CSt (m:Nat):Prop:=∀ (K:PC) (at_:Nat) (rest:List Tk) (w:World),PAt w K at_ rest->rest.length<=m->Calls Tryz.prog 171 #[.pointer (some ⟨K.g,0,none⟩)] w (StQ K rest rest.length w)
structure BI (K:PC) (w:World) (rest:List Tk) (a3:Option Addr) (n3 c3:Nat) (xs:List Value) (S:Sf) (at3:Nat) (r3:List Tk) (wr:World):Prop where
 ms:MS K w wr at3 r3
 own:wr.ownsRow w.heap.size 110 6 (.slice a3 n3 c3) n3 xs
 sf:Zz wr (λ b=>w.heap.size<=b/\some b≠(Value.slice a3 n3 c3).ownBlock) S xs
 len:S.len=n3
 n:n3<=at3
 le:r3.length<rest.length
 co:∀ z,Qs (.bk S) r3 z->Qs .bl rest z
theorem Rm {w w':World} {P:Nat->Prop} {S:Sf} {xs:List Value} {g:Nat} (h:Zz w P S xs) (hg:w.grownBy w' (some g)) (hP:∀ b,P b->b≠g):Zz w' P S xs:=h.keep (λ b hb hlt=>⟨hg.block b hlt (λ e=>by injection e with e;exact hP b hb e),hb⟩) hg.size
theorem Tj (m:Nat) (hS:∀ j,j<m->CSt j):CBl m:=by
 intro K at_ rest w hP hm
 have HM1:=Xj (MS.init hP)
 have HMm:=Xj hm
 have HST:Xq (∀ (w2:World) (at2:Nat) (r:List Tk),PAt w2 K at2 r->r.length<rest.length->Calls Tryz.prog 171 #[.pointer (some ⟨K.g,0,none⟩)] w2 (StQ K r r.length w2)):=Xj (λ w2 at2 r hp hl=>hS r.length (by omega) K at2 r w2 hp (Nat.le_refl _))
 clear hS hP hm
 go_enter Tryz.func147,Tryz.ntmps147
 go_wp2_with fail
 refine(Yj K at_ rest [123] _ HM1.o.pat).mono ?_
 rintro e w2 ⟨at2,r2,rfl,hp2,hg2,hc2⟩
 have HM2:=Xj (HM1.o.call hp2 hg2)
 clear hp2 hg2
 rcases hc2 with⟨hT,rfl,rfl⟩|⟨hT,rfl,rfl⟩
 rotate_left
 ·have HT:=Xj hT
  (try rw[hT])
  clear hT
  go_wp2_with fail
  refine bodyPost_ret (v:=.tuple #[.slice none 0 0,.bool false]) (by simp[results,Tryz.results147,go_sem]) rfl ?_
  exact⟨none,0,0,false,_,_,rfl,HM2.o.pat,Nat.le_refl _,HM2.o.gr,Xj (.inr ⟨rfl,Qs.bl_no HT.o⟩)⟩
 have HT:=Xj hT
 (try rw[hT])
 clear hT
 have HRT:Xq (rest.tail.length<rest.length):=Xj (Jv (by intro e;have:=HT.o;rw[e] at this;cases this))
 have HI0:Xq (BI K w rest none 0 0 [] .nil (at_+1) rest.tail w2):=Xj ⟨HM2.o,World.ownsRow_nil _ _ _ _,rfl,rfl,by omega,HRT.o,λ z hz=>Qs.bl_ok HT.o hz⟩
 go_upto_block 0 with fail
 go_wp2_with fail
 go_loopw [4] (λ v4 wr=>∃ (a3:Option Addr) (n3 c3:Nat) (xs:List Value) (S:Sf) (at3:Nat) (r3:List Tk),v4=.slice a3 n3 c3/\Xq (BI K w rest a3 n3 c3 xs S at3 r3 wr)) (λ _ wr=>K.ts.length-natAt wr K.g)
 case atStart=>exact⟨none,0,0,[],.nil,at_+1,rest.tail,rfl,HI0⟩
 rename World=>wa
 obtain⟨a3,n3,c3,xs,S,at3,r3,rfl,HI⟩:=hrel
 go_wp2_with fail
 refine(Yj K at3 r3 [125] _ HI.o.ms.pat).mono ?_
 rintro e w4 ⟨at4,r4,rfl,hp4,hg4,hc4⟩
 have hgl:=HI.o.ms.gl
 have HM4:=Xj (HI.o.ms.call hp4 hg4)
 have HO4:=Xj (Yz HI.o.own hg4 hgl)
 have HF4:=Xj (Rm HI.o.sf hg4 (λ b hb=>by have:=hb.1;omega))
 clear hp4 hg4
 rcases hc4 with⟨hT3,rfl,rfl⟩|⟨hT3,rfl,rfl⟩
 ·have HT3:=Xj hT3
  (try rw[hT3])
  clear hT3
  have hzw:Xq (r3.tail.length<=r3.length):=Xj (by simp)
  go_wp2_with fail
  refine bodyPost_ret (v:=.tuple #[.slice a3 n3 c3,.bool true]) (by simp[results,Tryz.results147,go_sem]) rfl ?_
  refine⟨a3,n3,c3,true,_,_,rfl,HM4.o.pat,by have:=hzw.o;have:=HI.o.le;omega,HM4.o.gr,Xj (.inl ⟨rfl,S,HI.o.co _ (Qs.bk_end HT3.o),?_⟩)⟩
  exact Xl.of_own (e:=110) (size:=6) (base:=w.heap.size) (by rw[HI.o.len];exact HO4.o) (HF4.o.keep (λ b hb _=>⟨rfl,hb.1⟩) (Nat.le_refl _)) (λ b hb=>(HO4.o.lt b hb).1)
 have HT3:=Xj hT3
 (try rw[hT3])
 clear hT3
 go_wp2_with fail
 refine(HST.o w4 at4 r4 HM4.o.pat HI.o.le).mono ?_
 rintro e w5 ⟨k,ln,nm,ax,nx,cx,ta,tn,tc,ea,en,ec,ok,at5,r5,rfl,hp5,hqd,hg5,hju⟩
 have HM5:=Xj ((HM4.o.call hp5 hg5).al (.cells (scs k ln nm (.slice ax nx cx) (.slice ta tn tc) (.slice ea en ec)) 110))
 have HS5:=Xj (Ls.new w5 k ln nm (.slice ax nx cx) (.slice ta tn tc) (.slice ea en ec))
 have HO5:=Xj ((Yz HO4.o hg5 hgl).alloc (.cells (scs k ln nm (.slice ax nx cx) (.slice ta tn tc) (.slice ea en ec)) 110))
 have HF5:=Xj ((Rm HF4.o hg5 (λ b hb=>by have:=hb.1;omega)).keep (Q:=λ b=>w.heap.size<=b/\some b≠(Value.slice a3 n3 c3).ownBlock) (λ b hb hlt=>⟨Below.heap_alloc w5 (.cells (scs k ln nm (.slice ax nx cx) (.slice ta tn tc) (.slice ea en ec)) 110) b hlt,hb⟩) (by simp))
 have hvp:Xq ((ok=true/\∃ xs th el,Qs .st r4 (.ok (Zd k ln nm xs th el) r5)/\Zz (w5.alloc (.cells (scs k ln nm (.slice ax nx cx) (.slice ta tn tc) (.slice ea en ec)) 110)) (λ b=>w.heap.size<=b/\some b≠(Value.slice a3 n3 c3).ownBlock) (Zd k ln nm xs th el) (stc k ln nm (.slice ax nx cx) (.slice ta tn tc) (.slice ea en ec))/\r5.length<r4.length)\/(ok=false/\Qs .st r4 (.bad r5))):=Xj (by
  rcases hju.o with⟨e1,xs,th,el,e2,e3,e4,e5,e6⟩|hr
  ·refine .inl ⟨e1,xs,th,el,e2,(Zz.one e3 e4 e5).keep (λ b hb hlt=>⟨Below.heap_alloc w5 _ b hlt,by have:=HM4.o.gr.size;omega,λ e=>by have:=(HO4.o.lt b e.symm).2;omega⟩) (by simp),e6⟩
  exact .inr hr)
 have hxb:=Xj hqd
 clear hju hp5 hg5 hqd HO4 HF4
 go_upto_region 6 with fail
 obtain⟨w6,hw6⟩:∃ W,w5.alloc (.cells (scs k ln nm (.slice ax nx cx) (.slice ta tn tc) (.slice ea en ec)) 110)=W:=⟨_,rfl⟩
 obtain⟨gy,hgy⟩:∃ x,w5.heap.size=x:=⟨_,rfl⟩
 (try rw[show w5.alloc (.cells #[.int .i64 k,.int .i64 ln,.string (st nm),.slice ax nx cx,.slice ta tn tc,.slice ea en ec] 110)=w6 from hw6])
 rw[hw6] at HM5 HS5 HO5 HF5 hvp
 rw[hgy] at HS5
 (try rw[hgy])
 clear hw6 hgy
 cases ok
 ·have HBD:Xq (Qs .bl rest (.bad r5)):=Xj (by
   rcases hvp.o with⟨h1,_⟩|⟨_,h1⟩
   ·cases h1
   exact HI.o.co _ (Qs.bk_bad HT3.o h1))
  go_wp2_with fail
  refine bodyPost_ret (v:=.tuple #[.slice none 0 0,.bool false]) (by simp[results,Tryz.results147,go_sem]) rfl ?_
  exact⟨none,0,0,false,_,_,rfl,HM5.o.pat,by have:=hxb.o;have:=HI.o.le;omega,HM5.o.gr,Xj (.inr ⟨rfl,HBD.o⟩)⟩
 obtain⟨x1,t1,e1,hps,hsf,hlt⟩:∃ xs th el,Qs .st r4 (.ok (Zd k ln nm xs th el) r5)/\Zz w6 (λ b=>w.heap.size<=b/\some b≠(Value.slice a3 n3 c3).ownBlock) (Zd k ln nm xs th el) (stc k ln nm (.slice ax nx cx) (.slice ta tn tc) (.slice ea en ec))/\r5.length<r4.length:=by
  rcases hvp.o with⟨_,h1⟩|⟨h1,_⟩
  ·exact h1
  cases h1
 have HPS:=Xj hps
 have HSF:=Xj hsf
 have HLT:=Xj hlt
 clear hps hsf hlt hvp
 obtain⟨s0,s1,s2,s3,s4,s5⟩:=HS5.o.cells
 have hlS:=HS5.o.lt
 have hqp:=HM5.o.gr.size
 have hn3:n3<=100000:=by have:=HI.o.n;have:=HI.o.ms.pat.lt;have:=HI.o.ms.pat.n;omega
 obtain⟨i0,hi0,hz0,hz1,hz2⟩:=info_parts Tryz.infoStmt
 have HIF:=Xj hi0
 have HZ0:=Xj hz0
 have HZ1:=Xj hz1
 have HZ2:=Xj hz2
 clear hi0 hz0 hz1 hz2
 have HOA:=Xj (HO5.o.alloc (.cells (scs k ln nm (.slice ax nx cx) (.slice ta tn tc) (.slice ea en ec)) 110))
 go_wp2_with (at_builtin;refine wpList_append_lies _ rfl _ _ _ rfl w.heap.size 110 i0 _ 6 104 Tryz.underlying61 HIF.o HZ0.o HZ1.o HZ2.o rfl (by omega) _ _ _ rfl HOA.o ⟨w6.heap.size,0,none⟩ 1 1 (stc k ln nm (.slice ax nx cx) (.slice ta tn tc) (.slice ea en ec)) rfl rfl (World.news_of_block (cs:=(stc k ln nm (.slice ax nx cx) (.slice ta tn tc) (.slice ea en ec)).toArray) (t:=110) (fr:=(0,0)) (heap_alloc_new w6 _)) (by simp[Value.oneCell']) (by omega) (by unfold maxLen;omega) (by omega) (by simp;omega) _ rfl ?_;intro g9 c9 w9 hown9 hgrow9 Ho hlt9;have HO9:=Xj hown9;have HG9:=Xj hgrow9;have HR9:=Xj Ho;clear hown9 hgrow9 Ho hlt9)
 have HN9:Xq (BI K w rest (some ⟨g9,0,none⟩) (n3+1) c9 (xs++stc k ln nm (.slice ax nx cx) (.slice ta tn tc) (.slice ea en ec)) (S.app (Zd k ln nm x1 t1 e1)) at5 r5 w9):=Xj (by
  have hsA:∀ o:Obj,(w6.alloc o).heap.size=w6.heap.size+1:=λ o=>by simp
  have hs9:=HG9.o.size
  rw[hsA] at hs9
  have key:∀ b,(w.heap.size<=b/\some b≠(Value.slice a3 n3 c3).ownBlock)->b<w6.heap.size->w9.heap[b]?=w6.heap[b]?/\(w.heap.size<=b/\some b≠(Value.slice (some ⟨g9,0,none⟩) (n3+1) c9).ownBlock):=λ b hb hlt =>
   ⟨(HG9.o.block b (by rw[hsA];omega) hb.2).trans (Below.heap_alloc w6 _ b hlt),hb.1,by
    show some b≠some g9
    rcases HR9.o with e|e
    ·rw[<- e];exact hb.2
    rw[hsA] at e;simp;omega⟩
  refine⟨(HM5.o.al _).own HG9.o (λ k2 e=>(HO5.o.lt k2 e).1),HO9.o,Zz.app (HF5.o.keep key (by omega)) (HSF.o.keep key (by omega)),by rw[Sf.len_app,HI.o.len];rfl,?_,?_,λ z hz=>HI.o.co z (Qs.bk_ok HT3.o HPS.o hz)⟩
  ·have h1:=HM5.o.pat.lt.2
   have h2:=HM4.o.pat.lt.2
   have h3:=HLT.o
   have h4:=HI.o.n
   omega
  have:=HLT.o;have:=HI.o.le;omega)
 go_roundw
 case rel=>exact⟨some ⟨g9,0,none⟩,n3+1,c9,_,_,at5,r5,rfl,HN9⟩
 have h1:=HN9.o.ms.pat.natAt
 have h2:=HI.o.ms.pat.natAt
 have h3:=HN9.o.ms.pat.lt
 have h4:=HM4.o.pat.lt.2
 have h5:=HLT.o
 rw[h1,h2]
 omega
def xjl (K:PC) (at_:Nat) (bad:Bool) (ts:List Tk) (w:World) (e:Ending) (w':World):Prop :=
 ∃ (k ln:Int) (nm:Bt) (ax:Option Addr) (nx cx:Nat) (ta:Option Addr) (tn tc:Nat) (ea:Option Addr) (en ec:Nat) (bad2:Bool) (at2:Nat) (r:List Tk),
  e=.returned (stv k ln nm (.slice ax nx cx) (.slice ta tn tc) (.slice ea en ec))/\RAt w' K at2 bad2 r/\r.length<=ts.length/\w.grownBy w' (some K.g) /\
  Xq ((bad=false/\bad2=false/\∃ xs th el,Qs .st ts (.ok (Zd k ln nm xs th el) r)/\Xk w' (λ b=>w.heap.size<=b) xs (.slice ax nx cx)/\Xl w' (λ b=>w.heap.size<=b) th (.slice ta tn tc)/\Xl w' (λ b=>w.heap.size<=b) el (.slice ea en ec)/\r.length<ts.length)\/(bad=false/\bad2=true/\Qs .st ts (.bad r))\/(bad=true/\bad2=true/\at2=at_/\r=ts))
def xjs (K:PC) (at_:Nat) (bad:Bool) (rest:List Tk) (w:World) (e:Ending) (w':World):Prop :=
 ∃ (a:Option Addr) (n c:Nat) (bad2:Bool) (at2:Nat) (r:List Tk),e=.returned (.slice a n c)/\RAt w' K at2 bad2 r/\r.length<=rest.length/\w.grownBy w' (some K.g) /\
  Xq ((bad=false/\bad2=false/\∃ S,Qs .bl rest (.ok S r)/\Xl w' (λ b=>w.heap.size<=b) S (.slice a n c)/\r.length<rest.length)\/(bad=false/\bad2=true/\Qs .bl rest (.bad r))\/(bad=true/\bad2=true/\at2=at_/\r=rest))
def xjr (m:Nat):Prop:=∀ (K:PC) (at_:Nat) (bad:Bool) (rest:List Tk) (w:World),RAt w K at_ bad rest->mu bad rest<=m->Calls Tryz.prog 149 #[.pointer (some ⟨K.g,0,none⟩)] w (xjs K at_ bad rest w)
def xjn (m:Nat):Prop:=∀ (K:PC) (at_:Nat) (bad:Bool) (rest:List Tk) (w:World),RAt w K at_ bad rest->mu bad rest<=m->Calls Tryz.prog 172 #[.pointer (some ⟨K.g,0,none⟩)] w (xjl K at_ bad rest w)
def badAt (w:World) (g:Nat):Nat:=match w.cell? ⟨g,2,none⟩ with
 | some (.bool true)=>0
 | _=>1
theorem RAt.badAt {w:World} {K:PC} {at_:Nat} {bad:Bool} {rest:List Tk} (h:RAt w K at_ bad rest):Go.Proofs.YtldgghnjminhiaaGreatDoor.badAt w K.g=if bad=true then 0 else 1:=by
 unfold Go.Proofs.YtldgghnjminhiaaGreatDoor.badAt
 rw[h.cells.2.2.1]
 cases bad<;>rfl
structure RBI (K:PC) (w:World) (at_:Nat) (bad:Bool) (rest:List Tk) (a3:Option Addr) (n3 c3:Nat) (xs:List Value) (S:Sf) (at3:Nat) (bad3:Bool) (r3:List Tk) (wr:World):Prop where
 ms:RS K w wr at3 bad3 r3
 own:wr.ownsRow w.heap.size 110 6 (.slice a3 n3 c3) n3 xs
 n:n3<=at3+1-badAt wr K.g
 le:r3.length<=rest.length
 res:(bad=false/\bad3=false/\Zz wr (λ b=>w.heap.size<=b/\some b≠(Value.slice a3 n3 c3).ownBlock) S xs/\S.len=n3/\r3.length<rest.length/\(∀ z,Qs (.bk S) r3 z->Qs .bl rest z))\/(bad=false/\bad3=true/\Qs .bl rest (.bad r3))\/(bad=true/\bad3=true/\at3=at_/\r3=rest)
theorem Sr (m:Nat) (hS:∀ j,j<m->xjn j):xjr m:=by
 intro K at_ bad rest w hP hm
 have HM1:=Xj (RS.init hP)
 have HST:Xq (bad=false->∀ (w2:World) (at2:Nat) (r:List Tk),RAt w2 K at2 false r->r.length<rest.length->Calls Tryz.prog 172 #[.pointer (some ⟨K.g,0,none⟩)] w2 (xjl K at2 false r w2)):=Xj (λ hb w2 at2 r hp hl=>hS r.length (by rw[hb] at hm;have:rest.length<=m:=hm;omega) K at2 false r w2 hp (Nat.le_refl _))
 clear hS hP hm
 go_enter Tryz.func149,Tryz.ntmps149
 go_wp2_with fail
 refine(Qw K at_ bad rest [123] _ HM1.o.pat).mono ?_
 rintro e w2 ⟨at2,bad2,r2,rfl,hp2,hg2,hc2⟩
 have HM2:=Xj (HM1.o.call hp2 hg2)
 have HI0:Xq (RBI K w at_ bad rest none 0 0 [] .nil at2 bad2 r2 w2):=Xj (by
  refine⟨HM2.o,World.ownsRow_nil _ _ _ _,by omega,?_,?_⟩
  ·rcases hc2 with⟨_,_,_,_,e⟩|⟨_,_,_,e⟩<;>rw[e]
   ·simp
   exact Nat.le_refl _
  rcases hc2 with⟨h1,h2,h3,h4,h5⟩|⟨h1,h2,h3,h4⟩
  ·refine .inl ⟨h1,h2,rfl,rfl,?_,?_⟩
   ·rw[h5];exact Jv (by intro e;rw[e] at h3;cases h3)
   intro z hz;rw[h5] at hz;exact Qs.bl_ok h3 hz
  cases bad with
  | false=>exact .inr (.inl ⟨rfl,h2,by rw[h4];exact Qs.bl_no (by simpa using h1)⟩)
  | true=>exact .inr (.inr ⟨rfl,h2,h3,h4⟩))
 clear hp2 hg2 hc2
 go_upto_block 0 with fail
 go_wp2_with fail
 go_loopw [3] (λ v3 wr=>∃ (a3:Option Addr) (n3 c3:Nat) (xs:List Value) (S:Sf) (at3:Nat) (bad3:Bool) (r3:List Tk),v3=.slice a3 n3 c3/\Xq (RBI K w at_ bad rest a3 n3 c3 xs S at3 bad3 r3 wr)) (λ _ wr=>2*(K.ts.length-natAt wr K.g)+badAt wr K.g)
 case atStart=>exact⟨none,0,0,[],.nil,at2,bad2,r2,rfl,HI0⟩
 rename World=>wa
 obtain⟨a3,n3,c3,xs,S,at3,bad3,r3,rfl,HI⟩:=hrel
 obtain⟨-,-,p2,-,f2,hlp⟩:=HI.o.ms.pat.cells
 cases bad3
 ·obtain⟨rfl,-,hsf,He,hlt3,hco⟩:bad=false/\false=false/\Zz wa (λ b=>w.heap.size<=b/\some b≠(Value.slice a3 n3 c3).ownBlock) S xs/\S.len=n3/\r3.length<rest.length/\(∀ z,Qs (.bk S) r3 z->Qs .bl rest z):=by
   rcases HI.o.res with h|⟨_,h,_⟩|⟨_,h,_⟩
   ·exact h
   ·cases h
   cases h
  have HSF:=Xj hsf
  have hxn:=Xj He
  have hur:=Xj hlt3
  have HCO:=Xj hco
  clear hsf He hlt3 hco
  go_wp2_with fail
  refine(Yy K at3 false r3 [125] _ HI.o.ms.pat).mono ?_
  rintro e w4 ⟨at4,r4,rfl,hp4,hg4,hc4⟩
  have hgl:=HI.o.ms.gl
  have HM4:=Xj (HI.o.ms.call hp4 hg4)
  have HO4:=Xj (Yz HI.o.own hg4 hgl)
  have HF4:=Xj (Rm HSF.o hg4 (λ b hb=>by have:=hb.1;omega))
  clear hp4 hg4 p2 f2 hlp
  rcases hc4 with⟨_,hT3,rfl,rfl⟩|⟨hT3,rfl,rfl⟩
  ·have HT3:=Xj hT3
   (try rw[hT3])
   clear hT3
   have hzw:Xq (r3.tail.length<=r3.length):=Xj (by simp)
   go_wp2_with fail
   refine bodyPost_ret (v:=.slice a3 n3 c3) (by simp[results,Tryz.results149,go_sem]) rfl ?_
   refine⟨a3,n3,c3,false,_,_,rfl,HM4.o.pat,by have:=hzw.o;have:=hur.o;omega,HM4.o.gr,Xj (.inl ⟨rfl,rfl,S,HCO.o _ (Qs.bk_end HT3.o),?_,by have:=hzw.o;have:=hur.o;omega⟩)⟩
   exact Xl.of_own (e:=110) (size:=6) (base:=w.heap.size) (by rw[hxn.o];exact HO4.o) (HF4.o.keep (λ b hb _=>⟨rfl,hb.1⟩) (Nat.le_refl _)) (λ b hb=>(HO4.o.lt b hb).1)
  have HT3:Xq (isT [125] r4=false):=Xj (by simpa using hT3)
  (try rw[hT3])
  clear hT3
  go_wp2_with fail
  refine(HST.o (by first|rfl|trivial) w4 at4 r4 HM4.o.pat hur.o).mono ?_
  rintro e w5 ⟨k,ln,nm,ax,nx,cx,ta,tn,tc,ea,en,ec,bad5,at5,r5,rfl,hp5,hqd,hg5,hju⟩
  have HM5:=Xj (HM4.o.call hp5 hg5)
  have HO5:=Xj (Yz HO4.o hg5 hgl)
  have HF5:=Xj ((Rm HF4.o hg5 (λ b hb=>by have:=hb.1;omega)))
  have hvp:Xq ((bad5=false/\∃ xs th el,Qs .st r4 (.ok (Zd k ln nm xs th el) r5)/\Zz w5 (λ b=>w.heap.size<=b/\some b≠(Value.slice a3 n3 c3).ownBlock) (Zd k ln nm xs th el) (stc k ln nm (.slice ax nx cx) (.slice ta tn tc) (.slice ea en ec))/\r5.length<r4.length)\/(bad5=true/\Qs .st r4 (.bad r5))):=Xj (by
   rcases hju.o with⟨_,e1,xs,th,el,e2,e3,e4,e5,e6⟩|⟨_,e1,e2⟩|⟨e1,_⟩
   ·refine .inl ⟨e1,xs,th,el,e2,(Zz.one e3 e4 e5).keep (λ b hb hlt=>⟨rfl,by have:=HM4.o.gr.size;omega,λ e=>by have:=(HO4.o.lt b e.symm).2;omega⟩) (Nat.le_refl _),e6⟩
   ·exact .inr ⟨e1,e2⟩
   cases e1)
  have hxb:=Xj hqd
  clear hju hp5 hg5 hqd HO4 HF4
  have hqp:=HM5.o.gr.size
  have hn3:n3<=100000:=by have:=HI.o.n;have:=HI.o.ms.pat.badAt;have:=HI.o.ms.pat.lt;have:=HI.o.ms.pat.n;simp at *;omega
  obtain⟨i0,hi0,hz0,hz1,hz2⟩:=info_parts Tryz.infoStmt
  have HIF:=Xj hi0
  have HZ0:=Xj hz0
  have HZ1:=Xj hz1
  have HZ2:=Xj hz2
  clear hi0 hz0 hz1 hz2
  have HOA:=Xj (HO5.o.alloc (.cells (scs k ln nm (.slice ax nx cx) (.slice ta tn tc) (.slice ea en ec)) 110))
  go_wp2_with (at_builtin;refine wpList_append_lies _ rfl _ _ _ rfl w.heap.size 110 i0 _ 6 104 Tryz.underlying61 HIF.o HZ0.o HZ1.o HZ2.o rfl (by omega) _ _ _ rfl HOA.o ⟨w5.heap.size,0,none⟩ 1 1 (stc k ln nm (.slice ax nx cx) (.slice ta tn tc) (.slice ea en ec)) rfl rfl (World.news_of_block (cs:=(stc k ln nm (.slice ax nx cx) (.slice ta tn tc) (.slice ea en ec)).toArray) (t:=110) (fr:=(0,0)) (heap_alloc_new w5 _)) (by simp[Value.oneCell']) (by omega) (by unfold maxLen;omega) (by omega) (by simp;omega) _ rfl ?_;intro g9 c9 w9 hown9 hgrow9 Ho hlt9;have HO9:=Xj hown9;have HG9:=Xj hgrow9;have HR9:=Xj Ho;clear hown9 hgrow9 Ho hlt9)
  have HN9:Xq (∃ S9,RBI K w at_ false rest (some ⟨g9,0,none⟩) (n3+1) c9 (xs++stc k ln nm (.slice ax nx cx) (.slice ta tn tc) (.slice ea en ec)) S9 at5 bad5 r5 w9):=Xj (by
   have hsA:∀ o:Obj,(w5.alloc o).heap.size=w5.heap.size+1:=λ o=>by simp
   have hs9:=HG9.o.size
   rw[hsA] at hs9
   have key:∀ b,(w.heap.size<=b/\some b≠(Value.slice a3 n3 c3).ownBlock)->b<w5.heap.size->w9.heap[b]?=w5.heap[b]?/\(w.heap.size<=b/\some b≠(Value.slice (some ⟨g9,0,none⟩) (n3+1) c9).ownBlock):=λ b hb hlt =>
    ⟨(HG9.o.block b (by rw[hsA];omega) hb.2).trans (Below.heap_alloc w5 _ b hlt),hb.1,by
     show some b≠some g9
     rcases HR9.o with e|e
     ·rw[<- e];exact hb.2
     rw[hsA] at e;simp;omega⟩
   have ms9:=(HM5.o.al (.cells (scs k ln nm (.slice ax nx cx) (.slice ta tn tc) (.slice ea en ec)) 110)).own HG9.o (λ k2 e=>(HO5.o.lt k2 e).1)
   have hb9:=ms9.pat.badAt
   have hb3:=HI.o.ms.pat.badAt
   have hn:=HI.o.n
   have h1:=HM5.o.pat.lt.2
   have h2:=HM4.o.pat.lt.2
   have h4:=hxb.o
   have h5:=hur.o
   rcases hvp.o with⟨rfl,x1,t1,e1,k1,k2,k3⟩|⟨rfl,k1⟩
   ·refine⟨S.app (Zd k ln nm x1 t1 e1),ms9,HO9.o,?_,by omega,.inl ⟨rfl,rfl,Zz.app (HF5.o.keep key (by omega)) (k2.keep key (by omega)),by rw[Sf.len_app,hxn.o];rfl,by omega,λ z hz=>HCO.o z (Qs.bk_ok HT3.o k1 hz)⟩⟩
    simp at hb9 hb3
    rw[hb9]
    omega
   refine⟨.nil,ms9,HO9.o,?_,by omega,.inr (.inl ⟨rfl,rfl,HCO.o _ (Qs.bk_bad HT3.o k1)⟩)⟩
   simp at hb9 hb3
   rw[hb9]
   omega)
  go_roundw
  case rel=>obtain⟨S9,h9⟩:=HN9.o;exact⟨some ⟨g9,0,none⟩,n3+1,c9,_,S9,at5,bad5,r5,rfl,Xj h9⟩
  obtain⟨S9,h9⟩:=HN9.o
  have h1:=h9.ms.pat.natAt
  have h2:=HI.o.ms.pat.natAt
  have h3:=h9.ms.pat.lt
  have h4:=HM4.o.pat.lt
  have h6:=h9.ms.pat.badAt
  have h7:=HI.o.ms.pat.badAt
  have h8:=hxb.o
  rw[h1,h2,h6,h7]
  rcases hvp.o with⟨rfl,x1,t1,e1,k1,k2,k3⟩|⟨rfl,k1⟩
  ·simp;omega
  simp;omega
 go_wp2_with fail
 refine bodyPost_ret (v:=.slice a3 n3 c3) (by simp[results,Tryz.results149,go_sem]) rfl ?_
 refine⟨a3,n3,c3,true,at3,r3,rfl,HI.o.ms.pat,HI.o.le,HI.o.ms.gr,Xj ?_⟩
 rcases HI.o.res with⟨_,h,_⟩|h|h
 ·cases h
 ·exact .inr (.inl h)
 exact .inr (.inr h)
section
def xqq (K:PC) (at_:Nat) (bad:Bool) (rest:List Tk) (k:Int) (w:World) (e:Ending) (w':World):Prop :=
 ∃ (xk xn xv:Int) (xt:Bt) (at2:Nat) (bad2:Bool) (r2:List Tk),e=.returned (.agg #[.int .i64 xk,.int .i64 xn,.int .i64 xv,.string (st xt)])/\RAt w' K at2 bad2 r2/\w.grownBy w' (some K.g) /\
  Xq (r2.length<=rest.length/\((bad=false/\bad2=false/\kOf rest=k/\xt=tOf rest/\xv=vOf rest/\xn=Yc rest/\r2=rest.tail)\/(bad2=true/\(bad=false->kOf rest≠k)/\at2=at_/\r2=rest)))
theorem Up (K:PC) (at_:Nat) (bad:Bool) (rest:List Tk) (k:Int) (w:World) (h:RAt w K at_ bad rest) (hk0:k≠0):Calls Tryz.prog 148 #[.pointer (some ⟨K.g,0,none⟩),.int .i64 k] w (xqq K at_ bad rest k w):=by
 refine(Nc K at_ bad rest k w h hk0).mono ?_
 rintro e w' ⟨at2,bad2,r2,h1,h2,hc⟩
 obtain⟨⟨rk,rn,rv,rt⟩,r,hr⟩:=h.en.cons
 rcases hc with⟨c1,c2,c3,c4,c5,c6⟩|⟨c1,c2,c3,c4,c5⟩
 ·refine⟨rk,rn,rv,rt,at2,bad2,r2,by rw[c4,hr];rfl,h1,h2,Xj ⟨by rw[c6];simp,.inl ⟨c1,c2,c3,by rw[hr];rfl,by rw[hr];rfl,by rw[hr];rfl,c6⟩⟩⟩
 refine⟨0,0,0,[],at2,bad2,r2,c3,h1,h2,Xj ⟨by rw[c5];exact Nat.le_refl _,.inr ⟨c2,λ hb=>?_,c4,c5⟩⟩⟩
 rcases c1 with c1|c1
 ·rw[hb] at c1;cases c1
 exact c1
def xjc (K:PC) (at_:Nat) (bad:Bool) (rest:List Tk) (t:Bt) (w:World) (e:Ending) (w':World):Prop :=
 ∃ (at2:Nat) (bad2:Bool) (r2:List Tk),e=.returned (.tuple #[])/\RAt w' K at2 bad2 r2/\w.grownBy w' (some K.g) /\
  Xq (r2.length<=rest.length/\((bad=false/\bad2=false/\isT t rest=true/\r2=rest.tail)\/(bad2=true/\(bad=false->isT t rest=false)/\at2=at_/\r2=rest)))
theorem Qu (K:PC) (at_:Nat) (bad:Bool) (rest:List Tk) (t:Bt) (w:World) (h:RAt w K at_ bad rest):Calls Tryz.prog 104 #[.pointer (some ⟨K.g,0,none⟩),.string (st t)] w (xjc K at_ bad rest t w):=by
 refine(Qw K at_ bad rest t w h).mono ?_
 rintro e w' ⟨at2,bad2,r2,h0,h1,h2,hc⟩
 refine⟨at2,bad2,r2,h0,h1,h2,Xj ?_⟩
 rcases hc with⟨c1,c2,c3,c4,c5⟩|⟨c1,c2,c3,c4⟩
 ·exact⟨by rw[c5];simp,.inl ⟨c1,c2,c3,c5⟩⟩
 exact⟨by rw[c4];exact Nat.le_refl _,.inr ⟨c2,λ hb=>by rw[hb] at c1;simpa using c1,c3,c4⟩⟩
theorem Wz {rest r4 r5:List Tk} {k:Int} {nm:Bt} {bad4 bad5:Bool} {at4 at5:Nat} {h:Hd} {M:Fo->Prop} (h4:(bad4=false/\hk rest=.val k nm r4)\/(bad4=true/\hk rest=.bad r4))
  (hv:(bad4=false/\bad5=false/\∃ ar,Vs r4 (.ok (Xh h ar) r5)/\M ar/\r5.length<r4.length)\/(bad4=false/\bad5=true/\Vs r4 (.bad r5))\/(bad4=true/\bad5=true/\at5=at4/\r5=r4)) :
  (bad5=false/\∃ ar,Qs .st rest (.ok (Zd k (Yc rest) nm (Xh h ar) .nil .nil) r5)/\M ar/\r5.length<r4.length)\/(bad5=true/\Qs .st rest (.bad r5)):=by
 rcases h4 with⟨a1,a2⟩|⟨a1,a2⟩
 ·rcases hv with⟨_,b2,ar,b3,b4,b5⟩|⟨_,b2,b3⟩|⟨b1,_⟩
  ·obtain⟨y,hy,he⟩:=b3.end_ok
   have:=Qs.st_val a2 hy
   rw[he] at this
   exact .inl ⟨b2,ar,this,b4,b5⟩
  ·obtain⟨y,hy,he⟩:=b3.end_bad
   have:=Qs.st_val a2 hy
   rw[he] at this
   exact .inr ⟨b2,this⟩
  rw[a1] at b1;cases b1
 rcases hv with⟨b1,_⟩|⟨b1,_⟩|⟨_,b2,_,b4⟩
 ·rw[a1] at b1;cases b1
 ·rw[a1] at b1;cases b1
 exact .inr ⟨b2,by rw[b4];exact Qs.st_bad a2⟩
theorem Iz {rest r1 r2 r3 r4 r5:List Tk} {nm:Bt} {bad2 bad3 bad4 bad5:Bool} {at2 at3 at4 at5:Nat} {x:Fo} {h:Hd} {M:Fo->Prop} {N:Prop} (h1:hk rest=.sto nm r1)
  (hx:(bad2=false/\Ps .ex r1 (.ok x r2)/\N)\/(bad2=true/\Ps .ex r1 (.bad r2)))
  (h3:(bad2=false/\bad3=false/\isT [93] r2=true/\r3=r2.tail)\/(bad3=true/\(bad2=false->isT [93] r2=false)/\at3=at2/\r3=r2))
  (h4:(bad3=false/\bad4=false/\isT [61] r3=true/\r4=r3.tail)\/(bad4=true/\(bad3=false->isT [61] r3=false)/\at4=at3/\r4=r3))
  (hv:(bad4=false/\bad5=false/\∃ ar,Vs r4 (.ok (Xh h ar) r5)/\M ar/\r5.length<r4.length)\/(bad4=false/\bad5=true/\Vs r4 (.bad r5))\/(bad4=true/\bad5=true/\at5=at4/\r5=r4)) :
  (bad5=false/\∃ ar,Qs .st rest (.ok (Zd 3 (Yc rest) nm (x.app (Xh h ar)) .nil .nil) r5)/\M ar/\N/\r5.length<r4.length)\/(bad5=true/\Qs .st rest (.bad r5)):=by
 rcases hx with⟨a1,a2,a3⟩|⟨a1,a2⟩
 ·rcases h3 with⟨_,b2,b3,b4⟩|⟨b1,b2,_,b4⟩
  ·rcases h4 with⟨_,c2,c3,c4⟩|⟨c1,c2,_,c4⟩
   ·rcases hv with⟨_,d2,ar,d3,d4,d5⟩|⟨_,d2,d3⟩|⟨d1,_⟩
    ·obtain⟨y,hy,he⟩:=d3.end_ok
     rw[c4,b4] at hy
     rw[b4] at c3
     have:=Qs.sto_ok h1 a2 b3 c3 hy
     rw[he] at this
     exact .inl ⟨d2,ar,this,d4,a3,d5⟩
    ·obtain⟨y,hy,he⟩:=d3.end_bad
     rw[c4,b4] at hy
     rw[b4] at c3
     have:=Qs.sto_ok h1 a2 b3 c3 hy
     rw[he] at this
     exact .inr ⟨d2,this⟩
    rw[c2] at d1;cases d1
   rcases hv with⟨d1,_⟩|⟨d1,_⟩|⟨_,d2,_,d4⟩
   ·rw[c1] at d1;cases d1
   ·rw[c1] at d1;cases d1
   refine .inr ⟨d2,?_⟩
   have c3:=c2 b2
   rw[b4] at c3
   rw[d4,c4,b4]
   exact Qs.sto_no2 h1 a2 b3 c3
  rcases h4 with⟨c1,_⟩|⟨c1,_,_,c4⟩
  ·rw[b1] at c1;cases c1
  rcases hv with⟨d1,_⟩|⟨d1,_⟩|⟨_,d2,_,d4⟩
  ·rw[c1] at d1;cases d1
  ·rw[c1] at d1;cases d1
  refine .inr ⟨d2,?_⟩
  rw[d4,c4,b4]
  exact Qs.sto_no1 h1 a2 (b2 a1)
 rcases h3 with⟨b1,_⟩|⟨b1,_,_,b4⟩
 ·rw[a1] at b1;cases b1
 rcases h4 with⟨c1,_⟩|⟨c1,_,_,c4⟩
 ·rw[b1] at c1;cases c1
 rcases hv with⟨d1,_⟩|⟨d1,_⟩|⟨_,d2,_,d4⟩
 ·rw[c1] at d1;cases d1
 ·rw[c1] at d1;cases d1
 refine .inr ⟨d2,?_⟩
 rw[d4,c4,b4]
 exact Qs.sto_bad h1 a2
theorem Sx {ts r1 r2 r3:List Tk} {k:Int} {bad2 bad3:Bool} {at2 at3:Nat} {x:Fo} {M:Sf->Prop} {N:Prop} (h1:hk ts=.cho k r1)
  (hx:(bad2=false/\Ps .ex r1 (.ok x r2)/\N)\/(bad2=true/\Ps .ex r1 (.bad r2)))
  (hb:(bad2=false/\bad3=false/\∃ S,Qs .bl r2 (.ok S r3)/\M S/\r3.length<r2.length)\/(bad2=false/\bad3=true/\Qs .bl r2 (.bad r3))\/(bad2=true/\bad3=true/\at3=at2/\r3=r2)) :
  (bad3=false/\N/\Ps .ex r1 (.ok x r2)/\∃ S,Qs .bl r2 (.ok S r3)/\M S/\r3.length<r2.length)\/(bad3=true/\Qs .st ts (.bad r3)):=by
 rcases hx with⟨a1,a2,a3⟩|⟨a1,a2⟩
 ·rcases hb with⟨_,b2,S,b3,b4,b5⟩|⟨_,b2,b3⟩|⟨b1,_⟩
  ·exact .inl ⟨b2,a3,a2,S,b3,b4,b5⟩
  ·exact .inr ⟨b2,Qs.cho_bl h1 a2 b3⟩
  rw[a1] at b1;cases b1
 rcases hb with⟨b1,_⟩|⟨b1,_⟩|⟨_,b2,_,b4⟩
 ·rw[a1] at b1;cases b1
 ·rw[a1] at b1;cases b1
 exact .inr ⟨b2,by rw[b4];exact Qs.cho_bad h1 a2⟩
abbrev TS (w:World) (gR gs:Nat):Nat->Prop:=λ b=>w.heap.size<=b/\b≠gR/\b≠gs
structure RSD (K:PC) (w:World) (gR gs:Nat) (k ln:Int) (nm:Bt) (vx vt ve:Value) (at2:Nat) (bad2:Bool) (r:List Tk) (wx:World):Prop where
 ms:RS K w wx at2 bad2 r
 rc:Ls wx gR 0 0 [] Xs Xs Xs
 sc:Ls wx gs k ln nm vx vt ve
 ne:w.heap.size<=gR/\gR<gs
section
variable {K:PC} {w wx wy:World} {gR gs:Nat} {k ln:Int} {nm:Bt} {vx vt ve:Value} {at2 at3:Nat} {bad2 bad3:Bool} {r r3:List Tk}
theorem RSD.gr (d:RSD K w gR gs k ln nm vx vt ve at2 bad2 r wx) (hp:RAt wy K at3 bad3 r3) (hg:wx.grownBy wy (some K.g)):RSD K w gR gs k ln nm vx vt ve at3 bad3 r3 wy:=by
 have hl:=d.ms.gl
 obtain⟨n1,n2⟩:=d.ne
 exact⟨d.ms.call hp hg,d.rc.grw hg (by intro e;injection e with e;omega),d.sc.grw hg (by intro e;injection e with e;omega),d.ne⟩
theorem RSD.be (d:RSD K w gR gs k ln nm vx vt ve at2 bad2 r wx) (hb:Below wx.heap.size wx wy):RSD K w gR gs k ln nm vx vt ve at2 bad2 r wy:=d.gr (d.ms.be hb).pat (Xg hb _)
theorem RSD.al (d:RSD K w gR gs k ln nm vx vt ve at2 bad2 r wx) (o:Obj):RSD K w gR gs k ln nm vx vt ve at2 bad2 r (wx.alloc o):=d.be (Xw wx o)
theorem RSD.s1 (d:RSD K w gR gs k ln nm vx vt ve at2 bad2 r wx) (j:Nat) (v:Value):RS K w (wx.setCell ⟨gs,j,none⟩ v) at2 bad2 r/\Ls (wx.setCell ⟨gs,j,none⟩ v) gR 0 0 [] Xs Xs Xs:=by
 obtain⟨n1,n2⟩:=d.ne
 exact⟨d.ms.sc (p:=⟨gs,j,none⟩) (by show _<=gs;omega) _,d.rc.s1 (p:=⟨gs,j,none⟩) (by show gR≠gs;omega)⟩
theorem RSD.sk (d:RSD K w gR gs k ln nm vx vt ve at2 bad2 r wx) (k2:Int):RSD K w gR gs k2 ln nm vx vt ve at2 bad2 r (wx.setCell ⟨gs,0,none⟩ (.int .i64 k2)):=⟨(d.s1 0 _).1,(d.s1 0 _).2,d.sc.sk k2,d.ne⟩
theorem RSD.sn (d:RSD K w gR gs k ln nm vx vt ve at2 bad2 r wx) (m2:Bt):RSD K w gR gs k ln m2 vx vt ve at2 bad2 r (wx.setCell ⟨gs,2,none⟩ (.string (st m2))):=⟨(d.s1 2 _).1,(d.s1 2 _).2,d.sc.sn m2,d.ne⟩
theorem RSD.sx (d:RSD K w gR gs k ln nm vx vt ve at2 bad2 r wx) (v:Value):RSD K w gR gs k ln nm v vt ve at2 bad2 r (wx.setCell ⟨gs,3,none⟩ v):=⟨(d.s1 3 _).1,(d.s1 3 _).2,d.sc.sx v,d.ne⟩
theorem RSD.sth (d:RSD K w gR gs k ln nm vx vt ve at2 bad2 r wx) (v:Value):RSD K w gR gs k ln nm vx v ve at2 bad2 r (wx.setCell ⟨gs,4,none⟩ v):=⟨(d.s1 4 _).1,(d.s1 4 _).2,d.sc.sth v,d.ne⟩
theorem RSD.sel (d:RSD K w gR gs k ln nm vx vt ve at2 bad2 r wx) (v:Value):RSD K w gR gs k ln nm vx vt v at2 bad2 r (wx.setCell ⟨gs,5,none⟩ v):=⟨(d.s1 5 _).1,(d.s1 5 _).2,d.sc.sel v,d.ne⟩
theorem RSD.row (d:RSD K w gR gs k ln nm vx vt ve at2 bad2 r wx) (hp:RAt wy K at3 bad3 r3) (hg:wx.grownBy wy (some K.g)) (h:Hd) (s:Value) :
  RSD K w gR gs k ln nm vx vt ve at3 bad3 r3 (wy.alloc (.cells (ecs h s) 37))/\gs<wy.heap.size/\∀ ar,Xk wy (λ b=>wx.heap.size<=b) ar s->Xk (wy.alloc (.cells (ecs h s) 37)) (TS w gR gs) (Xh h ar) (.slice (some ⟨wy.heap.size,0,none⟩) 1 1):=by
 have d2:=d.gr hp hg
 have l1:=d.rc.lt
 have l2:=d.sc.lt
 have l3:=hg.size
 have l4:=d.ms.gr.size
 refine⟨d2.al _,by omega,λ ar ha=>Ub ha (λ b hb hlt=>⟨by omega,by omega,by omega⟩) ⟨by omega,by omega,by omega⟩⟩
theorem RSD.row1 (d:RSD K w gR gs k ln nm vx vt ve at2 bad2 r wx) (hp:RAt wy K at3 bad3 r3) (hg:wx.grownBy wy (some K.g)) (h:Hd) (s:Value):∀ W,W=(wy.setCell ⟨gs,3,none⟩ (.slice (some ⟨wy.heap.size,0,none⟩) 1 1)).alloc (.cells (ecs h s) 37) ->
  RSD K w gR gs k ln nm (.slice (some ⟨wy.heap.size,0,none⟩) 1 1) vt ve at3 bad3 r3 W/\∀ ar,Xk wy (λ b=>wx.heap.size<=b) ar s->Xk W (TS w gR gs) (Xh h ar) (.slice (some ⟨wy.heap.size,0,none⟩) 1 1):=by
 intro W hW
 obtain⟨d1,l1,d2⟩:=d.row hp hg h s
 rw[<- World.setCell_alloc_past _ gs 3 _ l1] at hW
 subst hW
 exact⟨d1.sx _,λ ar ha=>Qh (p:=⟨gs,3,none⟩) (d2 ar ha) (λ b hb=>hb.2.2)⟩
theorem RSD.row2 (d:RSD K w gR gs k ln nm vx vt ve at2 bad2 r wx) (hp:RAt wy K at3 bad3 r3) (hg:wx.grownBy wy (some K.g)) (h:Hd) (s:Value) (k2:Int):∀ W,W=((wy.setCell ⟨gs,0,none⟩ (.int .i64 k2)).setCell ⟨gs,3,none⟩ (.slice (some ⟨wy.heap.size,0,none⟩) 1 1)).alloc (.cells (ecs h s) 37) ->
  RSD K w gR gs k2 ln nm (.slice (some ⟨wy.heap.size,0,none⟩) 1 1) vt ve at3 bad3 r3 W/\∀ ar,Xk wy (λ b=>wx.heap.size<=b) ar s->Xk W (TS w gR gs) (Xh h ar) (.slice (some ⟨wy.heap.size,0,none⟩) 1 1):=by
 intro W hW
 obtain⟨d1,l1,d2⟩:=d.row hp hg h s
 rw[<- World.setCell_alloc_past _ gs 3 _ (by simpa [World.setCell] using l1),<- World.setCell_alloc_past _ gs 0 _ l1] at hW
 subst hW
 exact⟨(d1.sk k2).sx _,λ ar ha=>Qh (p:=⟨gs,3,none⟩) (Qh (p:=⟨gs,0,none⟩) (d2 ar ha) (λ b hb=>hb.2.2)) (λ b hb=>hb.2.2)⟩
theorem Ew {P:Fo} {s:Value} {j:Nat} {v:Value} (h:Xk wx (TS w gR gs) P s):Xk (wx.setCell ⟨gs,j,none⟩ v) (TS w gR gs) P s:=Qh (p:=⟨gs,j,none⟩) h (λ b hb=>hb.2.2)
theorem Hl {S:Sf} {s:Value} {j:Nat} {v:Value} (h:Xl wx (TS w gR gs) S s):Xl (wx.setCell ⟨gs,j,none⟩ v) (TS w gR gs) S s:=Wh (p:=⟨gs,j,none⟩) h (λ b hb=>hb.2.2)
theorem Vj {P:Fo} {s:Value} {g:Nat} (h:Xk wx (TS w gR gs) P s) (hg:wx.grownBy wy (some g)) (hl:g<w.heap.size):Xk wy (TS w gR gs) P s:=Zq h hg (λ b hb=>by have:=hb.1;omega)
theorem Hq {S:Sf} {s:Value} {g:Nat} (h:Xl wx (TS w gR gs) S s) (hg:wx.grownBy wy (some g)) (hl:g<w.heap.size):Xl wy (TS w gR gs) S s:=Mt h hg (λ b hb=>by have:=hb.1;omega)
def Rv (at_:Nat) (bad:Bool) (rest:List Tk) (k ln:Int) (nm:Bt) (vx vt ve:Value) (at2:Nat) (bad2:Bool) (r:List Tk) (w:World) (gR gs:Nat) (wx:World):Prop :=
 (bad=false/\bad2=false/\∃ xs th el,Qs .st rest (.ok (Zd k ln nm xs th el) r)/\Xk wx (TS w gR gs) xs vx/\Xl wx (TS w gR gs) th vt/\Xl wx (TS w gR gs) el ve/\r.length<rest.length)\/(bad=false/\bad2=true/\Qs .st rest (.bad r))\/(bad=true/\bad2=true/\at2=at_/\r=rest)
theorem Ic {at_:Nat} {bad:Bool} {rest:List Tk} {ax ta ea:Option Addr} {nx cx tm tc en ec:Nat} (d:RSD K w gR gs k ln nm (.slice ax nx cx) (.slice ta tm tc) (.slice ea en ec) at2 bad2 r wx) (hl:r.length<=rest.length) (hr:Rv at_ bad rest k ln nm (.slice ax nx cx) (.slice ta tm tc) (.slice ea en ec) at2 bad2 r w gR gs wx) (W:World)
  (hW:W=set6 wx gR (.int .i64 k) (.int .i64 ln) (.string (st nm)) (.slice ax nx cx) (.slice ta tm tc) (.slice ea en ec)) :
  Ls W gR k ln nm (.slice ax nx cx) (.slice ta tm tc) (.slice ea en ec)/\xjl K at_ bad rest w (.returned (stv k ln nm (.slice ax nx cx) (.slice ta tm tc) (.slice ea en ec))) W:=by
 subst hW
 have h2:=d.ms.s6 d.ne.1 (.int .i64 k) (.int .i64 ln) (.string (st nm)) (.slice ax nx cx) (.slice ta tm tc) (.slice ea en ec)
 refine⟨d.rc.s6 _ _ _ _ _ _,k,ln,nm,ax,nx,cx,ta,tm,tc,ea,en,ec,bad2,at2,r,rfl,h2.pat,hl,h2.gr,Xj ?_⟩
 rcases hr with⟨e0,e1,xs,th,el,e2,e3,e4,e5,e6⟩|e
 ·exact .inl ⟨e0,e1,xs,th,el,e2,Xc (Yv e3 (λ b hb=>hb.2.1)) (λ b hb _=>hb.1),Zj (Hn e4 (λ b hb=>hb.2.1)) (λ b hb _=>hb.1),Zj (Hn e5 (λ b hb=>hb.2.1)) (λ b hb _=>hb.1),e6⟩
 exact .inr e
end
theorem Bw (m:Nat) (hB:∀ j,j<m->xjr j):xjn m:=by
 intro K at_ bad rest w hP hm
 have HM1:=Xj ((RS.init hP).al Dn)
 have HR1:=Xj (Ls.zero w)
 have HB:Xq (bad=false->∀ (at2:Nat) (bad2:Bool) (r:List Tk) (w2:World),RAt w2 K at2 bad2 r->r.length<rest.length->Calls Tryz.prog 149 #[.pointer (some ⟨K.g,0,none⟩)] w2 (xjs K at2 bad2 r w2)):=Xj (λ hb at2 bad2 r w2 hp hl=>hB r.length (by rw[hb] at hm;have:rest.length<=m:=hm;omega) K at2 bad2 r w2 hp (by cases bad2;exact Nat.le_refl _;exact Nat.zero_le _))
 obtain⟨⟨tk,tn,tv,tt⟩,r0,hr0⟩:=hP.en.cons
 have HX0:=Xj hr0
 have HLN:Xq (Yc rest=tn):=Xj (by rw[hr0];rfl)
 have HRT:Xq (rest.tail.length<rest.length):=Xj (by rw[hr0];simp)
 have hfd:∀ W:World,(Instr.field 103 (.agg #[.int .i64 tk,.int .i64 tn,.int .i64 tv,.string (st tt)]) 1).run Tryz.prog W=.ok (.int .i64 tn) W:=λ _=>by kernel_rfl
 clear hB hP hm hr0
 go_enter Tryz.func172,Tryz.ntmps172
 go_upto_region 1 with fail
 obtain⟨w1,hw1⟩:∃ W,w.alloc Dn=W:=⟨_,rfl⟩
 obtain⟨gR,hgR⟩:∃ x,w.heap.size=x:=⟨_,rfl⟩
 (try rw[show w.alloc (.cells #[.int .i64 0,.int .i64 0,.string { data := #[] },.slice none 0 0,.slice none 0 0,.slice none 0 0] 110)=w1 from hw1])
 rw[hw1] at HM1 HR1
 rw[hgR] at HR1
 (try rw[hgR])
 have HGR:=Xj hgR
 clear hw1 hgR
 go_wp2_with fail
 refine(Js K at_ bad tk tn tv tt r0 w1 (HX0.o▸HM1.o.pat)).mono ?_
 rintro e w2 ⟨rfl,hb2⟩
 have HD3:Xq (RSD K w gR w2.heap.size 0 tn [] Xs Xs Xs at_ bad rest (w2.alloc (.cells (scs 0 tn [] Xs Xs Xs) 110))):=Xj ⟨(HM1.o.be hb2).al _,(HR1.o.be hb2).al _,Ls.new w2 0 tn [] Xs Xs Xs,by have:=HGR.o;omega,(HR1.o.be hb2).lt⟩
 clear hb2 HM1 HR1
 go_upto_block 0 with fail
 obtain⟨w3,hw3⟩:∃ W,w2.alloc (.cells (scs 0 tn [] Xs Xs Xs) 110)=W:=⟨_,rfl⟩
 obtain⟨gs,hgs⟩:∃ x,w2.heap.size=x:=⟨_,rfl⟩
 (try rw[show w2.alloc (.cells #[.int .i64 0,.int .i64 tn,.string { data := #[] },.slice none 0 0,.slice none 0 0,.slice none 0 0] 110)=w3 from hw3])
 rw[hw3,hgs] at HD3
 (try rw[hgs])
 clear hw3 hgs
 go_cut [] from 8 to 96 (λ wx=>∃ (k:Int) (nm:Bt) (ax:Option Addr) (nx cx:Nat) (ta:Option Addr) (tm tc:Nat) (ea:Option Addr) (en ec:Nat) (at4:Nat) (bad4:Bool) (r4:List Tk),Xq (RSD K w gR gs k tn nm (.slice ax nx cx) (.slice ta tm tc) (.slice ea en ec) at4 bad4 r4 wx/\r4.length<=rest.length/\Rv at_ bad rest k tn nm (.slice ax nx cx) (.slice ta tm tc) (.slice ea en ec) at4 bad4 r4 w gR gs wx))
 case first =>
  go_wp2_with fail
  refine(Yy K at_ bad rest [118,97,114] _ HD3.o.ms.pat).mono ?_
  rintro e w4 ⟨at5,r5,rfl,hp5,hg5,hc5⟩
  have HDa:=Xj (HD3.o.gr hp5 hg5)
  clear hp5 hg5
  rcases hc5 with⟨hbf,hT,ha5,hr5⟩|⟨hT,ha5,hr5⟩<;>subst at5 r5
  ·subst hbf
   have HV:=Xj hT
   (try rw[hT])
   clear hT
   go_wp2_with fail
   refine(Up K (at_+1) false rest.tail 1 _ HDa.o.ms.pat (by decide)).mono ?_
   rintro e wk ⟨xk,xn,xv,nm,at2,bad2,r2,rfl,hp2,hg2,hK2⟩
   have hvg:∀ W:World,(Instr.field 103 (.agg #[.int .i64 xk,.int .i64 xn,.int .i64 xv,.string (st nm)]) 3).run Tryz.prog W=.ok (.string (st nm)) W:=λ _=>by kernel_rfl
   have HK2:=Xj hK2.out
   have HDb:=Xj (HDa.o.gr hp2 hg2)
   have HDc:=Xj ((HDb.o.sk 1).sn nm)
   clear hp2 hg2 hK2
   obtain⟨s0,s1,s2,s3,s4,s5⟩:=HDb.o.sc.cells
   obtain⟨j0,j1,j2,j3,j4,j5⟩:=HDb.o.sc.froz
   have hlS:=HDb.o.sc.lt
   go_upto_region 10 with fail
   obtain⟨wn,hwn⟩:∃ W,(wk.setCell ⟨gs,0,none⟩ (.int .i64 1)).setCell ⟨gs,2,none⟩ (.string (st nm))=W:=⟨_,rfl⟩
   (try rw[hwn])
   rw[hwn] at HDc
   clear hwn hvg
   clear s0 s1 s2 s3 s4 s5 j0 j1 j2 j3 j4 j5 hlS
   go_wp2_with fail
   refine(Qu K at2 bad2 r2 [61] _ HDc.o.ms.pat).mono ?_
   rintro e we ⟨at4,bad4,r4,rfl,hp4,hg4,hE4⟩
   have HE4:=Xj hE4.o
   have HDd:=Xj (HDc.o.gr hp4 hg4)
   clear hp4 hg4 hE4
   have HH4:Xq ((bad4=false/\hk rest=.val 1 nm r4)\/(bad4=true/\hk rest=.bad r4)):=Xj (by
    have hh:=Dv HV.o
    rcases HK2.o.2 with⟨_,b2,b3,b4,_,_,b5⟩|⟨b1,b2,_,b4⟩
    ·rw[if_pos b3] at hh
     rcases HE4.o.2 with⟨_,c2,c3,c4⟩|⟨c1,c2,_,c4⟩
     ·rw[b5] at c3 c4
      rw[if_pos c3] at hh
      exact .inl ⟨c2,by rw[hh,b4,c4]⟩
     have c3:=c2 b2
     rw[b5] at c3 c4
     rw[if_neg (by rw[c3];simp)] at hh
     exact .inr ⟨c1,by rw[hh,c4]⟩
    rw[if_neg (b2 (by first|rfl|trivial))] at hh
    rcases HE4.o.2 with⟨c1,_⟩|⟨c1,_,_,c4⟩
    ·rw[b1] at c1;cases c1
    exact .inr ⟨c1,by rw[hh,c4,b4]⟩)
   go_wp2_with fail
   refine(Uy K at4 bad4 r4 _ HDd.o.ms.pat).mono ?_
   rintro e wv ⟨h,a,n,c,bad9,at9,r9,rfl,hp9,hqv,hg9,hjv⟩
   have hqb:=Xj (HDd.o.row1 hp9 hg9 h (.slice a n c))
   have HDv:=Xj (HDd.o.gr hp9 hg9)
   have hjr:=Xj (Wz (rest:=rest) (k:=1) (nm:=nm) HH4.o hjv.o)
   have hqw:=Xj hqv
   clear hp9 hg9 hjv hqv
   obtain⟨s0,s1,s2,s3,s4,s5⟩:=HDv.o.sc.cells
   obtain⟨j0,j1,j2,j3,j4,j5⟩:=HDv.o.sc.froz
   have hlS:=HDv.o.sc.lt
   have hjw:Xq (∀ W g,W=(wv.setCell ⟨gs,3,none⟩ (.slice (some ⟨wv.heap.size,0,none⟩) 1 1)).alloc (.cells (ecs h (.slice a n c)) 37)->g=wv.heap.size->RSD K w gR gs 1 tn nm (.slice (some ⟨g,0,none⟩) 1 1) Xs Xs at9 bad9 r9 W/\r9.length<=rest.length/\Rv at_ false rest 1 tn nm (.slice (some ⟨g,0,none⟩) 1 1) Xs Xs at9 bad9 r9 w gR gs W):=Xj (λ W g hW hg=>by
    subst hg
    have Hi:=hqb.o W hW
    refine⟨Hi.1,by have:=hqw.o;have:=HE4.o.1;have:=HK2.o.1;have:=HRT.o;omega,?_⟩
    rcases hjr.o with⟨b1,ar,b2,b3,b4⟩|⟨b1,b2⟩
    ·refine .inl ⟨rfl,b1,Xh h ar,.nil,.nil,?_,Hi.2 ar b3,Xl.nil _ _,Xl.nil _ _,by have:=HE4.o.1;have:=HK2.o.1;have:=HRT.o;omega⟩
     rw[HLN.o] at b2
     exact b2
    exact .inr (.inl ⟨rfl,b1,b2⟩))
   go_wp2_with fail
   go_meet
   obtain⟨wz,hwz⟩:∃ W,(wv.setCell ⟨gs,3,none⟩ (.slice (some ⟨wv.heap.size,0,none⟩) 1 1)).alloc (.cells (ecs h (.slice a n c)) 37)=W:=⟨_,rfl⟩
   obtain⟨z1,z2,z3⟩:=hjw.o wz wv.heap.size hwz.symm rfl
   have hY:=hwz
   simp only[ecs] at hY
   (try rw[hY])
   exact⟨1,nm,some ⟨wv.heap.size,0,none⟩,1,1,none,0,0,none,0,0,at9,bad9,r9,Xj ⟨z1,z2,z3⟩⟩
  have HN0:=Xj hT
  (try rw[hT])
  clear hT
  clear HD3
  go_wp2_with fail
  refine(Yy K at_ bad rest [105,102] _ HDa.o.ms.pat).mono ?_
  rintro e w4 ⟨at5,r5,rfl,hp5,hg5,hc5⟩
  have HDa:=Xj (HDa.o.gr hp5 hg5)
  clear hp5 hg5
  rcases hc5 with⟨hbf,hT,ha5,hr5⟩|⟨hT,ha5,hr5⟩<;>subst at5 r5
  ·subst hbf
   have HV:=Xj hT
   (try rw[hT])
   clear hT
   go_wp2_with fail
   refine(Kv K (at_+1) false rest.tail _ HDa.o.ms.pat).mono ?_
   rintro e wv ⟨h,a,n,c,bad2,at2,r2,rfl,hp9,hqv,hg9,hjv⟩
   have hqb:=Xj (HDa.o.row2 hp9 hg9 h (.slice a n c) 4)
   have HDv:=Xj (HDa.o.gr hp9 hg9)
   have HX:Xq (∀ W,W=((wv.setCell ⟨gs,0,none⟩ (.int .i64 4)).setCell ⟨gs,3,none⟩ (.slice (some ⟨wv.heap.size,0,none⟩) 1 1)).alloc (.cells (ecs h (.slice a n c)) 37)->∃ ar,(bad2=false/\Ps .ex rest.tail (.ok (Xh h ar) r2)/\Xk W (TS w gR gs) (Xh h ar) (.slice (some ⟨wv.heap.size,0,none⟩) 1 1))\/(bad2=true/\Ps .ex rest.tail (.bad r2))):=Xj (λ W hW=>by
    rcases hjv.o with⟨_,b1,ar,b2,b3,_⟩|⟨_,b1,b2⟩|⟨b1,_⟩
    ·exact⟨ar,.inl ⟨b1,b2,(hqb.o W hW).2 ar b3⟩⟩
    ·exact⟨.nil,.inr ⟨b1,b2⟩⟩
    cases b1)
   have hqw:=Xj hqv
   clear hp9 hg9 hjv hqv
   obtain⟨s0,s1,s2,s3,s4,s5⟩:=HDv.o.sc.cells
   obtain⟨j0,j1,j2,j3,j4,j5⟩:=HDv.o.sc.froz
   have hlS:=HDv.o.sc.lt
   go_upto_region 14 with fail
   obtain⟨wn,hwn⟩:∃ W,((wv.setCell ⟨gs,0,none⟩ (.int .i64 4)).setCell ⟨gs,3,none⟩ (.slice (some ⟨wv.heap.size,0,none⟩) 1 1)).alloc (.cells (ecs h (.slice a n c)) 37)=W:=⟨_,rfl⟩
   have HDb:=Xj (hqb.o wn hwn.symm).1
   have HXn:=Xj (HX.o wn hwn.symm)
   obtain⟨gx,hgx⟩:∃ x,wv.heap.size=x:=⟨_,rfl⟩
   have hjj:=hwn
   (try simp only[ecs] at hjj)
   (try rw[hjj])
   rw[hgx] at HDb HXn
   (try rw[hgx])
   clear hwn hjj hgx HX hqb HDv
   clear s0 s1 s2 s3 s4 s5 j0 j1 j2 j3 j4 j5 hlS
   go_wp2_with fail
   refine(HB.o (by first|rfl|trivial) at2 bad2 r2 _ HDb.o.ms.pat (by have:=hqw.o;have:=HRT.o;omega)).mono ?_
   rintro e wb ⟨ab,nb,cb,bad3,at3,r3,rfl,hp3,hvu,hg3,hqf⟩
   have hgl:=HDb.o.ms.gl
   have HDc:=Xj (HDb.o.gr hp3 hg3)
   have hzz:=Xj hvu
   have HB3:Xq (∃ ar,(bad3=false/\Xk wb (TS w gR gs) (Xh h ar) (.slice (some ⟨gx,0,none⟩) 1 1)/\Ps .ex rest.tail (.ok (Xh h ar) r2)/\∃ S,Qs .bl r2 (.ok S r3)/\Xl wb (TS w gR gs) S (.slice ab nb cb)/\r3.length<r2.length)\/(bad3=true/\Qs .st rest (.bad r3))):=Xj (by
    obtain⟨ar,b⟩:=HXn.o
    refine⟨ar,?_⟩
    have hsz:=HDb.o.ms.gr.size
    have l1:=HDb.o.rc.lt
    have l2:=HDb.o.sc.lt
    rcases Sx (ts:=rest) (k:=4) (M:=λ S=>Xl wb (λ b=>wn.heap.size<=b) S (.slice ab nb cb)) (Nd HV.o) b hqf.o with⟨c1,c2,c3,S,c4,c5,c6⟩|c
    ·exact .inl ⟨c1,Vj c2 hg3 hgl,c3,S,c4,Zj c5 (λ b hb _=>⟨by omega,by omega,by omega⟩),c6⟩
    exact .inr c)
   clear hp3 hg3 hqf hvu
   obtain⟨s0,s1,s2,s3,s4,s5⟩:=HDc.o.sc.cells
   obtain⟨j0,j1,j2,j3,j4,j5⟩:=HDc.o.sc.froz
   have hlS:=HDc.o.sc.lt
   have HDd:=Xj (HDc.o.sth (.slice ab nb cb))
   go_upto_region 15 with fail
   obtain⟨wq,hwq⟩:∃ W,wb.setCell ⟨gs,4,none⟩ (.slice ab nb cb)=W:=⟨_,rfl⟩
   have HB4:Xq (∃ ar,(bad3=false/\Xk wq (TS w gR gs) (Xh h ar) (.slice (some ⟨gx,0,none⟩) 1 1)/\Ps .ex rest.tail (.ok (Xh h ar) r2)/\∃ S,Qs .bl r2 (.ok S r3)/\Xl wq (TS w gR gs) S (.slice ab nb cb)/\r3.length<r2.length)\/(bad3=true/\Qs .st rest (.bad r3))):=Xj (by
    rw[<- hwq]
    obtain⟨ar,b⟩:=HB3.o
    refine⟨ar,?_⟩
    rcases b with⟨b1,b2,b3,S,b4,b5,b6⟩|b
    ·exact .inl ⟨b1,Ew b2,b3,S,b4,Hl b5,b6⟩
    exact .inr b)
   (try rw[hwq])
   rw[hwq] at HDd
   clear hwq HB3 HDc
   clear s0 s1 s2 s3 s4 s5 j0 j1 j2 j3 j4 j5 hlS
   go_wp2_with fail
   refine(Yy K at3 bad3 r3 elW _ HDd.o.ms.pat).mono ?_
   rintro e wf ⟨at5,r5,rfl,hp5,hg5,hc5⟩
   have hgl:=HDd.o.ms.gl
   have HDe:=Xj (HDd.o.gr hp5 hg5)
   have HB5:Xq (∃ ar,(bad3=false/\Xk wf (TS w gR gs) (Xh h ar) (.slice (some ⟨gx,0,none⟩) 1 1)/\Ps .ex rest.tail (.ok (Xh h ar) r2)/\∃ S,Qs .bl r2 (.ok S r3)/\Xl wf (TS w gR gs) S (.slice ab nb cb)/\r3.length<r2.length)\/(bad3=true/\Qs .st rest (.bad r3))):=Xj (by
    obtain⟨ar,b⟩:=HB4.o
    refine⟨ar,?_⟩
    rcases b with⟨b1,b2,b3,S,b4,b5,b6⟩|b
    ·exact .inl ⟨b1,Vj b2 hg5 hgl,b3,S,b4,Hq b5 hg5 hgl,b6⟩
    exact .inr b)
   clear hp5 hg5 HB4
   rcases hc5 with⟨hbf,hT,ha5,hr5⟩|⟨hT,ha5,hr5⟩<;>subst at5 r5
   ·subst hbf
    have HV2:=Xj hT
    (try rw[hT])
    clear hT
    have hzw:Xq (r3.tail.length<=r3.length):=Xj (by simp)
    go_wp2_with fail
    refine(HB.o (by first|rfl|trivial) (at3+1) false r3.tail _ HDe.o.ms.pat (by have:=hzw.o;have:=hzz.o;have:=hqw.o;have:=HRT.o;omega)).mono ?_
    rintro e wg ⟨ad,nd2,cd,bad6,at6,r6,rfl,hp6,hxh,hg6,hqq⟩
    have HDf:=Xj (HDe.o.gr hp6 hg6)
    have hzn:=Xj hxh
    have HB6:Xq ((bad6=false/\∃ xs th el,Qs .st rest (.ok (Zd 4 tn [] xs th el) r6)/\Xk wg (TS w gR gs) xs (.slice (some ⟨gx,0,none⟩) 1 1)/\Xl wg (TS w gR gs) th (.slice ab nb cb)/\Xl wg (TS w gR gs) el (.slice ad nd2 cd))\/(bad6=true/\Qs .st rest (.bad r6))):=Xj (by
     obtain⟨ar,b⟩:=HB5.o
     have hsz:=HDe.o.ms.gr.size
     have l1:=HDe.o.rc.lt
     have l2:=HDe.o.sc.lt
     rcases b with⟨b1,b2,b3,S,b4,b5,b6⟩|⟨b1,_⟩
     ·rcases hqq.o with⟨_,c1,S2,c2,c3,_⟩|⟨_,c1,c2⟩|⟨c1,_⟩
      ·refine .inl ⟨c1,Xh h ar,S,S2,?_,Vj b2 hg6 hgl,Hq b5 hg6 hgl,Zj c3 (λ b hb _=>⟨by omega,by omega,by omega⟩)⟩
       have:=Qs.cho_two (Nd HV.o) b3 b4 ⟨rfl,HV2.o⟩ c2
       rw[HLN.o] at this
       exact this
      ·exact .inr ⟨c1,Qs.cho_two_bad (Nd HV.o) b3 b4 ⟨rfl,HV2.o⟩ c2⟩
      cases c1
     cases b1)
    clear hp6 hg6 hqq hxh
    obtain⟨s0,s1,s2,s3,s4,s5⟩:=HDf.o.sc.cells
    obtain⟨j0,j1,j2,j3,j4,j5⟩:=HDf.o.sc.froz
    have hlS:=HDf.o.sc.lt
    have HDg:=Xj (HDf.o.sel (.slice ad nd2 cd))
    go_wp2_with fail
    go_meet
    refine⟨4,[],some ⟨gx,0,none⟩,1,1,ab,nb,cb,ad,nd2,cd,at6,bad6,r6,Xj ⟨HDg.o,by have:=hzn.o;have:=hzw.o;have:=hzz.o;have:=hqw.o;have:=HRT.o;omega,?_⟩⟩
    rcases HB6.o with⟨b1,xs,th,el,b2,b3,b4,b5⟩|⟨b1,b2⟩
    ·exact .inl ⟨rfl,b1,xs,th,el,b2,Ew b3,Hl b4,Hl b5,by have:=hzn.o;have:=hzw.o;have:=hzz.o;have:=hqw.o;have:=HRT.o;omega⟩
    exact .inr (.inl ⟨rfl,b1,b2⟩)
   have HV2:=Xj hT
   (try rw[hT])
   clear hT
   go_wp2_with fail
   go_meet
   refine⟨4,[],some ⟨gx,0,none⟩,1,1,ab,nb,cb,none,0,0,at3,bad3,r3,Xj ⟨HDe.o,by have:=hzz.o;have:=hqw.o;have:=HRT.o;omega,?_⟩⟩
   obtain⟨ar,b⟩:=HB5.o
   rcases b with⟨b1,b2,b3,S,b4,b5,b6⟩|⟨b1,b2⟩
   ·refine .inl ⟨rfl,b1,Xh h ar,S,.nil,?_,b2,b5,Xl.nil _ _,by have:=hqw.o;have:=HRT.o;omega⟩
    have:=Qs.cho_one (Nd HV.o) b3 b4 (by intro e;have h2:=HV2.o;rw[b1] at h2;rw[show isT elW r3=false by simpa using h2] at e;cases e.2)
    rw[HLN.o] at this
    exact this
   exact .inr (.inl ⟨rfl,b1,b2⟩)
  have HN1:=Xj hT
  (try rw[hT])
  clear hT
  go_wp2_with fail
  refine(Yy K at_ bad rest [119,104,105,108,101] _ HDa.o.ms.pat).mono ?_
  rintro e w4 ⟨at5,r5,rfl,hp5,hg5,hc5⟩
  have HDa:=Xj (HDa.o.gr hp5 hg5)
  clear hp5 hg5
  rcases hc5 with⟨hbf,hT,ha5,hr5⟩|⟨hT,ha5,hr5⟩<;>subst at5 r5
  ·subst hbf
   have HV:=Xj hT
   (try rw[hT])
   clear hT
   go_wp2_with fail
   refine(Kv K (at_+1) false rest.tail _ HDa.o.ms.pat).mono ?_
   rintro e wv ⟨h,a,n,c,bad2,at2,r2,rfl,hp9,hqv,hg9,hjv⟩
   have hqb:=Xj (HDa.o.row2 hp9 hg9 h (.slice a n c) 5)
   have HDv:=Xj (HDa.o.gr hp9 hg9)
   have HX:Xq (∀ W,W=((wv.setCell ⟨gs,0,none⟩ (.int .i64 5)).setCell ⟨gs,3,none⟩ (.slice (some ⟨wv.heap.size,0,none⟩) 1 1)).alloc (.cells (ecs h (.slice a n c)) 37)->∃ ar,(bad2=false/\Ps .ex rest.tail (.ok (Xh h ar) r2)/\Xk W (TS w gR gs) (Xh h ar) (.slice (some ⟨wv.heap.size,0,none⟩) 1 1))\/(bad2=true/\Ps .ex rest.tail (.bad r2))):=Xj (λ W hW=>by
    rcases hjv.o with⟨_,b1,ar,b2,b3,_⟩|⟨_,b1,b2⟩|⟨b1,_⟩
    ·exact⟨ar,.inl ⟨b1,b2,(hqb.o W hW).2 ar b3⟩⟩
    ·exact⟨.nil,.inr ⟨b1,b2⟩⟩
    cases b1)
   have hqw:=Xj hqv
   clear hp9 hg9 hjv hqv
   obtain⟨s0,s1,s2,s3,s4,s5⟩:=HDv.o.sc.cells
   obtain⟨j0,j1,j2,j3,j4,j5⟩:=HDv.o.sc.froz
   have hlS:=HDv.o.sc.lt
   go_upto_region 19 with fail
   obtain⟨wn,hwn⟩:∃ W,((wv.setCell ⟨gs,0,none⟩ (.int .i64 5)).setCell ⟨gs,3,none⟩ (.slice (some ⟨wv.heap.size,0,none⟩) 1 1)).alloc (.cells (ecs h (.slice a n c)) 37)=W:=⟨_,rfl⟩
   have HDb:=Xj (hqb.o wn hwn.symm).1
   have HXn:=Xj (HX.o wn hwn.symm)
   obtain⟨gx,hgx⟩:∃ x,wv.heap.size=x:=⟨_,rfl⟩
   have hjj:=hwn
   (try simp only[ecs] at hjj)
   (try rw[hjj])
   rw[hgx] at HDb HXn
   (try rw[hgx])
   clear hwn hjj hgx HX hqb HDv
   clear s0 s1 s2 s3 s4 s5 j0 j1 j2 j3 j4 j5 hlS
   go_wp2_with fail
   refine(HB.o (by first|rfl|trivial) at2 bad2 r2 _ HDb.o.ms.pat (by have:=hqw.o;have:=HRT.o;omega)).mono ?_
   rintro e wb ⟨ab,nb,cb,bad3,at3,r3,rfl,hp3,hvu,hg3,hqf⟩
   have hgl:=HDb.o.ms.gl
   have HDc:=Xj (HDb.o.gr hp3 hg3)
   have hzz:=Xj hvu
   have HB3:Xq (∃ ar,(bad3=false/\Xk wb (TS w gR gs) (Xh h ar) (.slice (some ⟨gx,0,none⟩) 1 1)/\Ps .ex rest.tail (.ok (Xh h ar) r2)/\∃ S,Qs .bl r2 (.ok S r3)/\Xl wb (TS w gR gs) S (.slice ab nb cb)/\r3.length<r2.length)\/(bad3=true/\Qs .st rest (.bad r3))):=Xj (by
    obtain⟨ar,b⟩:=HXn.o
    refine⟨ar,?_⟩
    have hsz:=HDb.o.ms.gr.size
    have l1:=HDb.o.rc.lt
    have l2:=HDb.o.sc.lt
    rcases Sx (ts:=rest) (k:=5) (M:=λ S=>Xl wb (λ b=>wn.heap.size<=b) S (.slice ab nb cb)) (Es HV.o) b hqf.o with⟨c1,c2,c3,S,c4,c5,c6⟩|c
    ·exact .inl ⟨c1,Vj c2 hg3 hgl,c3,S,c4,Zj c5 (λ b hb _=>⟨by omega,by omega,by omega⟩),c6⟩
    exact .inr c)
   clear hp3 hg3 hqf hvu
   obtain⟨s0,s1,s2,s3,s4,s5⟩:=HDc.o.sc.cells
   obtain⟨j0,j1,j2,j3,j4,j5⟩:=HDc.o.sc.froz
   have hlS:=HDc.o.sc.lt
   have HDd:=Xj (HDc.o.sth (.slice ab nb cb))
   go_wp2_with fail
   go_meet
   obtain⟨wq,hwq⟩:∃ W,wb.setCell ⟨gs,4,none⟩ (.slice ab nb cb)=W:=⟨_,rfl⟩
   have HB4:Xq (∃ ar,(bad3=false/\Xk wq (TS w gR gs) (Xh h ar) (.slice (some ⟨gx,0,none⟩) 1 1)/\Ps .ex rest.tail (.ok (Xh h ar) r2)/\∃ S,Qs .bl r2 (.ok S r3)/\Xl wq (TS w gR gs) S (.slice ab nb cb)/\r3.length<r2.length)\/(bad3=true/\Qs .st rest (.bad r3))):=Xj (by
    rw[<- hwq]
    obtain⟨ar,b⟩:=HB3.o
    refine⟨ar,?_⟩
    rcases b with⟨b1,b2,b3,S,b4,b5,b6⟩|b
    ·exact .inl ⟨b1,Ew b2,b3,S,b4,Hl b5,b6⟩
    exact .inr b)
   rw[hwq] at HDd ⊢
   refine⟨5,[],some ⟨gx,0,none⟩,1,1,ab,nb,cb,none,0,0,at3,bad3,r3,Xj ⟨HDd.o,by have:=hzz.o;have:=hqw.o;have:=HRT.o;omega,?_⟩⟩
   obtain⟨ar,b⟩:=HB4.o
   rcases b with⟨b1,b2,b3,S,b4,b5,b6⟩|⟨b1,b2⟩
   ·refine .inl ⟨rfl,b1,Xh h ar,S,.nil,?_,b2,b5,Xl.nil _ _,by have:=hqw.o;have:=HRT.o;omega⟩
    have:=Qs.cho_one (Es HV.o) b3 b4 (λ e=>absurd e.1 (by decide))
    rw[HLN.o] at this
    exact this
   exact .inr (.inl ⟨rfl,b1,b2⟩)
  have HN2:=Xj hT
  (try rw[hT])
  clear hT
  go_wp2_with fail
  refine(Yy K at_ bad rest [114,101,116,117,114,110] _ HDa.o.ms.pat).mono ?_
  rintro e w4 ⟨at5,r5,rfl,hp5,hg5,hc5⟩
  have HDa:=Xj (HDa.o.gr hp5 hg5)
  clear hp5 hg5
  rcases hc5 with⟨hbf,hT,ha5,hr5⟩|⟨hT,ha5,hr5⟩<;>subst at5 r5
  ·subst hbf
   have HV:=Xj hT
   (try rw[hT])
   clear hT
   go_wp2_with fail
   refine(Uy K (at_+1) false rest.tail _ HDa.o.ms.pat).mono ?_
   rintro e wv ⟨h,a,n,c,bad9,at9,r9,rfl,hp9,hqv,hg9,hjv⟩
   have hqb:=Xj (HDa.o.row2 hp9 hg9 h (.slice a n c) 6)
   have HDv:=Xj (HDa.o.gr hp9 hg9)
   have hjr:=Xj (Wz (rest:=rest) (k:=6) (nm:=[]) (.inl ⟨rfl,Hb HV.o⟩) hjv.o)
   have hqw:=Xj hqv
   clear hp9 hg9 hjv hqv
   obtain⟨s0,s1,s2,s3,s4,s5⟩:=HDv.o.sc.cells
   obtain⟨j0,j1,j2,j3,j4,j5⟩:=HDv.o.sc.froz
   have hlS:=HDv.o.sc.lt
   have hjw:Xq (∀ W g,W=((wv.setCell ⟨gs,0,none⟩ (.int .i64 6)).setCell ⟨gs,3,none⟩ (.slice (some ⟨wv.heap.size,0,none⟩) 1 1)).alloc (.cells (ecs h (.slice a n c)) 37)->g=wv.heap.size->RSD K w gR gs 6 tn [] (.slice (some ⟨g,0,none⟩) 1 1) Xs Xs at9 bad9 r9 W/\r9.length<=rest.length/\Rv at_ false rest 6 tn [] (.slice (some ⟨g,0,none⟩) 1 1) Xs Xs at9 bad9 r9 w gR gs W):=Xj (λ W g hW hg=>by
    subst hg
    have Hi:=hqb.o W hW
    refine⟨Hi.1,by have:=hqw.o;have:=HRT.o;omega,?_⟩
    rcases hjr.o with⟨b1,ar,b2,b3,b4⟩|⟨b1,b2⟩
    ·refine .inl ⟨rfl,b1,Xh h ar,.nil,.nil,?_,Hi.2 ar b3,Xl.nil _ _,Xl.nil _ _,by have:=HRT.o;omega⟩
     rw[HLN.o] at b2
     exact b2
    exact .inr (.inl ⟨rfl,b1,b2⟩))
   go_wp2_with fail
   go_meet
   obtain⟨wz,hwz⟩:∃ W,((wv.setCell ⟨gs,0,none⟩ (.int .i64 6)).setCell ⟨gs,3,none⟩ (.slice (some ⟨wv.heap.size,0,none⟩) 1 1)).alloc (.cells (ecs h (.slice a n c)) 37)=W:=⟨_,rfl⟩
   obtain⟨z1,z2,z3⟩:=hjw.o wz wv.heap.size hwz.symm rfl
   have hY:=hwz
   simp only[ecs] at hY
   (try rw[hY])
   exact⟨6,[],some ⟨wv.heap.size,0,none⟩,1,1,none,0,0,none,0,0,at9,bad9,r9,Xj ⟨z1,z2,z3⟩⟩
  have HN3:=Xj hT
  (try rw[hT])
  clear hT
  go_wp2_with fail
  refine(Yy K at_ bad rest [112,114,105,110,116] _ HDa.o.ms.pat).mono ?_
  rintro e w4 ⟨at5,r5,rfl,hp5,hg5,hc5⟩
  have HDa:=Xj (HDa.o.gr hp5 hg5)
  clear hp5 hg5
  rcases hc5 with⟨hbf,hT,ha5,hr5⟩|⟨hT,ha5,hr5⟩<;>subst at5 r5
  ·subst hbf
   have HV:=Xj hT
   (try rw[hT])
   clear hT
   go_wp2_with fail
   refine(Uy K (at_+1) false rest.tail _ HDa.o.ms.pat).mono ?_
   rintro e wv ⟨h,a,n,c,bad9,at9,r9,rfl,hp9,hqv,hg9,hjv⟩
   have hqb:=Xj (HDa.o.row2 hp9 hg9 h (.slice a n c) 7)
   have HDv:=Xj (HDa.o.gr hp9 hg9)
   have hjr:=Xj (Wz (rest:=rest) (k:=7) (nm:=[]) (.inl ⟨rfl,Nf HV.o⟩) hjv.o)
   have hqw:=Xj hqv
   clear hp9 hg9 hjv hqv
   obtain⟨s0,s1,s2,s3,s4,s5⟩:=HDv.o.sc.cells
   obtain⟨j0,j1,j2,j3,j4,j5⟩:=HDv.o.sc.froz
   have hlS:=HDv.o.sc.lt
   have hjw:Xq (∀ W g,W=((wv.setCell ⟨gs,0,none⟩ (.int .i64 7)).setCell ⟨gs,3,none⟩ (.slice (some ⟨wv.heap.size,0,none⟩) 1 1)).alloc (.cells (ecs h (.slice a n c)) 37)->g=wv.heap.size->RSD K w gR gs 7 tn [] (.slice (some ⟨g,0,none⟩) 1 1) Xs Xs at9 bad9 r9 W/\r9.length<=rest.length/\Rv at_ false rest 7 tn [] (.slice (some ⟨g,0,none⟩) 1 1) Xs Xs at9 bad9 r9 w gR gs W):=Xj (λ W g hW hg=>by
    subst hg
    have Hi:=hqb.o W hW
    refine⟨Hi.1,by have:=hqw.o;have:=HRT.o;omega,?_⟩
    rcases hjr.o with⟨b1,ar,b2,b3,b4⟩|⟨b1,b2⟩
    ·refine .inl ⟨rfl,b1,Xh h ar,.nil,.nil,?_,Hi.2 ar b3,Xl.nil _ _,Xl.nil _ _,by have:=HRT.o;omega⟩
     rw[HLN.o] at b2
     exact b2
    exact .inr (.inl ⟨rfl,b1,b2⟩))
   go_wp2_with fail
   go_meet
   obtain⟨wz,hwz⟩:∃ W,((wv.setCell ⟨gs,0,none⟩ (.int .i64 7)).setCell ⟨gs,3,none⟩ (.slice (some ⟨wv.heap.size,0,none⟩) 1 1)).alloc (.cells (ecs h (.slice a n c)) 37)=W:=⟨_,rfl⟩
   obtain⟨z1,z2,z3⟩:=hjw.o wz wv.heap.size hwz.symm rfl
   have hY:=hwz
   simp only[ecs] at hY
   (try rw[hY])
   exact⟨7,[],some ⟨wv.heap.size,0,none⟩,1,1,none,0,0,none,0,0,at9,bad9,r9,Xj ⟨z1,z2,z3⟩⟩
  have HN4:=Xj hT
  (try rw[hT])
  clear hT
  go_wp2_with fail
  refine(Yy K at_ bad rest [99,97,108,108] _ HDa.o.ms.pat).mono ?_
  rintro e w4 ⟨at5,r5,rfl,hp5,hg5,hc5⟩
  have HDa:=Xj (HDa.o.gr hp5 hg5)
  clear hp5 hg5
  rcases hc5 with⟨hbf,hT,ha5,hr5⟩|⟨hT,ha5,hr5⟩<;>subst at5 r5
  ·subst hbf
   have HV:=Xj hT
   (try rw[hT])
   clear hT
   go_wp2_with fail
   refine(Uy K (at_+1) false rest.tail _ HDa.o.ms.pat).mono ?_
   rintro e wv ⟨h,a,n,c,bad9,at9,r9,rfl,hp9,hqv,hg9,hjv⟩
   have hqb:=Xj (HDa.o.row2 hp9 hg9 h (.slice a n c) 8)
   have HDv:=Xj (HDa.o.gr hp9 hg9)
   have hjr:=Xj (Wz (rest:=rest) (k:=8) (nm:=[]) (.inl ⟨rfl,Sj HV.o⟩) hjv.o)
   have hqw:=Xj hqv
   clear hp9 hg9 hjv hqv
   obtain⟨s0,s1,s2,s3,s4,s5⟩:=HDv.o.sc.cells
   obtain⟨j0,j1,j2,j3,j4,j5⟩:=HDv.o.sc.froz
   have hlS:=HDv.o.sc.lt
   have hjw:Xq (∀ W g,W=((wv.setCell ⟨gs,0,none⟩ (.int .i64 8)).setCell ⟨gs,3,none⟩ (.slice (some ⟨wv.heap.size,0,none⟩) 1 1)).alloc (.cells (ecs h (.slice a n c)) 37)->g=wv.heap.size->RSD K w gR gs 8 tn [] (.slice (some ⟨g,0,none⟩) 1 1) Xs Xs at9 bad9 r9 W/\r9.length<=rest.length/\Rv at_ false rest 8 tn [] (.slice (some ⟨g,0,none⟩) 1 1) Xs Xs at9 bad9 r9 w gR gs W):=Xj (λ W g hW hg=>by
    subst hg
    have Hi:=hqb.o W hW
    refine⟨Hi.1,by have:=hqw.o;have:=HRT.o;omega,?_⟩
    rcases hjr.o with⟨b1,ar,b2,b3,b4⟩|⟨b1,b2⟩
    ·refine .inl ⟨rfl,b1,Xh h ar,.nil,.nil,?_,Hi.2 ar b3,Xl.nil _ _,Xl.nil _ _,by have:=HRT.o;omega⟩
     rw[HLN.o] at b2
     exact b2
    exact .inr (.inl ⟨rfl,b1,b2⟩))
   go_wp2_with fail
   go_meet
   obtain⟨wz,hwz⟩:∃ W,((wv.setCell ⟨gs,0,none⟩ (.int .i64 8)).setCell ⟨gs,3,none⟩ (.slice (some ⟨wv.heap.size,0,none⟩) 1 1)).alloc (.cells (ecs h (.slice a n c)) 37)=W:=⟨_,rfl⟩
   obtain⟨z1,z2,z3⟩:=hjw.o wz wv.heap.size hwz.symm rfl
   have hY:=hwz
   simp only[ecs] at hY
   (try rw[hY])
   exact⟨8,[],some ⟨wv.heap.size,0,none⟩,1,1,none,0,0,none,0,0,at9,bad9,r9,Xj ⟨z1,z2,z3⟩⟩
  have HN5:=Xj hT
  (try rw[hT])
  clear hT
  have HNW:Xq (bad=false->noW rest):=Xj (λ hb=>by
   subst hb
   have h0:=HN0.o
   have h1:=HN1.o
   have h2:=HN2.o
   have h3:=HN3.o
   have h4:=HN4.o
   have h5:=HN5.o
   exact⟨by simpa using h0,by simpa using h1,by simpa using h2,by simpa using h3,by simpa using h4,by simpa using h5⟩)
  clear HN0 HN1 HN2 HN3 HN4 HN5
  go_wp2_with fail
  refine(Up K at_ bad rest 1 _ HDa.o.ms.pat (by decide)).mono ?_
  rintro e wk ⟨xk,xn,xv,nm,at2,bad2,r2,rfl,hp2,hg2,hK2⟩
  have hvg:∀ W:World,(Instr.field 103 (.agg #[.int .i64 xk,.int .i64 xn,.int .i64 xv,.string (st nm)]) 3).run Tryz.prog W=.ok (.string (st nm)) W:=λ _=>by kernel_rfl
  have HK2:=Xj hK2.out
  have HDb:=Xj (HDa.o.gr hp2 hg2)
  have HDc:=Xj ((HDb.o.sk 2).sn nm)
  clear hp2 hg2 hK2 HDa
  obtain⟨s0,s1,s2,s3,s4,s5⟩:=HDb.o.sc.cells
  obtain⟨j0,j1,j2,j3,j4,j5⟩:=HDb.o.sc.froz
  have hlS:=HDb.o.sc.lt
  go_upto_region 3 with fail
  obtain⟨wn,hwn⟩:∃ W,(wk.setCell ⟨gs,0,none⟩ (.int .i64 2)).setCell ⟨gs,2,none⟩ (.string (st nm))=W:=⟨_,rfl⟩
  (try rw[hwn])
  rw[hwn] at HDc
  clear hwn hvg s0 s1 s2 s3 s4 s5 j0 j1 j2 j3 j4 j5 hlS HDb
  go_wp2_with fail
  refine(Yy K at2 bad2 r2 [91] _ HDc.o.ms.pat).mono ?_
  rintro e wa ⟨at5,r5,rfl,hp5,hg5,hc5⟩
  have HDd:=Xj (HDc.o.gr hp5 hg5)
  have HC5:=Xj hc5
  clear hp5 hg5 hc5 HDc
  obtain⟨bt,hbt⟩:∃ b:Bool,(!bad2&&isT [91] r2)=b:=⟨_,rfl⟩
  have HBT:=Xj hbt
  go_upto_if 14 with fail
  (try rw[hbt])
  clear hbt
  go_cut [] from 15 to 21 (λ wx=>∃ (k2:Int) (ax:Option Addr) (nx cx:Nat) (xs:List Value) (at3:Nat) (bad3:Bool) (r3:List Tk),Xq (RSD K w gR gs k2 tn nm (.slice ax nx cx) Xs Xs at3 bad3 r3 wx/\wx.ownsRow w.heap.size 37 6 (.slice ax nx cx) nx xs/\nx<=1/\(Value.slice ax nx cx).ownBlock≠some gR/\(Value.slice ax nx cx).ownBlock≠some gs/\r3.length<=rest.length /\
   ((nx=0/\xs=[]/\k2=2/\((bad=false/\bad3=false/\kOf rest=1/\nm=tOf rest/\isT [91] rest.tail=false/\r3=rest.tail)\/(bad3=true/\(bad=false->kOf rest≠1)/\at3=at_/\r3=rest))) \/
    (nx=1/\k2=3/\bad=false/\r3.length<rest.length/\∃ (r1 r2:List Tk) (bad2:Bool) (at2:Nat) (x:Fo),hk rest=.sto nm r1/\((bad2=false/\Ps .ex r1 (.ok x r2)/\Ys wx (λ b=>TS w gR gs b/\some b≠(Value.slice ax nx cx).ownBlock) x xs/\x.len=1)\/(bad2=true/\Ps .ex r1 (.bad r2)))/\((bad2=false/\bad3=false/\isT [93] r2=true/\r3=r2.tail)\/(bad3=true/\(bad2=false->isT [93] r2=false)/\at3=at2/\r3=r2))))))
  case first =>
   cases bt
   ·go_wp2_with fail
    go_meet
    refine⟨2,none,0,0,[],at5,bad2,r5,Xj ⟨HDd.o,World.ownsRow_nil _ _ _ _,by omega,(λ e=>nomatch e),(λ e=>nomatch e),?_,?_⟩⟩
    ·have h1:=HK2.o.1
     rcases HC5.o with⟨_,_,_,e⟩|⟨_,_,e⟩<;>rw[e]
     ·simp;omega
     exact h1
    refine .inl ⟨rfl,rfl,rfl,?_⟩
    have hb:=HBT.o
    rcases HC5.o with⟨c1,c2,_⟩|⟨c1,c2,c3⟩
    ·rw[c1,c2] at hb;cases hb
    rcases HK2.o.2 with⟨k1,k2,k3,k4,_,_,k5⟩|⟨k1,k2,k3,k4⟩
    ·refine .inl ⟨k1,k2,k3,k4,?_,by rw[c3,k5]⟩
     rw[k2,k5] at c1
     simpa using c1
    exact .inr ⟨k1,k2,by omega,by rw[c3,k4]⟩
   have HF5:Xq (bad=false/\bad2=false/\kOf rest=1/\nm=tOf rest/\isT [91] rest.tail=true/\r5=rest.tail.tail/\hk rest=.sto nm rest.tail.tail):=Xj (by
    have hb:=HBT.o
    rcases HC5.o with⟨c1,c2,c3,c4⟩|⟨c1,_⟩
    ·rcases HK2.o.2 with⟨k1,k2,k3,k4,_,_,k5⟩|⟨k1,_⟩
     ·rw[k5] at c2 c4
      have hh:=Ku (HNW.o k1)
      rw[if_pos k3,if_pos c2,<- k4] at hh
      exact⟨k1,k2,k3,k4,c2,c4,hh⟩
     rw[k1] at c1;cases c1
    rw[c1] at hb;cases hb)
   go_wp2_with fail
   refine(Kv K at5 bad2 r5 _ HDd.o.ms.pat).mono ?_
   rintro e wv ⟨h,a,n,c,bad6,at6,r6,rfl,hp9,hqv,hg9,hjv⟩
   have hgl:=HDd.o.ms.gl
   have HDe:=Xj (HDd.o.gr hp9 hg9)
   have hqb:=Xj (HDd.o.row2 hp9 hg9 h (.slice a n c) 3)
   have HSZ:Xq (gs<wv.heap.size/\gR<wv.heap.size/\w.heap.size<=wv.heap.size/\wa.heap.size<=wv.heap.size/\gs<wa.heap.size/\gR<wa.heap.size/\w.heap.size<=wa.heap.size):=Xj (by
    have l1:=HDd.o.rc.lt
    have l2:=HDd.o.sc.lt
    have l3:=hg9.size
    have l4:=HDd.o.ms.gr.size
    exact⟨by omega,by omega,by omega,by omega,by omega,by omega,by omega⟩)
   have HOW:Xq (∀ W,W=((wv.setCell ⟨gs,0,none⟩ (.int .i64 3)).setCell ⟨gs,3,none⟩ (.slice (some ⟨wv.heap.size,0,none⟩) 1 1)).alloc (.cells (ecs h (.slice a n c)) 37)->W.ownsRow w.heap.size 37 6 (.slice (some ⟨wv.heap.size,0,none⟩) 1 1) 1 (hdc h (.slice a n c))):=Xj (λ W hW=>by
    subst hW
    have:=World.ownsRow_lit (base:=w.heap.size) (e:=37) (size:=6) ((wv.setCell ⟨gs,0,none⟩ (.int .i64 3)).setCell ⟨gs,3,none⟩ (.slice (some ⟨wv.heap.size,0,none⟩) 1 1)) (ecs h (.slice a n c)) 1 (by simp[World.setCell];exact HSZ.o.2.2.1) (by unfold maxLen;omega) rfl
    simpa [World.setCell] using this)
   have HX:Xq (∀ W,W=((wv.setCell ⟨gs,0,none⟩ (.int .i64 3)).setCell ⟨gs,3,none⟩ (.slice (some ⟨wv.heap.size,0,none⟩) 1 1)).alloc (.cells (ecs h (.slice a n c)) 37)->∃ x,(bad6=false/\Ps .ex rest.tail.tail (.ok x r6)/\Ys W (λ b=>TS w gR gs b/\b≠wv.heap.size) x (hdc h (.slice a n c))/\x.len=1)\/(bad6=true/\Ps .ex rest.tail.tail (.bad r6))):=Xj (λ W hW=>by
    obtain⟨f1,f2,f3,f4,f5,f6,f7⟩:=HF5.o
    have hs:=HSZ.o
    rcases hjv.o with⟨_,b1,ar,b2,b3,_⟩|⟨_,b1,b2⟩|⟨b1,_⟩
    ·rw[f6] at b2
     refine⟨_,.inl ⟨b1,b2,?_,rfl⟩⟩
     subst hW
     have b4:=Qh (p:=⟨gs,3,none⟩) (v:=.slice (some ⟨wv.heap.size,0,none⟩) 1 1) (Qh (p:=⟨gs,0,none⟩) (v:=.int .i64 3) (Xc (Q:=TS w gR gs) b3 (λ b hb hlt=>⟨by omega,by omega,by omega⟩)) (λ b hb=>hb.2.2)) (λ b hb=>hb.2.2)
     have b5:=Yl (.cells (ecs h (.slice a n c)) 37) b4
     exact Xk.one (Xc b5 (λ b hb _=>⟨hb.1,by have:=hb.2;simpa [World.setCell] using this⟩))
    ·rw[f6] at b2
     exact⟨.nil,.inr ⟨b1,b2⟩⟩
    rw[f2] at b1;cases b1)
   have hqw:=Xj hqv
   clear hp9 hg9 hjv hqv
   obtain⟨s0,s1,s2,s3,s4,s5⟩:=HDe.o.sc.cells
   obtain⟨j0,j1,j2,j3,j4,j5⟩:=HDe.o.sc.froz
   have hlS:=HDe.o.sc.lt
   go_upto_region 5 with fail
   obtain⟨wn2,hwn⟩:∃ W,((wv.setCell ⟨gs,0,none⟩ (.int .i64 3)).setCell ⟨gs,3,none⟩ (.slice (some ⟨wv.heap.size,0,none⟩) 1 1)).alloc (.cells (ecs h (.slice a n c)) 37)=W:=⟨_,rfl⟩
   have HDf:=Xj (hqb.o wn2 hwn.symm).1
   have HOX:=Xj (HOW.o wn2 hwn.symm)
   have HXn:=Xj (HX.o wn2 hwn.symm)
   obtain⟨gx,hgx⟩:∃ x,wv.heap.size=x:=⟨_,rfl⟩
   have hjj:=hwn
   (try simp only[ecs] at hjj)
   (try rw[hjj])
   rw[hgx] at HDf HOX HXn HSZ
   (try rw[hgx])
   clear hwn hjj hgx HX HOW HDe hqb s0 s1 s2 s3 s4 s5 j0 j1 j2 j3 j4 j5 hlS
   go_wp2_with fail
   refine(Qu K at6 bad6 r6 [93] _ HDf.o.ms.pat).mono ?_
   rintro e we ⟨at4,bad4,r4,rfl,hp4,hg4,hE4⟩
   have hgl:=HDf.o.ms.gl
   go_wp2_with fail
   go_meet
   refine⟨3,some ⟨gx,0,none⟩,1,1,hdc h (.slice a n c),at4,bad4,r4,Xj ⟨HDf.o.gr hp4 hg4,Yz HOX.o hg4 hgl,by omega,?_,?_,?_,.inr ?_⟩⟩
   ·show some gx≠some gR;have:=HSZ.o;simp;omega
   ·show some gx≠some gs;have:=HSZ.o;simp;omega
   ·have h1:=hE4.o.1;have h2:=hqw.o;have h3:=HF5.o.2.2.2.2.2.1;rw[h3] at h2;simp only[List.length_tail] at *;omega
   obtain⟨f1,f2,f3,f4,f5,f6,f7⟩:=HF5.o
   refine⟨rfl,rfl,f1,by have h1:=hE4.o.1;have h2:=hqw.o;have h4:=HRT.o;rw[f6] at h2;simp only[List.length_tail] at *;omega,rest.tail.tail,r6,bad6,at6,?_⟩
   obtain⟨x,b⟩:=HXn.o
   refine⟨x,f7,?_,hE4.o.2⟩
   rcases b with⟨b1,b2,b3,b4⟩|b
   ·exact .inl ⟨b1,b2,b3.keep (λ b hb hlt=>⟨hg4.block b hlt (λ e=>by injection e with e;have:=hb.1.1;omega),hb.1,by show some b≠some gx;simp;exact hb.2⟩) hg4.size,b4⟩
   exact .inr b
  case rest =>
  rename World=>wq
  obtain⟨k2,ax,nx,cx,xs,at3,bad3,r3,HC⟩:=hcut
  have HDe:=Xj HC.o.1
  go_wp2_with fail
  refine(Qu K at3 bad3 r3 [61] _ HDe.o.ms.pat).mono ?_
  rintro e we ⟨at4,bad4,r4,rfl,hp4,hg4,hE4⟩
  have hgl:=HDe.o.ms.gl
  have HE4:=Xj hE4.o
  have HDf:=Xj (HDe.o.gr hp4 hg4)
  have HO4:=Xj (Yz HC.o.2.1 hg4 hgl)
  have HKP4:Xq (∀ b,w.heap.size<=b->b<wq.heap.size->we.heap[b]?=wq.heap[b]?):=Xj (λ b hb hlt=>hg4.block b hlt (λ e=>by injection e with e;omega))
  have HS4:=Xj hg4.size
  clear hp4 hg4 hE4
  go_upto_region 7 with fail
  obtain⟨wd,hwd⟩:∃ W,we.drew=W:=⟨_,rfl⟩
  have HBd:=Xj (show Below we.heap.size we wd by rw[<- hwd];exact(Below.refl _ _).drew)
  have HDg:=Xj (HDf.o.be HBd.o)
  have HOd:=Xj (HO4.o.kept (Xg HBd.o none) (by cases (Value.slice ax nx cx).ownBlock with|none=>exact .inl rfl|some k=>exact .inr (by simp)))
  obtain⟨s0,s1,s2,s3,s4,s5⟩:=HDg.o.sc.cells
  refine Jh 5 (λ w'=>w'.cell? ⟨gs,3,none⟩=some (.slice ax nx cx)) (by kernel_rfl) (by rw[hwd];exact s3) (λ hJ=>?_)
  rw[hwd] at hJ ⊢
  clear hwd s0 s1 s2 s3 s4 s5
  refine tkY 0 24 (λ _=>hJ) ?_
  refine tkK 1 25 ?_
  refine tkY 2 26 (λ _=>hJ) ?_
  refine rdK 3 λ K0 hK=>?_
  go_simp
  refine(Uy K at4 bad4 r4 wd HDg.o.ms.pat).mono ?_
  rintro e wv ⟨h,a,n,c,bad9,at9,r9,rfl,hp9,hqv,hg9,hjv⟩
  have hgl:=HDg.o.ms.gl
  have HDh:=Xj (HDg.o.gr hp9 hg9)
  have HOh:=Xj (Yz HOd.o hg9 hgl)
  have hqw:=Xj hqv
  have hxp:=Xj hjv.o
  have HKP9:Xq (∀ b,w.heap.size<=b->b<wd.heap.size->wv.heap[b]?=wd.heap[b]?):=Xj (λ b hb hlt=>hg9.block b hlt (λ e=>by injection e with e;omega))
  have HS9:=Xj hg9.size
  clear hp9 hg9 hqv hjv hJ
  have hJ:(λ w':World=>w'.cell? ⟨gs,3,none⟩=some (.slice ax nx cx)) wv:=HDh.o.sc.cells.2.2.2.1
  refine goK hK (λ _=>hJ) ?_
  clear hK K0
  refine rdK 4 λ K0 hK=>?_
  go_simp
  refine goK hK (λ _=>Xu _ hJ) ?_
  clear hK K0
  have HDi:=Xj (HDh.o.al (.cells (ecs h (.slice a n c)) 37))
  have HOi:=Xj (HOh.o.alloc (.cells (ecs h (.slice a n c)) 37))
  have hqp:=HDh.o.ms.gr.size
  have hnn:=HC.o.2.2.1
  obtain⟨i0,hi0,hz0,hz1,hz2⟩:=info_parts Tryz.infoExpr
  have HIF:=Xj hi0
  have HZ0:=Xj hz0
  have HZ1:=Xj hz1
  have HZ2:=Xj hz2
  clear hi0 hz0 hz1 hz2 hJ
  refine rdK 5 λ K0 hK=>?_
  refine step_append_lies _ rfl _ _ _ rfl w.heap.size 37 i0 _ 6 72 Tryz.underlying35 HIF.o HZ0.o HZ1.o HZ2.o rfl (by omega) (.slice ax nx cx) nx xs rfl HOi.o ⟨wv.heap.size,0,none⟩ 1 1 (hdc h (.slice a n c)) rfl rfl (World.news_of_block (cs:=ecs h (.slice a n c)) (t:=37) (fr:=(0,0)) (heap_alloc_new wv _)) (by simp[Value.oneCell']) (by omega) (by unfold maxLen;omega) (by omega) (by simp;omega) _ rfl ?_
  intro g9 c9 w9 hown9 hgrow9 Ho hlt9
  have HO9:=Xj hown9
  have HG9:=Xj hgrow9
  have HDj:Xq (RSD K w gR gs k2 tn nm (.slice ax nx cx) Xs Xs at9 bad9 r9 w9):=Xj ⟨HDi.o.ms.own hgrow9 (λ k2 e=>(HOd.o.lt k2 e).1),HDi.o.rc.grw hgrow9 HC.o.2.2.2.1,HDi.o.sc.grw hgrow9 HC.o.2.2.2.2.1,HDi.o.ne⟩
  have HG:Xq (((Value.slice ax nx cx).ownBlock=some g9\/g9=wv.heap.size+1)/\wv.heap.size+1<=w9.heap.size):=Xj (by
   have h7:(wv.alloc (.cells (ecs h (.slice a n c)) 37)).heap.size=wv.heap.size+1:=by simp
   have h8:=hgrow9.size
   rw[h7] at Ho h8
   exact⟨Ho,h8⟩)
  have HK9:Xq (∀ b,b<wv.heap.size->some b≠(Value.slice ax nx cx).ownBlock->w9.heap[b]?=wv.heap[b]?):=Xj (λ b hb hn=>(hgrow9.block b (by rw[show (wv.alloc (.cells (ecs h (.slice a n c)) 37)).heap.size=wv.heap.size+1 by simp];omega) hn).trans (Below.heap_alloc wv _ b hb))
  have HSV:Xq (gs<wv.heap.size/\gR<wv.heap.size):=Xj ⟨HDh.o.sc.lt,HDh.o.rc.lt⟩
  have HF9:Xq (∀ x ar,Xk wv (λ b=>wd.heap.size<=b) ar (.slice a n c)->(nx=0->x=.nil/\xs=[])->(nx=1->Ys wq (λ b=>TS w gR gs b/\some b≠(Value.slice ax nx cx).ownBlock) x xs)->Ys w9 (λ b=>w.heap.size<=b/\b≠gR/\b≠gs/\some b≠some g9) (x.app (Xh h ar)) (xs++hdc h (.slice a n c))):=Xj (λ x ar hA h0 h1=>by
   have e1:=HG.o
   have e2:=HSV.o
   have e3:=HS9.o
   have e4:=HS4.o
   have e5:=HBd.o.size
   have lq:=HDe.o.sc.lt
   have lq2:=HDe.o.rc.lt
   have lq3:=HDe.o.ms.gr.size
   have kA:Ys w9 (λ b=>w.heap.size<=b/\b≠gR/\b≠gs/\some b≠some g9) (Xh h ar) (hdc h (.slice a n c)):=Xk.one (hA.keep (λ b hb hlt=>⟨HK9.o b hlt (λ e=>by have:=(HOd.o.lt b e.symm).2;omega),by omega,by omega,by omega,by
    rcases e1.1 with e|e
    ·intro e6;rw[<- e] at e6;have:=(HOd.o.lt b e6.symm).2;omega
    simp;omega⟩) (by omega))
   by_cases hx:nx=0
   ·obtain⟨rfl,rfl⟩:=h0 hx
    exact kA
   refine Ys.app ((h1 (by omega)).keep (λ b hb hlt=>⟨?_,hb.1.1,hb.1.2.1,hb.1.2.2,?_⟩) (by omega)) kA
   ·exact((HK9.o b (by omega) hb.2).trans (HKP9.o b hb.1.1 (by omega))).trans ((HBd.o.block b (by omega)).trans (HKP4.o b hb.1.1 hlt))
   rcases e1.1 with e|e
   ·rw[<- e];exact hb.2
   simp;omega)
  change K0 (Act.put _ (some 29) (.slice (some ⟨g9,0,none⟩) (nx+1) c9)) w9
  refine goK hK (λ _=>HDj.o.sc.cells.2.2.2.1) ?_
  clear hK K0 hown9 hgrow9 Ho hlt9
  refine tkY 6 30 (λ hjl=>by simp at hjl) ?_
  obtain⟨s0,s1,s2,s3,s4,s5⟩:=HDj.o.sc.cells
  obtain⟨j0,j1,j2,j3,j4,j5⟩:=HDj.o.sc.froz
  have hlS:=HDj.o.sc.lt
  refine rdK 7 λ K0 hK=>?_
  go_simp
  refine goK hK (λ hjl=>by simp at hjl) ?_
  clear hK K0
  refine Qt (by kernel_rfl) ?_ _
  refine Xz ?_
  have HDk:=Xj (HDj.o.sx (.slice (some ⟨g9,0,none⟩) (nx+1) c9))
  have HGN:Xq (g9≠gs/\g9≠gR):=Xj (by
   have e1:=HG.o
   have e2:=HSV.o
   have e3:=HC.o.2.2.2.1
   have e4:=HC.o.2.2.2.2.1
   rcases e1.1 with e|e
   ·rw[e] at e3 e4;exact⟨λ e5=>e4 (by rw[e5]),λ e5=>e3 (by rw[e5])⟩
   omega)
  have HA9:Xq (∀ F,Ys w9 (λ b=>w.heap.size<=b/\b≠gR/\b≠gs/\some b≠some g9) F (xs++hdc h (.slice a n c))->F.len=nx+1->Xk (w9.setCell ⟨gs,3,none⟩ (.slice (some ⟨g9,0,none⟩) (nx+1) c9)) (TS w gR gs) F (.slice (some ⟨g9,0,none⟩) (nx+1) c9)):=Xj (λ F hF hl=>by
   refine Ew (Xk.of_own (e:=37) (size:=6) (base:=w.heap.size) (by rw[hl];exact HO9.o) (hF.keep (λ b hb _=>⟨rfl,hb.1,hb.2.1,hb.2.2.1⟩) (Nat.le_refl _)) (λ b hb=>?_))
   injection hb with hb
   subst hb
   exact⟨(HO9.o.lt _ rfl).1,HGN.o.2,HGN.o.1⟩)
  have HRR:Xq (r9.length<=rest.length/\Rv at_ bad rest k2 tn nm (.slice (some ⟨g9,0,none⟩) (nx+1) c9) Xs Xs at9 bad9 r9 w gR gs (w9.setCell ⟨gs,3,none⟩ (.slice (some ⟨g9,0,none⟩) (nx+1) c9))):=Xj (by
   have l1:=hqw.o
   have l2:=HE4.o.1
   have l3:=HC.o.2.2.2.2.2.1
   have l4:=HRT.o
   refine⟨by omega,?_⟩
   rcases HC.o.2.2.2.2.2.2 with⟨e1,e2,e3,e4⟩|⟨e1,e2,e3,e4,r1,rb,badb,atb,x,e5,e6,e7⟩
   ·subst e3
    by_cases hb:bad=true
    ·rcases e4 with⟨e4,_⟩|⟨e4,_,e5,e6⟩
     ·rw[hb] at e4;cases e4
     rcases HE4.o.2 with⟨f1,_⟩|⟨f1,_,f2,f3⟩
     ·rw[e4] at f1;cases f1
     rcases hxp.o with⟨g1,_⟩|⟨g1,_⟩|⟨g1,g2,g3,g4⟩
     ·rw[f1] at g1;cases g1
     ·rw[f1] at g1;cases g1
     exact .inr (.inr ⟨hb,g2,by omega,by rw[g4,f3,e6]⟩)
    have hb:bad=false:=by simpa using hb
    have hh:=Ku (HNW.o hb)
    have H4:(bad4=false/\hk rest=.val 2 nm r4)\/(bad4=true/\hk rest=.bad r4):=by
     rcases e4 with⟨_,k2,k3,k4,k5,k6⟩|⟨k1,k2,_,k4⟩
     ·rw[if_pos k3,if_neg (by rw[k5];simp)] at hh
      rcases HE4.o.2 with⟨_,c2,c3,c4⟩|⟨c1,c2,_,c4⟩
      ·rw[k6] at c3 c4
       rw[if_pos c3] at hh
       exact .inl ⟨c2,by rw[hh,k4,c4]⟩
      have c3:=c2 k2
      rw[k6] at c3 c4
      rw[if_neg (by rw[c3];simp)] at hh
      exact .inr ⟨c1,by rw[hh,c4]⟩
     rw[if_neg (k2 hb)] at hh
     rcases HE4.o.2 with⟨c1,_⟩|⟨c1,_,_,c4⟩
     ·rw[k1] at c1;cases c1
     exact .inr ⟨c1,by rw[hh,c4,k4]⟩
    rcases Wz H4 hxp.o with⟨b1,ar,b2,b3,b4⟩|⟨b1,b2⟩
    ·rw[HLN.o] at b2
     refine .inl ⟨hb,b1,Xh h ar,.nil,.nil,b2,HA9.o _ (HF9.o .nil ar b3 (λ _=>⟨rfl,e2⟩) (λ e=>by omega)) (by rw[e1];rfl),Xl.nil _ _,Xl.nil _ _,?_⟩
     rcases e4 with⟨_,_,_,_,_,k6⟩|⟨k1,_⟩
     ·rw[k6] at l2;omega
     rcases HE4.o.2 with⟨c1,_⟩|⟨c1,_⟩
     ·rw[k1] at c1;cases c1
     rcases hxp.o with⟨g1,_⟩|⟨g1,_⟩|⟨_,g2,_⟩
     ·rw[c1] at g1;cases g1
     ·rw[c1] at g1;cases g1
     rw[b1] at g2;cases g2
    exact .inr (.inl ⟨hb,b1,b2⟩)
   subst e2
   rcases Iz e5 (N:=Ys wq (λ b=>TS w gR gs b/\some b≠(Value.slice ax nx cx).ownBlock) x xs/\x.len=1) e6 e7 HE4.o.2 hxp.o with⟨b1,ar,b2,b3,b4,b5⟩|⟨b1,b2⟩
   ·rw[HLN.o] at b2
    exact .inl ⟨e3,b1,_,.nil,.nil,b2,HA9.o _ (HF9.o x ar b3 (λ e=>by omega) (λ _=>b4.1)) (by rw[Fo.len_app,b4.2,e1];rfl),Xl.nil _ _,Xl.nil _ _,by omega⟩
   exact .inr (.inl ⟨e3,b1,b2⟩))
  clear s0 s1 s2 s3 s4 s5 j0 j1 j2 j3 j4 j5 hlS
  go_wp2_with fail
  go_meet
  exact⟨k2,nm,some ⟨g9,0,none⟩,nx+1,c9,none,0,0,none,0,0,at9,bad9,r9,Xj ⟨HDk.o,HRR.o.1,HRR.o.2⟩⟩
 case rest =>
 rename World=>wq
 obtain⟨k,nm,ax,nx,cx,ta,tm,tc,ea,en,ec,at4,bad4,r4,HC⟩:=hcut
 have hZ:=Ic HC.o.1 HC.o.2.1 HC.o.2.2
 obtain⟨y0,y1,y2,y3,y4,y5⟩:=HC.o.1.rc.cells
 obtain⟨g0,g1,g2,g3,g4,g5⟩:=HC.o.1.rc.froz
 have hlR:=HC.o.1.rc.lt
 obtain⟨s0,s1,s2,s3,s4,s5⟩:=HC.o.1.sc.cells
 have hlS:=HC.o.1.sc.lt
 go_wp2_with fail
 obtain⟨wz,hwz⟩:∃ W,set6 wq gR (.int .i64 k) (.int .i64 tn) (.string (st nm)) (.slice ax nx cx) (.slice ta tm tc) (.slice ea en ec)=W:=⟨_,rfl⟩
 have hY:=hwz
 unfold set6 at hY
 (try rw[hY])
 obtain⟨hd,hep⟩:=hZ wz hwz.symm
 obtain⟨d0,d1,d2,d3,d4,d5⟩:=hd.cells
 clear hZ
 refine bodyPost_ret (v:=stv k tn nm (.slice ax nx cx) (.slice ta tm tc) (.slice ea en ec)) (by simp[results,Tryz.results172,go_sem,d0,d1,d2,d3,d4,d5]) rfl ?_
 exact hep
end
end Go.Proofs.YtldgghnjminhiaaGreatDoor
