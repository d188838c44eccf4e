/-
  WALK of the implementation's parser's choice. (Filled in from a template of this repo.)
-/
import Derived.Test.YtpcdinelpfbpfaaDoorPqV
namespace Go.Proofs.YtpcdinelpfbpfaaDoor
open Go.ChangeShapes Go.WideShapes Go.ChangeAt Go.RowKit
set_option linter.unusedVariables false
set_option linter.unusedSimpArgs false

theorem sts_s6 {w:World} {P:Nat->Prop} {S:Sf} {sl:Value} {g:Nat} {v0 v1 v2 v3 v4 v5:Value} (h:StsAt w P S sl) (hP : ∀ b,P b->b≠g):StsAt (set6 w g v0 v1 v2 v3 v4 v5) P S sl:=h.keep (fun b hb hlt=>⟨other_set6 b (hP b hb),hb⟩) (by rw [size_set6];exact Nat.le_refl _)
theorem sts_mono {w:World} {P Q:Nat->Prop} {S:Sf} {sl:Value} (h:StsAt w P S sl) (hPQ : ∀ b,P b->b<w.heap.size->Q b):StsAt w Q S sl:=h.keep (fun b hb hlt=>⟨rfl,hPQ b hb hlt⟩) (Nat.le_refl _)
theorem sts_gr {w w':World} {P:Nat->Prop} {S:Sf} {sl:Value} {g:Nat} (h:StsAt w P S sl) (hg:w.grownBy w' (some g)) (hP : ∀ b,P b->b≠g):StsAt w' P S sl:=h.keep (fun b hb hlt=>⟨hg.block b hlt (fun e=>by injection e with e;exact hP b hb e),hb⟩) hg.size
theorem sts_s1 {w:World} {P:Nat->Prop} {S:Sf} {sl:Value} {p:Addr} {v:Value} (h:StsAt w P S sl) (hP : ∀ b,P b->b≠p.block):StsAt (w.setCell p v) P S sl:=h.keep (fun b hb hlt=>⟨heap_setCell_other w p b v (hP b hb),hb⟩) (by simp [World.setCell])
def StQ (K:PC) (ts:List Tk) (m:Nat) (w:World) (e:Ending) (w':World):Prop :=
 ∃ (k ln:Int) (nm:Bt) (ax:Option Addr) (nx cx:Nat) (ta:Option Addr) (tn tc:Nat) (ea:Option Addr) (en ec:Nat) (ok:Bool) (at2:Nat) (r:List Tk),
  e=.returned (.tuple #[stv k ln nm (.slice ax nx cx) (.slice ta tn tc) (.slice ea en ec),.bool ok])/\PAt w' K at2 r/\r.length<=m/\w.grownBy w' (some K.g) /\
  Hid ((ok=true /\ ∃ xs th el,Qs .st ts (.ok (oneS k ln nm xs th el) r)/\ArgsAt w' (fun b=>w.heap.size<=b) xs (.slice ax nx cx)/\StsAt w' (fun b=>w.heap.size<=b) th (.slice ta tn tc)/\StsAt w' (fun b=>w.heap.size<=b) el (.slice ea en ec)/\r.length<ts.length)\/(ok=false/\Qs .st ts (.bad r)))
def BlQ (K:PC) (rest:List Tk) (w:World) (e:Ending) (w':World):Prop :=
 ∃ (a:Option Addr) (n c:Nat) (ok:Bool) (at2:Nat) (r:List Tk),e=.returned (.tuple #[.slice a n c,.bool ok])/\PAt w' K at2 r/\r.length<=rest.length/\w.grownBy w' (some K.g) /\
  Hid ((ok=true /\ ∃ S,Qs .bl rest (.ok S r)/\StsAt w' (fun b=>w.heap.size<=b) S (.slice a n c))\/(ok=false/\Qs .bl rest (.bad r)))
def CBl (m:Nat):Prop := ∀ (K:PC) (at_:Nat) (rest:List Tk) (w:World),PAt w K at_ rest->rest.length<=m->Calls Tryd.prog 40 #[.pointer (some ⟨K.g,0,none⟩)] w (BlQ K rest w)
abbrev nilS:Value:=.slice none 0 0
abbrev zstm:Obj:=.cells #[.int .i64 0,.int .i64 0,.string { data := #[] },.slice none 0 0,.slice none 0 0,.slice none 0 0] 83
theorem Ls.zero (w:World):Ls (w.alloc zstm) w.heap.size 0 0 [] nilS nilS nilS:=heap_alloc_new w _
theorem Ls.s6 {wx:World} {b:Nat} {k ln:Int} {nm:Bt} {vx vt ve:Value} (h:Ls wx b k ln nm vx vt ve) (k2 ln2:Int) (n2:Bt) (x2 t2 e2:Value):Ls (set6 wx b (.int .i64 k2) (.int .i64 ln2) (.string (st n2)) x2 t2 e2) b k2 ln2 n2 x2 t2 e2:=heap_set6 h
theorem sq_fin {K:PC} {ts r:List Tk} {m at2 gR:Nat} {w wx:World} {k0 l0:Int} {n0:Bt} {x0 t0 e0:Value} (M:MS K w wx at2 r) (R:Ls wx gR k0 l0 n0 x0 t0 e0) (b1:w.heap.size<=gR) (hl:r.length<=m) (k ln:Int) (nm:Bt) (ax:Option Addr) (nx cx:Nat) (ta:Option Addr) (tn tc:Nat) (ea:Option Addr) (en ec:Nat) (ok:Bool)
  (hres:(ok=true /\ ∃ xs th el,Qs .st ts (.ok (oneS k ln nm xs th el) r)/\ArgsAt wx (fun b=>w.heap.size<=b/\b≠gR) xs (.slice ax nx cx)/\StsAt wx (fun b=>w.heap.size<=b/\b≠gR) th (.slice ta tn tc)/\StsAt wx (fun b=>w.heap.size<=b/\b≠gR) el (.slice ea en ec)/\r.length<ts.length)\/(ok=false/\Qs .st ts (.bad r))) (W:World)
  (hW:W=set6 wx gR (.int .i64 k) (.int .i64 ln) (.string (st nm)) (.slice ax nx cx) (.slice ta tn tc) (.slice ea en ec)) :
  Ls W gR k ln nm (.slice ax nx cx) (.slice ta tn tc) (.slice ea en ec)/\StQ K ts m w (.returned (.tuple #[stv k ln nm (.slice ax nx cx) (.slice ta tn tc) (.slice ea en ec),.bool ok])) W:=by
 subst hW
 have h2:=M.s6 b1 (.int .i64 k) (.int .i64 ln) (.string (st nm)) (.slice ax nx cx) (.slice ta tn tc) (.slice ea en ec)
 refine⟨R.s6 _ _ _ _ _ _,k,ln,nm,ax,nx,cx,ta,tn,tc,ea,en,ec,ok,at2,r,rfl,h2.pat,hl,h2.gr,Lib.hid ?_⟩
 rcases hres with⟨e1,xs,th,el,e2,e3,e4,e5,e6⟩ | e
 ·exact .inl ⟨e1,xs,th,el,e2,args_mono (args_s6 e3 (fun b hb=>hb.2)) (fun b hb _=>hb.1),sts_mono (sts_s6 e4 (fun b hb=>hb.2)) (fun b hb _=>hb.1),sts_mono (sts_s6 e5 (fun b hb=>hb.2)) (fun b hb _=>hb.1),e6⟩
 ·exact .inr e
set_option maxRecDepth 100000 in
set_option maxHeartbeats 16000000 in
theorem choice_of (m:Nat) (hB:CBl m) (K:PC) (at_:Nat) (rest ts:List Tk) (k ln:Int) (w:World) (hP:PAt w K at_ rest) (hm:rest.length<=m) (hh:hk ts=.cho k rest) (hln:lnOf ts=ln) (hrt:rest.length<ts.length) :
  Calls Tryd.prog 68 #[.pointer (some ⟨K.g,0,none⟩),stv k ln [] (.slice none 0 0) (.slice none 0 0) (.slice none 0 0)] w (StQ K ts rest.length w):=by
 have HM1:=Lib.hid (((MS.init hP).al (.cells (scs k ln [] nilS nilS nilS) 83)).al zstm)
 have HS1:=Lib.hid ((Ls.new w k ln [] nilS nilS nilS).al zstm)
 have HR1:=Lib.hid (Ls.zero (w.alloc (.cells (scs k ln [] nilS nilS nilS) 83)))
 have HSZ:Hid ((w.alloc (.cells (scs k ln [] nilS nilS nilS) 83)).heap.size=w.heap.size+1):=Lib.hid (by simp)
 have HB:=Lib.hid hB
 have HMm:=Lib.hid hm
 have HH:=Lib.hid (And.intro hh hln)
 have HTS:=Lib.hid hrt
 clear hB hP hm hh hln hrt
 go_enter Tryd.func68,Tryd.ntmps68
 go_upto_region 1 with fail
 obtain⟨w1,hw1⟩ : ∃ W,(w.alloc (.cells (scs k ln [] nilS nilS nilS) 83)).alloc zstm=W:=⟨_,rfl⟩
 obtain⟨gs,hgs⟩ : ∃ x,w.heap.size=x:=⟨_,rfl⟩
 (try rw [show (w.alloc (.cells #[.int .i64 k,.int .i64 ln,.string (st []),.slice none 0 0,.slice none 0 0,.slice none 0 0] 83)).alloc (.cells #[.int .i64 0,.int .i64 0,.string { data := #[] },.slice none 0 0,.slice none 0 0,.slice none 0 0] 83)=w1 from hw1])
 rw [HSZ.out] at HR1
 rw [hw1,hgs] at HS1 HR1
 rw [hw1] at HM1
 (try rw [hgs])
 have HGS:=Lib.hid hgs
 obtain⟨gR,hgR⟩ : ∃ x,gs+1=x:=⟨_,rfl⟩
 rw [hgR] at HR1
 (try rw [hgR])
 have HGR:Hid (w.heap.size=gs/\gR=gs+1):=Lib.hid ⟨hgs,hgR.symm⟩
 have HZ1:Hid (w1.heap.size=gs+2):=Lib.hid (by rw [<- hw1,<- hgs];simp)
 clear hw1 hgs hgR HSZ HGS
 go_wp2_with fail
 refine(pvalue_any K w at_ gs rest k ln [] nilS nilS nilS 0 [] w1 HM1.out HS1.out (World.ownsRow_nil _ _ _ _) (by have:=HGR.out.1;omega) (fun e=>nomatch e) (by omega)).mono ?_
 rintro e w2 ⟨ok,at2,r,g9,c9,h,a,n,c,rfl,hm2,hle2,hs2,ho2,hg9,hsz2,hres⟩
 have HM2:=Lib.hid hm2
 have HS2:=Lib.hid hs2
 have HO2:=Lib.hid ho2
 have HR2:Hid (Ls w2 gR 0 0 [] nilS nilS nilS):=Lib.hid ((hres.out.1 gR HR1.out.lt (by have:=HM1.out.gl;have:=HGR.out;omega) (by have:=HGR.out;omega) (fun e=>nomatch e)).trans HR1.out)
 have HG9:Hid (gs+2<=g9/\w1.heap.size<=w2.heap.size):=Lib.hid ⟨by rcases hg9 with e | e;(cases e);(have:=HZ1.out;omega),hsz2⟩
 have HLE:=Lib.hid hle2
 have HRS:Hid ((ok=true /\ ∃ ar,Ps .ex rest (.ok (one1 h ar) r)/\ArgsAt w2 (fun b=>w1.heap.size<=b/\b≠g9) ar (.slice a n c)/\r.length<rest.length)\/(ok=false/\Ps .ex rest (.bad r))):=Lib.hid hres.out.2
 clear hm2 hle2 hs2 ho2 hg9 hsz2 hres HM1 HS1 HR1
 cases ok
 ·have HBD:Hid (Qs .st ts (.bad r)):=Lib.hid (by
   rcases HRS.out with⟨h1,_⟩ | ⟨_,h1⟩
   ·cases h1
   ·exact Qs.cho_bad HH.out.1 h1)
  obtain⟨y0,y1,y2,y3,y4,y5⟩:=HR2.out.cells
  obtain⟨g0,g1,g2,g3,g4,g5⟩:=HR2.out.froz
  have hlR:=HR2.out.lt
  obtain⟨s0,s1,s2,s3,s4,s5⟩:=HS2.out.cells
  have hlS:=HS2.out.lt
  go_wp2_with fail
  have hfin:=sq_fin (ts:=ts) (m:=rest.length) HM2.out HR2.out (show w.heap.size<=gR by have:=HGR.out;omega) (HLE.out) k ln [] (some ⟨g9,0,none⟩) (0+1) c9 none 0 0 none 0 0 false (.inr ⟨rfl,HBD.out⟩)
  obtain⟨wz,hwz⟩ : ∃ W,set6 w2 gR (.int .i64 k) (.int .i64 ln) (.string (st [])) (.slice (some ⟨g9,0,none⟩) (0+1) c9) (.slice none 0 0) (.slice none 0 0)=W:=⟨_,rfl⟩
  have hwz2:=hwz
  unfold set6 at hwz2
  (try rw [hwz2])
  obtain⟨hd,hep⟩:=hfin wz hwz.symm
  obtain⟨d0,d1,d2,d3,d4,d5⟩:=hd.cells
  clear hfin
  refine bodyPost_ret (v:=.tuple #[stv k ln [] (.slice (some ⟨g9,0,none⟩) (0+1) c9) (.slice none 0 0) (.slice none 0 0),.bool false]) (by simp [results,Tryd.results68,go_sem,d0,d1,d2,d3,d4,d5]) rfl ?_
  exact hep
 ·obtain⟨ar,hps,har,hlt⟩ : ∃ ar,Ps .ex rest (.ok (one1 h ar) r)/\ArgsAt w2 (fun b=>w1.heap.size<=b/\b≠g9) ar (.slice a n c)/\r.length<rest.length:=by
   rcases HRS.out with⟨_,h1⟩ | ⟨h1,_⟩
   ·exact h1
   ·cases h1
  have HPS:=Lib.hid hps
  have HLT:=Lib.hid hlt
  have HAX:Hid (ArgsAt w2 (fun b=>w.heap.size<=b/\b≠gR/\b≠gs) (one1 h ar) (.slice (some ⟨g9,0,none⟩) (0+1) c9)):=Lib.hid (ArgsAt.of_own (e:=40) (size:=6) (base:=w.heap.size) (F:=one1 h ar) HO2.out (ArgsAt.one (args_mono har (fun b hb _=>⟨by have:=HZ1.out;have:=HGR.out;omega,by have:=HZ1.out;have:=HGR.out;omega,by have:=HZ1.out;omega⟩))) (fun b hb=>by have hb2:some g9=some b:=hb;injection hb2 with hb2;have:=HG9.out;have:=HGR.out;omega))
  clear hps har hlt HRS
  go_wp2_with fail
  refine(HB.out K at2 r w2 HM2.out.pat (by have:=HLT.out;have:=HMm.out;omega)).mono ?_
  rintro e w3 ⟨ta,tn,tc,ok3,at3,r3,rfl,hp3,hle3,hg3,hres3⟩
  have hgl:=HM2.out.gl
  have hgr:w.heap.size<=gs/\gs<=w.heap.size/\gs<gR/\gR<=gs+1:=by have:=HGR.out;omega
  have HM3:=Lib.hid (HM2.out.call hp3 hg3)
  have HS3:=Lib.hid (HS2.out.grw hg3 (by intro e;injection e with e;omega))
  have HR3:=Lib.hid (HR2.out.grw hg3 (by intro e;injection e with e;omega))
  have HAX3:=Lib.hid (args_gr HAX.out hg3 (fun b hb=>by have:=hb.1;omega))
  have HLE3:Hid (r3.length<=rest.length/\r3.length<rest.length):=Lib.hid ⟨by have:=HLT.out;omega,by have:=HLT.out;omega⟩
  have HRS3:Hid ((ok3=true /\ ∃ S,Qs .bl r (.ok S r3)/\StsAt w3 (fun b=>w.heap.size<=b/\b≠gR/\b≠gs) S (.slice ta tn tc))\/(ok3=false/\Qs .bl r (.bad r3))):=Lib.hid (by
   rcases hres3.out with⟨e1,S,e2,e3⟩ | hr
   ·exact .inl ⟨e1,S,e2,sts_mono e3 (fun b hb _=>by have:=HG9.out.2;have:=HZ1.out;exact⟨by omega,by omega,by omega⟩)⟩
   ·exact .inr hr)
  clear hp3 hg3 hle3 hres3 HM2 HS2 HR2 HO2 HAX
  obtain⟨s0,s1,s2,s3,s4,s5⟩:=HS3.out.cells
  obtain⟨j0,j1,j2,j3,j4,j5⟩:=HS3.out.froz
  have hlS:=HS3.out.lt
  have HM4:=Lib.hid (HM3.out.sc (p:=⟨gs,4,none⟩) (by show w.heap.size<=gs;omega) (.slice ta tn tc))
  have HS4:=Lib.hid (HS3.out.sth (.slice ta tn tc))
  have HR4:=Lib.hid (HR3.out.s1 (p:=⟨gs,4,none⟩) (v:=.slice ta tn tc) (by show gR≠gs;omega))
  have HAX4:=Lib.hid (args_s1 (p:=⟨gs,4,none⟩) (v:=.slice ta tn tc) HAX3.out (fun b hb=>hb.2.2))
  have HRS4:Hid ((ok3=true /\ ∃ S,Qs .bl r (.ok S r3)/\StsAt (w3.setCell ⟨gs,4,none⟩ (.slice ta tn tc)) (fun b=>w.heap.size<=b/\b≠gR/\b≠gs) S (.slice ta tn tc))\/(ok3=false/\Qs .bl r (.bad r3))):=Lib.hid (by
   rcases HRS3.out with⟨e1,S,e2,e3⟩ | hr
   ·exact .inl ⟨e1,S,e2,sts_s1 e3 (fun b hb=>hb.2.2)⟩
   ·exact .inr hr)
  go_upto_region 5 with fail
  obtain⟨w4,hw4⟩ : ∃ W,w3.setCell ⟨gs,4,none⟩ (.slice ta tn tc)=W:=⟨_,rfl⟩
  (try rw [hw4])
  rw [hw4] at HM4 HS4 HR4 HAX4 HRS4
  clear hw4 s0 s1 s2 s3 s4 s5 j0 j1 j2 j3 j4 j5 hlS HM3 HS3 HR3 HAX3 HRS3
  cases ok3
  ·have HBD:Hid (Qs .st ts (.bad r3)):=Lib.hid (by
    rcases HRS4.out with⟨h1,_⟩ | ⟨_,h1⟩
    ·cases h1
    ·exact Qs.cho_bl HH.out.1 HPS.out h1)
   obtain⟨y0,y1,y2,y3,y4,y5⟩:=HR4.out.cells
   obtain⟨g0,g1,g2,g3,g4,g5⟩:=HR4.out.froz
   have hlR:=HR4.out.lt
   obtain⟨s0,s1,s2,s3,s4,s5⟩:=HS4.out.cells
   have hlS:=HS4.out.lt
   go_wp2_with fail
   have hfin:=sq_fin (ts:=ts) (m:=rest.length) HM4.out HR4.out (show w.heap.size<=gR by have:=HGR.out;omega) (HLE3.out.1) k ln [] (some ⟨g9,0,none⟩) (0+1) c9 ta tn tc none 0 0 false (.inr ⟨rfl,HBD.out⟩)
   obtain⟨wz,hwz⟩ : ∃ W,set6 w4 gR (.int .i64 k) (.int .i64 ln) (.string (st [])) (.slice (some ⟨g9,0,none⟩) (0+1) c9) (.slice ta tn tc) (.slice none 0 0)=W:=⟨_,rfl⟩
   have hwz2:=hwz
   unfold set6 at hwz2
   (try rw [hwz2])
   obtain⟨hd,hep⟩:=hfin wz hwz.symm
   obtain⟨d0,d1,d2,d3,d4,d5⟩:=hd.cells
   clear hfin
   refine bodyPost_ret (v:=.tuple #[stv k ln [] (.slice (some ⟨g9,0,none⟩) (0+1) c9) (.slice ta tn tc) (.slice none 0 0),.bool false]) (by simp [results,Tryd.results68,go_sem,d0,d1,d2,d3,d4,d5]) rfl ?_
   exact hep
  ·obtain⟨th,hth,hta⟩ : ∃ S,Qs .bl r (.ok S r3)/\StsAt w4 (fun b=>w.heap.size<=b/\b≠gR/\b≠gs) S (.slice ta tn tc):=by
    rcases HRS4.out with⟨_,h1⟩ | ⟨h1,_⟩
    ·exact h1
    ·cases h1
   have HTH:=Lib.hid hth
   have HTA:=Lib.hid hta
   clear hth hta HRS4
   cases hk4:(k==4)
   ·have HOK:Hid (Qs .st ts (.ok (oneS k ln [] (one1 h ar) th .nil) r3)):=Lib.hid (by
     have:=Qs.cho_one HH.out.1 HPS.out HTH.out (fun e=>by rw [e.1] at hk4;cases hk4)
     rw [HH.out.2] at this
     exact this)
    obtain⟨y0,y1,y2,y3,y4,y5⟩:=HR4.out.cells
    obtain⟨g0,g1,g2,g3,g4,g5⟩:=HR4.out.froz
    have hlR:=HR4.out.lt
    obtain⟨s0,s1,s2,s3,s4,s5⟩:=HS4.out.cells
    have hlS:=HS4.out.lt
    go_wp2_with fail
    have hfin:=sq_fin (ts:=ts) (m:=rest.length) HM4.out HR4.out (show w.heap.size<=gR by have:=HGR.out;omega) (HLE3.out.1) k ln [] (some ⟨g9,0,none⟩) (0+1) c9 ta tn tc none 0 0 true (.inl ⟨rfl,_,th,.nil,HOK.out,args_mono HAX4.out (fun b hb _=>⟨hb.1,hb.2.1⟩),sts_mono HTA.out (fun b hb _=>⟨hb.1,hb.2.1⟩),StsAt.nil _ _,by have:=HLE3.out;have:=HTS.out;omega⟩)
    obtain⟨wz,hwz⟩ : ∃ W,set6 w4 gR (.int .i64 k) (.int .i64 ln) (.string (st [])) (.slice (some ⟨g9,0,none⟩) (0+1) c9) (.slice ta tn tc) (.slice none 0 0)=W:=⟨_,rfl⟩
    have hwz2:=hwz
    unfold set6 at hwz2
    (try rw [hwz2])
    obtain⟨hd,hep⟩:=hfin wz hwz.symm
    obtain⟨d0,d1,d2,d3,d4,d5⟩:=hd.cells
    clear hfin
    refine bodyPost_ret (v:=.tuple #[stv k ln [] (.slice (some ⟨g9,0,none⟩) (0+1) c9) (.slice ta tn tc) (.slice none 0 0),.bool true]) (by simp [results,Tryd.results68,go_sem,d0,d1,d2,d3,d4,d5]) rfl ?_
    exact hep
   ·have hk44:k=4:=by simpa using hk4
    subst hk44
    obtain⟨s0,s1,s2,s3,s4,s5⟩:=HS4.out.cells
    have hlS:=HS4.out.lt
    go_wp2_with fail
    refine(accept_any K at3 r3 [101,108,115,101] _ HM4.out.pat).mono ?_
    rintro e w5 ⟨at5,r5,rfl,hp5,hg5,hc5⟩
    have HM5:=Lib.hid (HM4.out.call hp5 hg5)
    have HS5:=Lib.hid (HS4.out.grw hg5 (by intro e;injection e with e;omega))
    have HR5:=Lib.hid (HR4.out.grw hg5 (by intro e;injection e with e;omega))
    have HAX5:=Lib.hid (args_gr HAX4.out hg5 (fun b hb=>by have:=hb.1;omega))
    have HTA5:=Lib.hid (sts_gr HTA.out hg5 (fun b hb=>by have:=hb.1;omega))
    clear hp5 hg5 HM4 HS4 HR4 HAX4 HTA s0 s1 s2 s3 s4 s5 hlS hk4
    rcases hc5 with⟨hT,rfl,rfl⟩ | ⟨hT,rfl,rfl⟩
    rotate_left
    ·have HOK:Hid (Qs .st ts (.ok (oneS 4 ln [] (one1 h ar) th .nil) r5)):=Lib.hid (by
      have:=Qs.cho_one HH.out.1 HPS.out HTH.out (fun e=>by have:=e.2;rw [hT] at this;cases this)
      rw [HH.out.2] at this
      exact this)
     (try rw [hT])
     clear hT
     obtain⟨y0,y1,y2,y3,y4,y5⟩:=HR5.out.cells
     obtain⟨g0,g1,g2,g3,g4,g5⟩:=HR5.out.froz
     have hlR:=HR5.out.lt
     obtain⟨s0,s1,s2,s3,s4,s5⟩:=HS5.out.cells
     have hlS:=HS5.out.lt
     go_wp2_with fail
     have hfin:=sq_fin (ts:=ts) (m:=rest.length) HM5.out HR5.out (show w.heap.size<=gR by have:=HGR.out;omega) (HLE3.out.1) 4 ln [] (some ⟨g9,0,none⟩) (0+1) c9 ta tn tc none 0 0 true (.inl ⟨rfl,_,th,.nil,HOK.out,args_mono HAX5.out (fun b hb _=>⟨hb.1,hb.2.1⟩),sts_mono HTA5.out (fun b hb _=>⟨hb.1,hb.2.1⟩),StsAt.nil _ _,by have:=HLE3.out;have:=HTS.out;omega⟩)
     obtain⟨wz,hwz⟩ : ∃ W,set6 w5 gR (.int .i64 4) (.int .i64 ln) (.string (st [])) (.slice (some ⟨g9,0,none⟩) (0+1) c9) (.slice ta tn tc) (.slice none 0 0)=W:=⟨_,rfl⟩
     have hwz2:=hwz
     unfold set6 at hwz2
     (try rw [hwz2])
     obtain⟨hd,hep⟩:=hfin wz hwz.symm
     obtain⟨d0,d1,d2,d3,d4,d5⟩:=hd.cells
     clear hfin
     refine bodyPost_ret (v:=.tuple #[stv 4 ln [] (.slice (some ⟨g9,0,none⟩) (0+1) c9) (.slice ta tn tc) (.slice none 0 0),.bool true]) (by simp [results,Tryd.results68,go_sem,d0,d1,d2,d3,d4,d5]) rfl ?_
     exact hep
    ·have HT:=Lib.hid hT
     (try rw [hT])
     clear hT
     have HRT:Hid (r3.tail.length<r3.length):=Lib.hid (tail_lt (by intro e;have:=HT.out;rw [e] at this;cases this))
     go_wp2_with fail
     refine(HB.out K (at3+1) r3.tail w5 HM5.out.pat (by have:=HLE3.out.2;have:=HRT.out;have:=HMm.out;omega)).mono ?_
     rintro e w6 ⟨ea,en,ec,ok6,at6,r6,rfl,hp6,hle6,hg6,hres6⟩
     have HM6:=Lib.hid ((HM5.out.call hp6 hg6).sc (p:=⟨gs,5,none⟩) (by show w.heap.size<=gs;omega) (.slice ea en ec))
     have HS6a:=Lib.hid (HS5.out.grw hg6 (by intro e;injection e with e;omega))
     have HS6:=Lib.hid (HS6a.out.sel (.slice ea en ec))
     have HR6:=Lib.hid ((HR5.out.grw hg6 (by intro e;injection e with e;omega)).s1 (p:=⟨gs,5,none⟩) (v:=.slice ea en ec) (by show gR≠gs;omega))
     have HAX6:=Lib.hid (args_s1 (p:=⟨gs,5,none⟩) (v:=.slice ea en ec) (args_gr HAX5.out hg6 (fun b hb=>by have:=hb.1;omega)) (fun b hb=>hb.2.2))
     have HTA6:=Lib.hid (sts_s1 (p:=⟨gs,5,none⟩) (v:=.slice ea en ec) (sts_gr HTA5.out hg6 (fun b hb=>by have:=hb.1;omega)) (fun b hb=>hb.2.2))
     have HLE6:Hid (r6.length<=rest.length):=Lib.hid (by have:=HLE3.out.2;have:=HRT.out;omega)
     have HRS6:Hid ((ok6=true /\ ∃ el,Qs .st ts (.ok (oneS 4 ln [] (one1 h ar) th el) r6)/\StsAt (w6.setCell ⟨gs,5,none⟩ (.slice ea en ec)) (fun b=>w.heap.size<=b/\b≠gR) el (.slice ea en ec))\/(ok6=false/\Qs .st ts (.bad r6))):=Lib.hid (by
      have hz:=HM5.out.gr.size
      have hr:=HR5.out.lt
      have hsl:=HS5.out.lt
      rcases hres6.out with⟨e1,S,e2,e3⟩ | ⟨e1,e2⟩
      ·refine .inl ⟨e1,S,?_,?_⟩
       ·have:=Qs.cho_two HH.out.1 HPS.out HTH.out ⟨rfl,HT.out⟩ e2
        rw [HH.out.2] at this
        exact this
       ·exact sts_mono (sts_s1 (p:=⟨gs,5,none⟩) (v:=.slice ea en ec) e3 (fun b hb=>by show b≠gs;omega)) (fun b hb _=>⟨by omega,by omega⟩)
      ·exact .inr ⟨e1,Qs.cho_two_bad HH.out.1 HPS.out HTH.out ⟨rfl,HT.out⟩ e2⟩)
     clear hp6 hg6 hle6 hres6 HM5 HS5 HR5 HAX5 HTA5
     obtain⟨s0,s1,s2,s3,s4,s5⟩:=HS6a.out.cells
     obtain⟨j0,j1,j2,j3,j4,j5⟩:=HS6a.out.froz
     have hlS:=HS6a.out.lt
     go_upto_region 9 with fail
     obtain⟨w7,hw7⟩ : ∃ W,w6.setCell ⟨gs,5,none⟩ (.slice ea en ec)=W:=⟨_,rfl⟩
     (try rw [hw7])
     rw [hw7] at HM6 HS6 HR6 HAX6 HTA6 HRS6
     clear hw7 s0 s1 s2 s3 s4 s5 j0 j1 j2 j3 j4 j5 hlS HS6a
     obtain⟨y0,y1,y2,y3,y4,y5⟩:=HR6.out.cells
     obtain⟨g0,g1,g2,g3,g4,g5⟩:=HR6.out.froz
     have hlR:=HR6.out.lt
     obtain⟨s0,s1,s2,s3,s4,s5⟩:=HS6.out.cells
     have hlS:=HS6.out.lt
     go_wp2_with fail
     have hfin:=sq_fin (ts:=ts) (m:=rest.length) HM6.out HR6.out (show w.heap.size<=gR by have:=HGR.out;omega) (HLE6.out) 4 ln [] (some ⟨g9,0,none⟩) (0+1) c9 ta tn tc ea en ec ok6 (by
      rcases HRS6.out with⟨e1,el,e2,e3⟩ | ⟨e1,e2⟩
      ·exact .inl ⟨e1,_,th,el,e2,args_mono HAX6.out (fun b hb _=>⟨hb.1,hb.2.1⟩),sts_mono HTA6.out (fun b hb _=>⟨hb.1,hb.2.1⟩),e3,by have:=HLE6.out;have:=HTS.out;omega⟩
      ·exact .inr ⟨e1,e2⟩)
     obtain⟨wz,hwz⟩ : ∃ W,set6 w7 gR (.int .i64 4) (.int .i64 ln) (.string (st [])) (.slice (some ⟨g9,0,none⟩) (0+1) c9) (.slice ta tn tc) (.slice ea en ec)=W:=⟨_,rfl⟩
     have hwz2:=hwz
     unfold set6 at hwz2
     (try rw [hwz2])
     obtain⟨hd,hep⟩:=hfin wz hwz.symm
     obtain⟨d0,d1,d2,d3,d4,d5⟩:=hd.cells
     clear hfin
     refine bodyPost_ret (v:=.tuple #[stv 4 ln [] (.slice (some ⟨g9,0,none⟩) (0+1) c9) (.slice ta tn tc) (.slice ea en ec),.bool ok6]) (by simp [results,Tryd.results68,go_sem,d0,d1,d2,d3,d4,d5]) rfl ?_
     exact hep
end Go.Proofs.YtpcdinelpfbpfaaDoor
