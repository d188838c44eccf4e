/-
  WALK of the implementation's ParseExpr. (Filled in from a template of this repo.)
-/
import Derived.Test.YtpcdinelpfbpfaaDoorPsJ
namespace Go.Proofs.YtpcdinelpfbpfaaDoor
open Go.ChangeShapes Go.WideShapes Go.ChangeAt Go.RowKit
set_option linter.unusedVariables false
set_option linter.unusedSimpArgs false

def natOf:Value->Nat
 | .int _ z=>z.toNat
 | _=>0

theorem tkLen_ge (ys:List Tk) (h : ∀ x∈ys,TokOk x):ys.length<=tkLen 0 ys:=by
 induction ys with
 | nil=>simp [tkLen]
 | cons x l ih =>
  have h1:=(h x (by simp)).pos
  have h2:=ih fun y hy=>h y (by simp [hy])
  simp only [List.length_cons,tkLen]
  omega
theorem scan_len {l:Bt} {ts:List Tk} (h:(scan l).1=some ts):ts.length<=l.length+1/\EndT ts:=by
 have e:scan l=(some ts,(scan l).2):=by rw [<- h]
 obtain⟨ys,ln,e1,_,h3,h4⟩:=scan_toks e
 have:=tkLen_ge ys h3
 refine⟨?_,EndT.scan e⟩
 rw [e1]
 simp
 omega
def PRes (y:PR) (w w':World) (e:Ending):Prop :=
 (∃ (h:Hd) (ar:Fo) (r:List Tk) (a:Option Addr) (n c:Nat),y=.ok (one1 h ar) r/\kOf r=0/\ArgsAt w' (fun b=>w.heap.size<=b) ar (.slice a n c)/\e=.returned (.tuple #[exv h (.slice a n c),.int .i64 0,.int .i64 0])) \/
 (∃ r,((∃ F,y=.ok F r/\kOf r≠0)\/y=.bad r)/\e=.returned (.tuple #[exv zhd (.slice none 0 0),.int .i64 (lnOf r),.int .i64 7]))
def PEPost (l:Bt) (w:World) (e:Ending) (w':World):Prop:=Below w.heap.size w w' /\
 ((65536<l.length/\e=.returned (.tuple #[exv zhd (.slice none 0 0),.int .i64 0,.int .i64 5])) \/
  (l.length<=65536/\(scan l).1=none/\e=.returned (.tuple #[exv zhd (.slice none 0 0),.int .i64 (scan l).2,.int .i64 6])) \/
  (l.length<=65536 /\ ∃ (ts:List Tk) (y:PR),(scan l).1=some ts/\Hid (Ps .ex ts y/\PRes y w w' e)))
theorem below_of_gr {w wx:World} {g:Nat} (h:w.grownBy wx (some g)) (hg:w.heap.size<=g):Below w.heap.size w wx :=
 ⟨h.os,h.tape,h.output,h.size,fun k hk=>h.block k hk (fun e=>by injection e with e;omega)⟩
theorem below_s6 {w wx:World} {g:Nat} {v0 v1 v2 v3 v4 v5:Value} (h:Below w.heap.size w wx) (hg:w.heap.size<=g):Below w.heap.size w (set6 wx g v0 v1 v2 v3 v4 v5) :=
 have k:=grown_set6 (v0:=v0) (v1:=v1) (v2:=v2) (v3:=v3) (v4:=v4) (v5:=v5) (row:=none) (⟨h.os,h.tape,h.output,h.size,fun k hk _=>h.block k hk⟩:w.grownBy wx none) hg
 ⟨k.os,k.tape,k.output,k.size,fun i hi=>k.block i hi (fun e=>nomatch e)⟩
theorem PAt.sc1 {w:World} {K:PC} {at_:Nat} {rest:List Tk} (h:PAt w K at_ rest) {b o:Nat} (hb:b≠K.g /\ ∀ x,K.al=some x->x.block≠b) (v:Value):PAt (w.setCell ⟨b,o,none⟩ v) K at_ rest :=
 h.grown (grownBy_set w b o v) (fun k e=>by injection e with e;subst e;exact hb)
theorem PAt.s6 {w:World} {K:PC} {at_:Nat} {rest:List Tk} (h:PAt w K at_ rest) {b:Nat} (hb:b≠K.g /\ ∀ x,K.al=some x->x.block≠b) (v0 v1 v2 v3 v4 v5:Value):PAt (set6 w b v0 v1 v2 v3 v4 v5) K at_ rest :=
 (((((h.sc1 hb v0).sc1 hb v1).sc1 hb v2).sc1 hb v3).sc1 hb v4).sc1 hb v5
set_option maxRecDepth 100000 in
set_option maxHeartbeats 8000000 in
theorem ParseExpr_any (T:Bt) (hT:T.length<=281474976710656) (w:World) (hw:Lad w):Calls Tryd.prog 10 #[.string (st T)] w (PEPost T w):=by
 have HW:=Lib.hid (hw.below (below_alloc w zex))
 have HR1:=Lib.hid (Lc.zero w)
 have HTl:=Lib.hid hT
 have HB1:=Lib.hid (below_alloc w zex)
 clear hw hT
 go_enter Tryd.func10,Tryd.ntmps10
 go_upto_region 1 with fail
 obtain⟨w1,hw1⟩ : ∃ W,w.alloc zex=W:=⟨_,rfl⟩
 obtain⟨gR,hgR⟩ : ∃ x,w.heap.size=x:=⟨_,rfl⟩
 (try rw [show w.alloc (.cells #[.int .i64 0,.int .i64 0,.int .i64 0,.int .i64 0,.string { data := #[] },.slice none 0 0] 40)=w1 from hw1])
 rw [hw1] at HW HR1 HB1
 rw [hgR] at HR1
 (try rw [hgR])
 have HGR:=Lib.hid hgR
 have HS1:Hid (w1.heap.size=gR+1):=Lib.hid (by rw [<- hw1,<- hgR];simp)
 clear hw1 hgR
 go_wp2_with fail
 refine(Scan_any (st T) (by show T.length<=_;exact HTl.out) _ HW.out).mono ?_
 rintro e w2 ⟨hb2,hp⟩
 have ed:(st T).data.toList=T:=by simp
 rw [ed] at hp
 have HR2:=Lib.hid (HR1.out.be hb2)
 have HB2:=Lib.hid (HB1.out.trans (hb2.mono HB1.out.size))
 have HS2:Hid (gR<w2.heap.size):=Lib.hid (by have:=HS1.out;have:=hb2.size;omega)
 have hend : ∀ (ln er:Int),(∀ W,W=set6 w2 gR (.int .i64 0) (.int .i64 0) (.int .i64 0) (.int .i64 0) (.string { data := #[] }) (.slice none 0 0)->Lc W gR zhd (.slice none 0 0)/\Below w.heap.size w W):=fun _ _ W hW=>by
  subst hW
  exact⟨HR2.out.s6 zhd _,below_s6 HB2.out (by have:=HGR.out;omega)⟩
 have HEND:=Lib.hid hend
 clear hend hb2 ed
 obtain⟨y0,y1,y2,y3,y4,y5⟩:=HR2.out.cells
 obtain⟨g0,g1,g2,g3,g4,g5⟩:=HR2.out.froz
 have hlR:=HR2.out.lt
 rcases hp with⟨hbig,rfl⟩ | ⟨hle,hsc,rfl⟩ | ⟨hle,ts,v,hsc,rfl,hown⟩
 ·have HX:=Lib.hid hbig
  clear hbig
  go_wp2_with fail
  obtain⟨wz,hwz⟩ : ∃ W,set6 w2 gR (.int .i64 0) (.int .i64 0) (.int .i64 0) (.int .i64 0) (.string { data := #[] }) (.slice none 0 0)=W:=⟨_,rfl⟩
  have hwz2:=hwz
  unfold set6 at hwz2
  (try rw [hwz2])
  obtain⟨hd,hbz⟩:=HEND.out 0 0 wz hwz.symm
  obtain⟨d0,d1,d2,d3,d4,d5⟩:=hd.cells
  refine bodyPost_ret (v:=.tuple #[exv zhd (.slice none 0 0),.int .i64 0,.int .i64 5]) (by simp [results,Tryd.results10,go_sem,d0,d1,d2,d3,d4,d5]) rfl ?_
  exact⟨hbz,.inl ⟨HX.out,rfl⟩⟩
 ·have HX:=Lib.hid (And.intro hle hsc)
  clear hle hsc
  go_wp2_with fail
  obtain⟨wz,hwz⟩ : ∃ W,set6 w2 gR (.int .i64 0) (.int .i64 0) (.int .i64 0) (.int .i64 0) (.string { data := #[] }) (.slice none 0 0)=W:=⟨_,rfl⟩
  have hwz2:=hwz
  unfold set6 at hwz2
  (try rw [hwz2])
  obtain⟨hd,hbz⟩:=HEND.out 0 0 wz hwz.symm
  obtain⟨d0,d1,d2,d3,d4,d5⟩:=hd.cells
  refine bodyPost_ret (v:=.tuple #[exv zhd (.slice none 0 0),.int .i64 (scan T).2,.int .i64 6]) (by simp [results,Tryd.results10,go_sem,d0,d1,d2,d3,d4,d5]) rfl ?_
  exact⟨hbz,.inr (.inl ⟨HX.out.1,HX.out.2,rfl⟩)⟩
 ·have hL:=scan_len hsc
  obtain⟨al,cl,rfl,_,hc1,hc2,htl,hbl⟩:=Tks.of_own hown
  have HX:=Lib.hid (And.intro hle hsc)
  have HAL:Hid (∀ x,al=some x->x.block≠gR):=Lib.hid (fun x hx=>by have:=hbl x hx;have:=HS1.out;omega)
  have HP:Hid (∀ W g,W=w2.alloc (.cells #[.slice al ts.length cl,.int .i64 0,.int .i64 0] 52)->g=w2.heap.size->PAt W ⟨g,al,cl,ts,0⟩ 0 ts):=Lib.hid (fun W g hW hg=>by
   subst hW
   subst hg
   exact⟨heap_alloc_new w2 _,htl.below (below_alloc w2 _),fun x hx=>by obtain⟨b,off,e2,hb,_⟩:=htl 0 (hdT ts) (by obtain⟨x,r,e⟩:=hL.2.cons;rw [e];rfl);rw [e2] at hx;injection hx with hx;subst hx;show b≠w2.heap.size;omega,by simp,hL.2,⟨hc1,hc2⟩,by show ts.length<=100000;have:=hL.1;omega⟩)
  have HR3:=Lib.hid (HR2.out.al (.cells #[.slice al ts.length cl,.int .i64 0,.int .i64 0] 52))
  have HB3:=Lib.hid (HB2.out.alloc (by exact HB2.out.size) (.cells #[.slice al ts.length cl,.int .i64 0,.int .i64 0] 52))
  clear hL hc1 hc2 htl hbl hle hsc hown y0 y1 y2 y3 y4 y5 g0 g1 g2 g3 g4 g5 hlR
  go_upto_region 5 with fail
  obtain⟨w3,hw3⟩ : ∃ W,w2.alloc (.cells #[.slice al ts.length cl,.int .i64 0,.int .i64 0] 52)=W:=⟨_,rfl⟩
  obtain⟨g,hg⟩ : ∃ x,w2.heap.size=x:=⟨_,rfl⟩
  have HP3:=Lib.hid (HP.out w3 g hw3.symm hg.symm)
  (try rw [hw3])
  rw [hw3] at HR3 HB3
  (try rw [hg])
  have HG3:Hid (gR<g):=Lib.hid (by have:=HS2.out;omega)
  clear HP hw3 hg
  go_wp2_with fail
  refine(pexpr_any ⟨g,al,cl,ts,0⟩ 0 ts _ HP3.out).mono ?_
  rintro e w4 ⟨h,a,n,c,ok,at2,r,rfl,hp4,hle4,hg4,hres⟩
  have HP4:=Lib.hid hp4
  have hgl:gR<g:=HG3.out
  have HR4:=Lib.hid (HR3.out.gr hg4 (show gR≠g by omega))
  have HB4:Hid (Below w.heap.size w w4):=Lib.hid (below_of_gr (g:=g) ⟨hg4.os.trans HB3.out.os,hg4.tape.trans HB3.out.tape,hg4.output.trans HB3.out.output,Nat.le_trans HB3.out.size hg4.size,fun k hk hn=>(hg4.block k (by have:=HB3.out.size;omega) hn).trans (HB3.out.block k hk)⟩ (by have:=HGR.out;omega))
  have HSZ:=Lib.hid (And.intro HB3.out.size HGR.out)
  have HS3:Hid (gR<w3.heap.size):=Lib.hid HR3.out.lt
  have HR5:=Lib.hid (HR4.out.s6 h (.slice a n c))
  have hp5:PAt (set6 w4 gR (.int .i64 h.k) (.int .i64 h.op) (.int .i64 h.v) (.int .i64 h.ln) (.string (st h.nm)) (.slice a n c)) ⟨g,al,cl,ts,0⟩ at2 r:=hp4.s6 ⟨by show gR≠g;omega,HAL.out⟩ _ _ _ _ _ _
  have HP5:=Lib.hid hp5
  obtain⟨y0,y1,y2,y3,y4,y5⟩:=HR4.out.cells
  obtain⟨g0,g1,g2,g3,g4,g5⟩:=HR4.out.froz
  have hlR:=HR4.out.lt
  have HRES:Hid ((ok=true /\ ∃ ar,Ps .ex ts (.ok (one1 h ar) r)/\ArgsAt w4 (fun b=>w3.heap.size<=b) ar (.slice a n c)/\r.length<ts.length)\/(ok=false/\Ps .ex ts (.bad r))):=hres
  clear hp4 hp5 hle4 hg4 hres HP4 HP3 HR3 HB3
  obtain⟨⟨rk,rn,rv,rt⟩,r1,hr1⟩:=HP5.out.en.cons
  have HKR:Hid (kOf r=rk/\lnOf r=rn):=Lib.hid (by rw [hr1];exact⟨rfl,rfl⟩)
  have HB5:=Lib.hid (below_s6 (v0:=.int .i64 h.k) (v1:=.int .i64 h.op) (v2:=.int .i64 h.v) (v3:=.int .i64 h.ln) (v4:=.string (st h.nm)) (v5:=.slice a n c) HB4.out (g:=gR) (by have:=HGR.out;omega))
  have HA5:Hid (∀ ar,ArgsAt w4 (fun b=>w3.heap.size<=b) ar (.slice a n c)->ArgsAt (set6 w4 gR (.int .i64 h.k) (.int .i64 h.op) (.int .i64 h.v) (.int .i64 h.ln) (.string (st h.nm)) (.slice a n c)) (fun b=>w.heap.size<=b/\b≠gR) ar (.slice a n c)):=Lib.hid (fun ar ha=>args_mono (args_s6 ha (fun b hb=>by have:=HSZ.out.1;have:=HS3.out;omega)) (fun b hb _=>⟨by have:=HSZ.out.1;omega,by have:=HS3.out;omega⟩))
  go_upto_region 6 with fail
  obtain⟨w5,hw5⟩ : ∃ W,set6 w4 gR (.int .i64 h.k) (.int .i64 h.op) (.int .i64 h.v) (.int .i64 h.ln) (.string (st h.nm)) (.slice a n c)=W:=⟨_,rfl⟩
  have hw52:=hw5
  unfold set6 at hw52
  (try rw [hw52])
  rw [hw5] at HR5 HP5 HB5 HA5
  clear hw5 hw52 y0 y1 y2 y3 y4 y5 g0 g1 g2 g3 g4 g5 hlR HR4 HB4
  have hfd0 : ∀ W:World,(Instr.field 56 (.agg #[.int .i64 rk,.int .i64 rn,.int .i64 rv,.string (st rt)]) 0).run Tryd.prog W=.ok (.int .i64 rk) W:=fun _=>by kernel_rfl
  have hfd1 : ∀ W:World,(Instr.field 56 (.agg #[.int .i64 rk,.int .i64 rn,.int .i64 rv,.string (st rt)]) 1).run Tryd.prog W=.ok (.int .i64 rn) W:=fun _=>by kernel_rfl
  have HLK:Hid (∀ wx,PAt wx ⟨g,al,cl,ts,0⟩ at2 r->Calls Tryd.prog 15 #[.pointer (some ⟨g,0,none⟩)] wx fun e w'=>e=.returned (.agg #[.int .i64 rk,.int .i64 rn,.int .i64 rv,.string (st rt)])/\Below wx.heap.size wx w'):=Lib.hid (fun wx h=>look_at ⟨g,al,cl,ts,0⟩ at2 rk rn rv rt r1 wx (by rw [<- hr1];exact h))
  clear hr1
  go_cut [34] from 27 to 34 (fun v34 wx=>v34=.bool (!ok||(rk != 0))/\Hid (Below w5.heap.size w5 wx))
  case first =>
   cases ok
   ·go_wp2_with fail
    go_meet
    exact⟨rfl,Lib.hid (Below.refl _ _)⟩
   ·go_wp2_with fail
    refine(HLK.out _ HP5.out).mono ?_
    rintro e w6 ⟨rfl,hb⟩
    have HB:=Lib.hid hb
    clear hb
    go_wp2_with fail
    go_meet
    exact⟨by simp [bne],HB⟩
  case rest =>
  obtain⟨rfl,HBc⟩:=hcut
  have HPc:=Lib.hid (HP5.out.below HBc.out)
  have HRc:=Lib.hid (HR5.out.be HBc.out)
  have HBw:=Lib.hid (HB5.out.trans (HBc.out.mono HB5.out.size))
  cases hq:(!ok||(rk != 0))
  ·obtain⟨rfl,rfl⟩:ok=true/\rk=0:=by
    cases ok
    ·simp at hq
    ·simp at hq;exact⟨rfl,hq⟩
   clear hq
   obtain⟨ar,hps,har,hlt⟩ : ∃ ar,Ps .ex ts (.ok (one1 h ar) r)/\ArgsAt w4 (fun b=>w3.heap.size<=b) ar (.slice a n c)/\r.length<ts.length:=by
    rcases HRES.out with⟨_,h1⟩ | ⟨h1,_⟩
    ·exact h1
    ·cases h1
   have HPS:=Lib.hid hps
   have HAc:=Lib.hid ((HA5.out ar har).keep (Q:=fun b=>w.heap.size<=b/\b≠gR) (fun b hb hlt=>⟨HBc.out.block b hlt,hb⟩) HBc.out.size)
   clear hps har hlt
   obtain⟨y0,y1,y2,y3,y4,y5⟩:=HRc.out.cells
   obtain⟨g0,g1,g2,g3,g4,g5⟩:=HRc.out.froz
   have hlR:=HRc.out.lt
   have HAZ:=Lib.hid (args_s6 (v0:=.int .i64 h.k) (v1:=.int .i64 h.op) (v2:=.int .i64 h.v) (v3:=.int .i64 h.ln) (v4:=.string (st h.nm)) (v5:=.slice a n c) HAc.out (fun b hb=>hb.2))
   have HDZ:=Lib.hid (HRc.out.s6 h (.slice a n c))
   have HBZ:=Lib.hid (below_s6 (v0:=.int .i64 h.k) (v1:=.int .i64 h.op) (v2:=.int .i64 h.v) (v3:=.int .i64 h.ln) (v4:=.string (st h.nm)) (v5:=.slice a n c) HBw.out (g:=gR) (by have:=HGR.out;omega))
   go_wp2_with fail
   obtain⟨wz,hwz⟩ : ∃ W,set6 wc gR (.int .i64 h.k) (.int .i64 h.op) (.int .i64 h.v) (.int .i64 h.ln) (.string (st h.nm)) (.slice a n c)=W:=⟨_,rfl⟩
   have hwz2:=hwz
   unfold set6 at hwz2
   (try rw [hwz2])
   rw [hwz] at HAZ HDZ HBZ
   obtain⟨d0,d1,d2,d3,d4,d5⟩:=HDZ.out.cells
   refine bodyPost_ret (v:=.tuple #[exv h (.slice a n c),.int .i64 0,.int .i64 0]) (by simp [results,Tryd.results10,go_sem,d0,d1,d2,d3,d4,d5]) rfl ?_
   exact⟨HBZ.out,.inr (.inr ⟨HX.out.1,ts,_,HX.out.2,Lib.hid ⟨HPS.out,.inl ⟨h,ar,r,a,n,c,rfl,HKR.out.1,args_mono HAZ.out (fun b hb _=>hb.1),rfl⟩⟩⟩)⟩
  ·have HY:Hid (∃ y,Ps .ex ts y/\((∃ F,y=.ok F r/\kOf r≠0)\/y=.bad r)):=Lib.hid (by
    rcases HRES.out with⟨rfl,ar,h1,_⟩ | ⟨rfl,h1⟩
    ·exact⟨_,h1,.inl ⟨_,rfl,by rw [HKR.out.1];simpa using hq⟩⟩
    ·exact⟨_,h1,.inr rfl⟩)
   clear hq
   go_wp2_with fail
   refine(HLK.out _ HPc.out).mono ?_
   rintro e w7 ⟨rfl,hb⟩
   have HR7:=Lib.hid (HRc.out.be hb)
   have HB7:=Lib.hid (HBw.out.trans (hb.mono HBw.out.size))
   clear hb
   obtain⟨y0,y1,y2,y3,y4,y5⟩:=HR7.out.cells
   obtain⟨g0,g1,g2,g3,g4,g5⟩:=HR7.out.froz
   have hlR:=HR7.out.lt
   have HDZ:=Lib.hid (HR7.out.s6 zhd (.slice none 0 0))
   have HBZ:=Lib.hid (below_s6 (v0:=.int .i64 0) (v1:=.int .i64 0) (v2:=.int .i64 0) (v3:=.int .i64 0) (v4:=.string { data := #[] }) (v5:=.slice none 0 0) HB7.out (g:=gR) (by have:=HGR.out;omega))
   go_wp2_with fail
   obtain⟨wz,hwz⟩ : ∃ W,set6 w7 gR (.int .i64 0) (.int .i64 0) (.int .i64 0) (.int .i64 0) (.string { data := #[] }) (.slice none 0 0)=W:=⟨_,rfl⟩
   have hwz2:=hwz
   unfold set6 at hwz2
   (try rw [hwz2])
   have hdz:Lc wz gR zhd (.slice none 0 0):=by rw [<- hwz];exact HDZ.out
   rw [hwz] at HBZ
   obtain⟨d0,d1,d2,d3,d4,d5⟩:=hdz.cells
   refine bodyPost_ret (v:=.tuple #[exv zhd (.slice none 0 0),.int .i64 rn,.int .i64 7]) (by simp [results,Tryd.results10,go_sem,d0,d1,d2,d3,d4,d5]) rfl ?_
   obtain⟨y,hy1,hy2⟩:=HY.out
   exact⟨HBZ.out,.inr (.inr ⟨HX.out.1,ts,y,HX.out.2,Lib.hid ⟨hy1,.inr ⟨r,hy2,by rw [HKR.out.2]⟩⟩⟩)⟩
end Go.Proofs.YtpcdinelpfbpfaaDoor
