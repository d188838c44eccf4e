/-
  WALK of the implementation's parser's function. (Filled in from a template of this repo, printed by mk_pqf.py.)
-/
import Derived.Test.YtpcdinelpfbpfaaDoorPqG
namespace Go.Proofs.YtpcdinelpfbpfaaDoor
open Go.ChangeShapes Go.WideShapes Go.ChangeAt Go.RowKit
set_option linter.unusedVariables false
set_option linter.unusedSimpArgs false

def Lf (wx:World) (b:Nat) (nm:Bt) (ln:Int) (vp vb:Value):Prop:=wx.heap[b]?=some (.cells #[.string (st nm),.int .i64 ln,vp,vb] 66 (0,0))
section
variable {wx wy:World} {b:Nat} {nm:Bt} {ln:Int} {vp vb:Value}
theorem Lf.lt (h:Lf wx b nm ln vp vb):b<wx.heap.size:=heap_lt h
theorem Lf.al (h:Lf wx b nm ln vp vb) (o:Obj):Lf (wx.alloc o) b nm ln vp vb:=(Below.heap_alloc wx o b h.lt).trans h
theorem Lf.be (h:Lf wx b nm ln vp vb) (hb:Below wx.heap.size wx wy):Lf wy b nm ln vp vb:=(hb.block b h.lt).trans h
theorem Lf.grw {row:Option Nat} (h:Lf wx b nm ln vp vb) (hg:wx.grownBy wy row) (hn:row≠some b):Lf wy b nm ln vp vb:=(hg.block b h.lt (fun e=>hn e.symm)).trans h
theorem Lf.s1 (h:Lf wx b nm ln vp vb) {p:Addr} {v:Value} (hn:b≠p.block):Lf (wx.setCell p v) b nm ln vp vb:=(heap_setCell_other wx p b v hn).trans h
theorem Lf.sn (h:Lf wx b nm ln vp vb) (n2:Bt):Lf (wx.setCell ⟨b,0,none⟩ (.string (st n2))) b n2 ln vp vb:=heap_setCell_same wx b 0 _ _ _ h
theorem Lf.sp (h:Lf wx b nm ln vp vb) (v:Value):Lf (wx.setCell ⟨b,2,none⟩ v) b nm ln v vb:=heap_setCell_same wx b 2 _ _ _ h
theorem Lf.sb (h:Lf wx b nm ln vp vb) (v:Value):Lf (wx.setCell ⟨b,3,none⟩ v) b nm ln vp v:=heap_setCell_same wx b 3 _ _ _ h
theorem Lf.s4 (h:Lf wx b nm ln vp vb) (n2:Bt) (l2:Int) (p2 b2:Value):Lf (set4 wx b (.string (st n2)) (.int .i64 l2) p2 b2) b n2 l2 p2 b2:=heap_set4 h
theorem Lf.cells (h:Lf wx b nm ln vp vb):wx.cell? ⟨b,0,none⟩=some (.string (st nm))/\wx.cell? ⟨b,1,none⟩=some (.int .i64 ln)/\wx.cell? ⟨b,2,none⟩=some vp/\wx.cell? ⟨b,3,none⟩=some vb :=
 ⟨cell_of_row _ b 0 _ _ _ h,cell_of_row _ b 1 _ _ _ h,cell_of_row _ b 2 _ _ _ h,cell_of_row _ b 3 _ _ _ h⟩
theorem Lf.froz (h:Lf wx b nm ln vp vb):wx.frozen? ⟨b,0,none⟩=false/\wx.frozen? ⟨b,1,none⟩=false/\wx.frozen? ⟨b,2,none⟩=false/\wx.frozen? ⟨b,3,none⟩=false :=
 ⟨frozen_of_row _ b 0 _ _ h,frozen_of_row _ b 1 _ _ h,frozen_of_row _ b 2 _ _ h,frozen_of_row _ b 3 _ _ h⟩
end
abbrev zfn:Obj:=.cells #[.string { data := #[] },.int .i64 0,.slice none 0 0,.slice none 0 0] 66
theorem Lf.zero (w:World):Lf (w.alloc zfn) w.heap.size [] 0 nilS nilS:=heap_alloc_new w _
abbrev fnv (nm:Bt) (ln:Int) (vp vb:Value):Value:=.agg #[.string (st nm),.int .i64 ln,vp,vb]
def PsAt (w:World) (P:Nat->Prop) (ps:List Bt) (v:Value):Prop := ∃ a c,v=.slice a ps.length c/\ps.length<=c/\c<=maxLen/\SlAt w P a (ps.map fun x=>Value.string (st x))
theorem PsAt.keep {w w':World} {P Q:Nat->Prop} {ps:List Bt} {v:Value} (h:PsAt w P ps v) (hk : ∀ b,P b->b<w.heap.size->w'.heap[b]?=w.heap[b]?/\Q b) (hs:w.heap.size<=w'.heap.size):PsAt w' Q ps v:=by
 obtain⟨a,c,e,h1,h2,h3⟩:=h
 exact⟨a,c,e,h1,h2,h3.keep hk hs⟩
def FuQ (K:PC) (rest:List Tk) (w:World) (e:Ending) (w':World):Prop :=
 ∃ (nm:Bt) (pa:Option Addr) (pn pc:Nat) (ba:Option Addr) (bn bc:Nat) (ok:Bool) (at2:Nat) (r:List Tk),e=.returned (.tuple #[fnv nm 0 (.slice pa pn pc) (.slice ba bn bc),.bool ok])/\PAt w' K at2 r/\r.length<=rest.length/\w.grownBy w' (some K.g) /\
  Hid ((ok=true /\ ∃ ps S,Fs rest (.ok nm ps S r)/\PsAt w' (fun b=>w.heap.size<=b) ps (.slice pa pn pc)/\StsAt w' (fun b=>w.heap.size<=b) S (.slice ba bn bc)/\r.length<rest.length)\/(ok=false/\Fs rest (.bad r)))
structure FD (K:PC) (w:World) (gR gf:Nat) (nm:Bt) (vp:Value) (nn:Nat) (xs:List Value) (at2:Nat) (r:List Tk) (wx:World):Prop where
 ms:MS K w wx at2 r
 rc:Lf wx gR [] 0 nilS nilS
 fc:Lf wx gf nm 0 vp nilS
 own:wx.ownsRow w.heap.size 9 1 vp nn xs
 ne:w.heap.size<=gR/\gR<gf/\vp.ownBlock≠some gR/\vp.ownBlock≠some gf
section
variable {K:PC} {w wx wy:World} {gR gf:Nat} {nm:Bt} {vp:Value} {nn:Nat} {xs:List Value} {at2 at3:Nat} {r r3:List Tk}
theorem FD.gr (d:FD K w gR gf nm vp nn xs at2 r wx) (hp:PAt wy K at3 r3) (hg:wx.grownBy wy (some K.g)):FD K w gR gf nm vp nn xs at3 r3 wy:=by
 have hl:=d.ms.gl
 obtain⟨n1,n2,n3,n4⟩:=d.ne
 exact⟨d.ms.call hp hg,d.rc.grw hg (by intro e;injection e with e;omega),d.fc.grw hg (by intro e;injection e with e;omega),own_grown d.own hg hl,d.ne⟩
theorem FD.sn (d:FD K w gR gf nm vp nn xs at2 r wx) (m2:Bt):FD K w gR gf m2 vp nn xs at2 r (wx.setCell ⟨gf,0,none⟩ (.string (st m2))):=by
 obtain⟨n1,n2,n3,n4⟩:=d.ne
 exact⟨d.ms.sc (p:=⟨gf,0,none⟩) (by show _<=gf;omega) _,d.rc.s1 (p:=⟨gf,0,none⟩) (by show gR≠gf;omega),d.fc.sn m2,d.own.kept (grownBy_set wx gf 0 _) (.inr n4),d.ne⟩
theorem FD.push (d:FD K w gR gf nm vp nn xs at2 r wx) {ob:Obj} {g9 c9:Nat} {w9:World} {ys:List Value} (hg9:(wx.alloc ob).grownBy w9 vp.ownBlock) (h9:vp.ownBlock=some g9\/g9=(wx.alloc ob).heap.size) (ho:w9.ownsRow w.heap.size 9 1 (.slice (some ⟨g9,0,none⟩) (nn+1) c9) (nn+1) ys) :
  FD K w gR gf nm (.slice (some ⟨g9,0,none⟩) (nn+1) c9) (nn+1) ys at2 r (w9.setCell ⟨gf,2,none⟩ (.slice (some ⟨g9,0,none⟩) (nn+1) c9))/\Lf w9 gf nm 0 vp nilS:=by
 obtain⟨n1,n2,n3,n4⟩:=d.ne
 have l1:=d.rc.lt
 have l2:=d.fc.lt
 have hsA:(wx.alloc ob).heap.size=wx.heap.size+1:=by simp
 have q1:g9≠gR:=by rcases h9 with e | e;(intro e2;rw [e,e2] at n3;exact n3 rfl);omega
 have q2:g9≠gf:=by rcases h9 with e | e;(intro e2;rw [e,e2] at n4;exact n4 rfl);omega
 have f9:=(d.fc.al ob).grw hg9 n4
 refine⟨⟨((d.ms.al ob).own hg9 (fun k2 e=>(d.own.lt k2 e).1)).sc (p:=⟨gf,2,none⟩) (by show _<=gf;omega) _,((d.rc.al ob).grw hg9 n3).s1 (p:=⟨gf,2,none⟩) (by show gR≠gf;omega),f9.sp _,ho.kept (grownBy_set w9 gf 2 _) (.inr (by show some g9≠some gf;simp;exact q2)),n1,n2,?_,?_⟩,f9⟩
 ·show some g9≠some gR;simp;exact q1
 ·show some g9≠some gf;simp;exact q2
theorem fq_fin {rest:List Tk} {n0:Bt} {l0:Int} {p0 b0:Value} (M:MS K w wx at2 r) (R:Lf wx gR n0 l0 p0 b0) (b1:w.heap.size<=gR) (hl:r.length<=rest.length) (nm:Bt) (pa:Option Addr) (pn pc:Nat) (ba:Option Addr) (bn bc:Nat) (ok:Bool)
  (hres:(ok=true /\ ∃ ps S,Fs rest (.ok nm ps S r)/\PsAt wx (fun b=>w.heap.size<=b/\b≠gR) ps (.slice pa pn pc)/\StsAt wx (fun b=>w.heap.size<=b/\b≠gR) S (.slice ba bn bc)/\r.length<rest.length)\/(ok=false/\Fs rest (.bad r))) (W:World) (hW:W=set4 wx gR (.string (st nm)) (.int .i64 0) (.slice pa pn pc) (.slice ba bn bc)) :
  Lf W gR nm 0 (.slice pa pn pc) (.slice ba bn bc)/\FuQ K rest w (.returned (.tuple #[fnv nm 0 (.slice pa pn pc) (.slice ba bn bc),.bool ok])) W:=by
 subst hW
 have h2:=(((M.sc (p:=⟨gR,0,none⟩) b1 (.string (st nm))).sc (p:=⟨gR,1,none⟩) b1 (.int .i64 0)).sc (p:=⟨gR,2,none⟩) b1 (.slice pa pn pc)).sc (p:=⟨gR,3,none⟩) b1 (.slice ba bn bc)
 have key : ∀ b,b≠gR->(set4 wx gR (.string (st nm)) (.int .i64 0) (.slice pa pn pc) (.slice ba bn bc)).heap[b]?=wx.heap[b]?:=fun b hb=>by
  rw [heap_setCell_other _ _ b _ hb,heap_setCell_other _ _ b _ hb,heap_setCell_other _ _ b _ hb,heap_setCell_other _ _ b _ hb]
 have hsz:wx.heap.size<=(set4 wx gR (.string (st nm)) (.int .i64 0) (.slice pa pn pc) (.slice ba bn bc)).heap.size:=by simp [World.setCell]
 refine⟨R.s4 _ _ _ _,nm,pa,pn,pc,ba,bn,bc,ok,at2,r,rfl,h2.pat,hl,h2.gr,Lib.hid ?_⟩
 rcases hres with⟨e1,ps,S,e2,e3,e4,e5⟩ | e
 ·exact .inl ⟨e1,ps,S,e2,e3.keep (fun b hb _=>⟨key b hb.2,hb.1⟩) hsz,e4.keep (fun b hb _=>⟨key b hb.2,hb.1⟩) hsz,e5⟩
 ·exact .inr e
end
set_option maxRecDepth 100000 in
set_option maxHeartbeats 16000000 in
theorem function_any (K:PC) (at_:Nat) (rest:List Tk) (w:World) (hP:PAt w K at_ rest):Calls Tryd.prog 26 #[.pointer (some ⟨K.g,0,none⟩)] w (FuQ K rest w):=by
 have HSZ:Hid ((w.alloc zfn).heap.size=w.heap.size+1):=Lib.hid (by simp)
 have HD1:Hid (FD K w w.heap.size (w.alloc zfn).heap.size [] nilS 0 [] at_ rest ((w.alloc zfn).alloc zfn)):=Lib.hid ⟨((MS.init hP).al zfn).al zfn,(Lf.zero w).al zfn,Lf.zero (w.alloc zfn),World.ownsRow_nil _ _ _ _,Nat.le_refl _,by simp,(fun e=>nomatch e),(fun e=>nomatch e)⟩
 have HRT:Hid (rest.tail.length<rest.length):=Lib.hid (by obtain⟨x,r,e⟩:=hP.en.cons;rw [e];simp)
 clear hP
 go_enter Tryd.func26,Tryd.ntmps26
 go_upto_region 3 with fail
 rw [HSZ.out] at HD1
 obtain⟨w1,hw1⟩ : ∃ W,(w.alloc zfn).alloc zfn=W:=⟨_,rfl⟩
 obtain⟨gR,hgR⟩ : ∃ x,w.heap.size=x:=⟨_,rfl⟩
 (try rw [show (w.alloc (.cells #[.string { data := #[] },.int .i64 0,.slice none 0 0,.slice none 0 0] 66)).alloc (.cells #[.string { data := #[] },.int .i64 0,.slice none 0 0,.slice none 0 0] 66)=w1 from hw1])
 rw [hw1,hgR] at HD1
 (try rw [hgR])
 obtain⟨gf,hgf⟩ : ∃ x,gR+1=x:=⟨_,rfl⟩
 rw [hgf] at HD1
 (try rw [hgf])
 clear hw1 hgR hgf HSZ
 go_wp2_with fail
 refine(name_any K at_ rest w1 HD1.out.ms.pat).mono ?_
 rintro e w2 ⟨at2,r2,hp2,hg2,hc2⟩
 have HD2:=Lib.hid (HD1.out.gr hp2 hg2)
 clear hp2 hg2 HD1
 obtain⟨nm,hnm⟩ : ∃ x,tOf rest=x:=⟨_,rfl⟩
 have HNM:=Lib.hid hnm
 (try rw [hnm] at hc2)
 clear hnm
 rcases hc2 with⟨hk1,rfl,ha2,hr2⟩ | ⟨hk1,rfl,ha2,hr2⟩ <;> subst at2 r2
 rotate_left
 ·have HK1:=Lib.hid hk1
  clear hk1
  obtain⟨s0,s1,s2,s3⟩:=HD2.out.fc.cells
  obtain⟨j0,j1,j2,j3⟩:=HD2.out.fc.froz
  have hlS:=HD2.out.fc.lt
  have HD3:=Lib.hid (HD2.out.sn [])
  go_upto_region 4 with fail
  obtain⟨w3,hw3⟩ : ∃ W,w2.setCell ⟨gf,0,none⟩ (.string (st []))=W:=⟨_,rfl⟩
  (try rw [hw3])
  (try rw [show w2.setCell ⟨gf,0,none⟩ (.string { data := #[] })=w3 from hw3])
  rw [hw3] at HD3
  clear hw3 s0 s1 s2 s3 j0 j1 j2 j3 hlS HD2
  obtain⟨y0,y1,y2,y3⟩:=HD3.out.rc.cells
  obtain⟨g0,g1,g2,g3⟩:=HD3.out.rc.froz
  have hlR:=HD3.out.rc.lt
  obtain⟨s0,s1,s2,s3⟩:=HD3.out.fc.cells
  have hlS:=HD3.out.fc.lt
  go_wp2_with fail
  have hfin:=fq_fin (rest:=rest) HD3.out.ms HD3.out.rc HD3.out.ne.1 (Nat.le_refl _) [] none 0 0 none 0 0 false (.inr ⟨rfl,Fs.name HK1.out⟩)
  obtain⟨wz,hwz⟩ : ∃ W,set4 w3 gR (.string (st [])) (.int .i64 0) (.slice none 0 0) (.slice none 0 0)=W:=⟨_,rfl⟩
  have hwz2:=hwz
  unfold set4 at hwz2
  (try rw [hwz2])
  obtain⟨hd,hep⟩:=hfin wz hwz.symm
  obtain⟨d0,d1,d2,d3⟩:=hd.cells
  clear hfin
  refine bodyPost_ret (v:=.tuple #[fnv [] 0 (.slice none 0 0) (.slice none 0 0),.bool false]) (by simp [results,Tryd.results26,go_sem,d0,d1,d2,d3]) rfl ?_
  exact hep
 ·have HK1:=Lib.hid hk1
  clear hk1
  obtain⟨s0,s1,s2,s3⟩:=HD2.out.fc.cells
  obtain⟨j0,j1,j2,j3⟩:=HD2.out.fc.froz
  have hlS:=HD2.out.fc.lt
  have HD3:=Lib.hid (HD2.out.sn nm)
  go_upto_region 4 with fail
  obtain⟨w3,hw3⟩ : ∃ W,w2.setCell ⟨gf,0,none⟩ (.string (st nm))=W:=⟨_,rfl⟩
  (try rw [hw3])
  rw [hw3] at HD3
  clear hw3 s0 s1 s2 s3 j0 j1 j2 j3 hlS HD2
  go_wp2_with fail
  refine(accept_any K (at_+1) rest.tail [40] w3 HD3.out.ms.pat).mono ?_
  rintro e w4 ⟨at5,r5,rfl,hp5,hg5,hc5⟩
  have HD4:=Lib.hid (HD3.out.gr hp5 hg5)
  clear hp5 hg5 HD3
  rcases hc5 with⟨hT,ha5,hr5⟩ | ⟨hT,ha5,hr5⟩ <;> subst at5 r5
  rotate_left
  ·have HP:=Lib.hid hT
   (try rw [hT])
   clear hT
   obtain⟨y0,y1,y2,y3⟩:=HD4.out.rc.cells
   obtain⟨g0,g1,g2,g3⟩:=HD4.out.rc.froz
   have hlR:=HD4.out.rc.lt
   obtain⟨s0,s1,s2,s3⟩:=HD4.out.fc.cells
   have hlS:=HD4.out.fc.lt
   go_wp2_with fail
   have hfin:=fq_fin (rest:=rest) HD4.out.ms HD4.out.rc HD4.out.ne.1 (by have:=HRT.out;simp only [List.length_tail] at *;omega) nm none 0 0 none 0 0 false (.inr ⟨rfl,Fs.par HK1.out HP.out⟩)
   obtain⟨wz,hwz⟩ : ∃ W,set4 w4 gR (.string (st nm)) (.int .i64 0) (.slice none 0 0) (.slice none 0 0)=W:=⟨_,rfl⟩
   have hwz2:=hwz
   unfold set4 at hwz2
   (try rw [hwz2])
   obtain⟨hd,hep⟩:=hfin wz hwz.symm
   obtain⟨d0,d1,d2,d3⟩:=hd.cells
   clear hfin
   refine bodyPost_ret (v:=.tuple #[fnv nm 0 (.slice none 0 0) (.slice none 0 0),.bool false]) (by simp [results,Tryd.results26,go_sem,d0,d1,d2,d3]) rfl ?_
   exact hep
  ·have HP:=Lib.hid hT
   (try rw [hT])
   clear hT
   have HLP:Hid (rest.tail.tail.length<rest.length):=Lib.hid (by have:=HRT.out;simp only [List.length_tail] at *;omega)
   go_upto_block 0 with fail
   go_wp2_with fail
   go_loopw [6,7] (fun _ _ wr => ∃ (ps:List Bt) (a:Option Addr) (n c:Nat) (xs:List Value) (at3:Nat) (r3:List Tk),Hid (FD K w gR gf nm (.slice a n c) n xs at3 r3 wr/\xs=ps.map (fun x=>Value.string (st x))/\n=ps.length/\n<=at3/\r3.length<rest.length/\(∀ y,Pr ps r3 y->Pr [] rest.tail.tail y))) (fun _ _ wr=>K.ts.length - natAt wr K.g)
   case atStart=>exact⟨[],none,0,0,[],at_+1+1,rest.tail.tail,Lib.hid ⟨HD4.out,rfl,rfl,by omega,HLP.out,fun y h=>h⟩⟩
   case round =>
    rename World=>wa
    obtain⟨ps,a,n,c,xs,at3,r3,HI⟩:=hrel
    go_wp2_with fail
    refine(accept_any K at3 r3 [41] wa HI.out.1.ms.pat).mono ?_
    rintro e w5 ⟨at5,r5,rfl,hp5,hg5,hc5⟩
    have HD5:=Lib.hid (HI.out.1.gr hp5 hg5)
    clear hp5 hg5
    rcases hc5 with⟨hT,ha5,hr5⟩ | ⟨hT,ha5,hr5⟩ <;> subst at5 r5
    ·have HC:=Lib.hid hT
     (try rw [hT])
     clear hT
     have HL5:Hid (r3.tail.length<rest.length):=Lib.hid (by have:=HI.out.2.2.2.2.1;simp only [List.length_tail];omega)
     go_wp2_with fail
     refine(block_any K (at3+1) r3.tail w5 HD5.out.ms.pat).mono ?_
     rintro e w6 ⟨ba,bn,bc,ok,at6,r6,rfl,hp6,hle6,hg6,hres6⟩
     have HD6:=Lib.hid (HD5.out.gr hp6 hg6)
     have HL6:Hid (r6.length<rest.length):=Lib.hid (by have:=HL5.out;omega)
     have HR6:Hid ((ok=true /\ ∃ S,Qs .bl r3.tail (.ok S r6)/\StsAt w6 (fun b=>w.heap.size<=b/\b≠gR/\b≠gf) S (.slice ba bn bc))\/(ok=false/\Qs .bl r3.tail (.bad r6))):=Lib.hid (by
      rcases hres6.out with⟨e1,S,e2,e3⟩ | hr
      ·exact .inl ⟨e1,S,e2,sts_mono e3 (fun b hb _=>by have:=HD5.out.ms.gr.size;have:=HD5.out.rc.lt;have:=HD5.out.fc.lt;exact⟨by omega,by omega,by omega⟩)⟩
      ·exact .inr hr)
     clear hp6 hle6 hg6 hres6 HD5
     obtain⟨s0,s1,s2,s3⟩:=HD6.out.fc.cells
     obtain⟨j0,j1,j2,j3⟩:=HD6.out.fc.froz
     have hlS:=HD6.out.fc.lt
     have HM7:=Lib.hid (HD6.out.ms.sc (p:=⟨gf,3,none⟩) (by have:=HD6.out.ne;show w.heap.size<=gf;omega) (.slice ba bn bc))
     have HR7:=Lib.hid (HD6.out.rc.s1 (p:=⟨gf,3,none⟩) (v:=.slice ba bn bc) (by have:=HD6.out.ne;show gR≠gf;omega))
     have HF7:=Lib.hid (HD6.out.fc.sb (.slice ba bn bc))
     have HO7:=Lib.hid (HD6.out.own.kept (grownBy_set w6 gf 3 (.slice ba bn bc)) (.inr HD6.out.ne.2.2.2))
     have HNE:=Lib.hid HD6.out.ne
     have HS7:Hid ((ok=true /\ ∃ S,Qs .bl r3.tail (.ok S r6)/\StsAt (w6.setCell ⟨gf,3,none⟩ (.slice ba bn bc)) (fun b=>w.heap.size<=b/\b≠gR) S (.slice ba bn bc))\/(ok=false/\Qs .bl r3.tail (.bad r6))):=Lib.hid (by
      rcases HR6.out with⟨e1,S,e2,e3⟩ | hr
      ·exact .inl ⟨e1,S,e2,sts_mono (sts_s1 (p:=⟨gf,3,none⟩) (v:=.slice ba bn bc) e3 (fun b hb=>hb.2.2)) (fun b hb _=>⟨hb.1,hb.2.1⟩)⟩
      ·exact .inr hr)
     go_upto_region 14 with fail
     obtain⟨w7,hw7⟩ : ∃ W,w6.setCell ⟨gf,3,none⟩ (.slice ba bn bc)=W:=⟨_,rfl⟩
     (try rw [hw7])
     rw [hw7] at HM7 HR7 HF7 HO7 HS7
     clear hw7 s0 s1 s2 s3 j0 j1 j2 j3 hlS HD6 HR6
     have HPS:Hid (PsAt w7 (fun b=>w.heap.size<=b/\b≠gR) ps (.slice a n c)):=Lib.hid (by
      obtain⟨a',c',e,h1,h2,h3,h4,h5⟩:=Cells.of_own HO7.out
      injection e with e1 _ e3
      subst e1 e3
      refine⟨a,c,by rw [HI.out.2.2.1],by rw [<- HI.out.2.2.1];exact h2,h3,fun hx=>?_⟩
      rw [<- HI.out.2.1] at hx ⊢
      obtain⟨b,off,e,hb,hc⟩:=h4 hx
      exact⟨b,off,e,⟨h5 _ e,fun e2=>HNE.out.2.2.1 (by rw [e,<- e2];rfl)⟩,hb,hc⟩)
     obtain⟨y0,y1,y2,y3⟩:=HR7.out.cells
     obtain⟨g0,g1,g2,g3⟩:=HR7.out.froz
     have hlR:=HR7.out.lt
     obtain⟨s0,s1,s2,s3⟩:=HF7.out.cells
     have hlS:=HF7.out.lt
     go_wp2_with fail
     have hfin:=fq_fin (rest:=rest) HM7.out HR7.out HNE.out.1 (Nat.le_of_lt HL6.out) nm a n c ba bn bc ok (by
      have hpr:=HI.out.2.2.2.2.2 _ (Pr.fin HC.out)
      rcases HS7.out with⟨e1,S,e2,e3⟩ | ⟨e1,e2⟩
      ·have hok:=Fs.ok (ts:=rest) HK1.out HP.out hpr e2
       rw [HNM.out] at hok
       exact .inl ⟨e1,ps,S,hok,HPS.out,e3,HL6.out⟩
      ·exact .inr ⟨e1,Fs.bbad HK1.out HP.out hpr e2⟩)
     obtain⟨wz,hwz⟩ : ∃ W,set4 w7 gR (.string (st nm)) (.int .i64 0) (.slice a n c) (.slice ba bn bc)=W:=⟨_,rfl⟩
     have hwz2:=hwz
     unfold set4 at hwz2
     (try rw [hwz2])
     obtain⟨hd,hep⟩:=hfin wz hwz.symm
     obtain⟨d0,d1,d2,d3⟩:=hd.cells
     clear hfin
     refine bodyPost_ret (v:=.tuple #[fnv nm 0 (.slice a n c) (.slice ba bn bc),.bool ok]) (by simp [results,Tryd.results26,go_sem,d0,d1,d2,d3]) rfl ?_
     exact hep
    ·have HC:=Lib.hid hT
     (try rw [hT])
     clear hT
     have HUP:Hid ((uP ps r3).length<=r3.length):=Lib.hid (by unfold uP;split <;> simp)
     go_upto_region 7 with fail
     go_cut [33] from 25 to 33 (fun v33 wx => ∃ (b:Bool) (at6:Nat) (r6:List Tk),v33=.bool b/\Hid (FD K w gR gf nm (.slice a n c) n xs at6 r6 wx/\((b=true/\ps≠[]/\isT [44] r3=false/\r6=r3)\/(b=false/\(ps≠[]->isT [44] r3=true)/\r6=uP ps r3/\at3<=at6))))
     case first =>
      obtain⟨s0,s1,s2,s3⟩:=HD5.out.fc.cells
      have hlS:=HD5.out.fc.lt
      by_cases hn0:n=0
      ·have hps:ps=[]:=List.eq_nil_of_length_eq_zero (by rw [<- HI.out.2.2.1];exact hn0)
       have HPS:=Lib.hid hps
       subst hn0
       clear hps
       go_wp2_with fail
       go_meet
       exact⟨false,at3,r3,rfl,Lib.hid ⟨HD5.out,.inr ⟨rfl,fun h=>absurd HPS.out h,by unfold uP;rw [if_pos HPS.out],Nat.le_refl _⟩⟩⟩
      ·have hps:ps≠[]:=fun e=>hn0 (by rw [HI.out.2.2.1,e];rfl)
       have HPS:=Lib.hid hps
       have hn1:(0:Int)<(n:Int):=by omega
       have dn:decide ((0:Int)<(n:Int))=true:=decide_eq_true hn1
       have dn2:decide (0<n)=true:=decide_eq_true (by omega)
       clear hps
       go_wp2_with fail
       refine(accept_any K at3 r3 [44] w5 HD5.out.ms.pat).mono ?_
       rintro e w6 ⟨at7,r7,rfl,hp7,hg7,hc7⟩
       have HD6:=Lib.hid (HD5.out.gr hp7 hg7)
       clear hp7 hg7
       rcases hc7 with⟨hT,ha7,hr7⟩ | ⟨hT,ha7,hr7⟩ <;> subst at7 r7
       ·have HT:=Lib.hid hT
        (try rw [hT])
        clear hT
        go_wp2_with fail
        go_meet
        exact⟨false,_,_,rfl,Lib.hid ⟨HD6.out,.inr ⟨rfl,fun _=>HT.out,by unfold uP;rw [if_neg HPS.out],by omega⟩⟩⟩
       ·have HT:=Lib.hid hT
        (try rw [hT])
        clear hT
        go_wp2_with fail
        go_meet
        exact⟨true,_,_,rfl,Lib.hid ⟨HD6.out,.inl ⟨rfl,HPS.out,HT.out,rfl⟩⟩⟩
     case rest =>
     rename World=>wq
     clear HD5
     obtain⟨b,at6,r6,rfl,HC6⟩:=hcut
     have HL6:Hid (r6.length<rest.length):=Lib.hid (by
      have h1:=HI.out.2.2.2.2.1
      have h2:=HUP.out
      rcases HC6.out.2 with⟨_,_,_,e⟩ | ⟨_,_,e,_⟩
      ·rw [e];exact h1
      ·rw [e];omega)
     have HD6:Hid (FD K w gR gf nm (.slice a n c) n xs at6 r6 wq):=Lib.hid HC6.out.1
     cases b
     rotate_left
     ·have HBD:Hid (Fs rest (.bad r6)):=Lib.hid (by
       rcases HC6.out.2 with⟨_,e1,e2,e3⟩ | ⟨e1,_⟩
       ·rw [e3];exact Fs.pbad HK1.out HP.out (HI.out.2.2.2.2.2 _ (Pr.no HC.out e1 e2))
       ·cases e1)
      obtain⟨y0,y1,y2,y3⟩:=HD6.out.rc.cells
      obtain⟨g0,g1,g2,g3⟩:=HD6.out.rc.froz
      have hlR:=HD6.out.rc.lt
      obtain⟨s0,s1,s2,s3⟩:=HD6.out.fc.cells
      have hlS:=HD6.out.fc.lt
      go_wp2_with fail
      have hfin:=fq_fin (rest:=rest) HD6.out.ms HD6.out.rc HD6.out.ne.1 (Nat.le_of_lt HL6.out) nm a n c none 0 0 false (.inr ⟨rfl,HBD.out⟩)
      obtain⟨wz,hwz⟩ : ∃ W,set4 wq gR (.string (st nm)) (.int .i64 0) (.slice a n c) (.slice none 0 0)=W:=⟨_,rfl⟩
      have hwz2:=hwz
      unfold set4 at hwz2
      (try rw [hwz2])
      obtain⟨hd,hep⟩:=hfin wz hwz.symm
      obtain⟨d0,d1,d2,d3⟩:=hd.cells
      clear hfin
      refine bodyPost_ret (v:=.tuple #[fnv nm 0 (.slice a n c) (.slice none 0 0),.bool false]) (by simp [results,Tryd.results26,go_sem,d0,d1,d2,d3]) rfl ?_
      exact hep
     ·have HX6:Hid ((ps≠[]->isT [44] r3=true)/\r6=uP ps r3/\at3<=at6):=Lib.hid (by
       rcases HC6.out.2 with⟨e1,_⟩ | ⟨_,h⟩
       ·cases e1
       ·exact h)
      clear HC6
      go_wp2_with fail
      refine(name_any K at6 r6 wq HD6.out.ms.pat).mono ?_
      rintro e w7 ⟨at7,r7,hp7,hg7,hc7⟩
      have HD7:=Lib.hid (HD6.out.gr hp7 hg7)
      clear hp7 hg7 HD6
      obtain⟨pn,hpn⟩ : ∃ x,tOf r6=x:=⟨_,rfl⟩
      have HPN:=Lib.hid hpn
      (try rw [hpn] at hc7)
      clear hpn
      rcases hc7 with⟨hk7,rfl,ha7,hr7⟩ | ⟨hk7,rfl,ha7,hr7⟩ <;> subst at7 r7
      rotate_left
      ·have HBD:Hid (Fs rest (.bad r6)):=Lib.hid (Fs.pbad HK1.out HP.out (HI.out.2.2.2.2.2 _ (Pr.nm HC.out HX6.out.1 HX6.out.2.1 hk7)))
       clear hk7
       obtain⟨y0,y1,y2,y3⟩:=HD7.out.rc.cells
       obtain⟨g0,g1,g2,g3⟩:=HD7.out.rc.froz
       have hlR:=HD7.out.rc.lt
       obtain⟨s0,s1,s2,s3⟩:=HD7.out.fc.cells
       have hlS:=HD7.out.fc.lt
       go_wp2_with fail
       have hfin:=fq_fin (rest:=rest) HD7.out.ms HD7.out.rc HD7.out.ne.1 (Nat.le_of_lt HL6.out) nm a n c none 0 0 false (.inr ⟨rfl,HBD.out⟩)
       obtain⟨wz,hwz⟩ : ∃ W,set4 w7 gR (.string (st nm)) (.int .i64 0) (.slice a n c) (.slice none 0 0)=W:=⟨_,rfl⟩
       have hwz2:=hwz
       unfold set4 at hwz2
       (try rw [hwz2])
       obtain⟨hd,hep⟩:=hfin wz hwz.symm
       obtain⟨d0,d1,d2,d3⟩:=hd.cells
       clear hfin
       refine bodyPost_ret (v:=.tuple #[fnv nm 0 (.slice a n c) (.slice none 0 0),.bool false]) (by simp [results,Tryd.results26,go_sem,d0,d1,d2,d3]) rfl ?_
       exact hep
      ·have HK7:=Lib.hid hk7
       clear hk7
       obtain⟨s0,s1,s2,s3⟩:=HD7.out.fc.cells
       obtain⟨j0,j1,j2,j3⟩:=HD7.out.fc.froz
       have hlS:=HD7.out.fc.lt
       have hszw:=HD7.out.ms.gr.size
       have hn3:n<=100000:=by have:=HI.out.2.2.2.1;have:=HI.out.1.ms.pat.lt;have:=HI.out.1.ms.pat.n;omega
       obtain⟨i0,hi0,hz0,hz1,hz2⟩:=info_parts Tryd.infoStr
       have HIF:=Lib.hid hi0
       have HZ0:=Lib.hid hz0
       have HZ1:=Lib.hid hz1
       have HZ2:=Lib.hid hz2
       clear hi0 hz0 hz1 hz2
       have HOA:=Lib.hid (HD7.out.own.alloc (.cells #[.string (st pn)] 9))
       go_wp2_with (at_builtin;refine wpList_append_lies _ rfl _ _ _ rfl w.heap.size 9 i0 _ 1 16 Tryd.underlying27 HIF.out HZ0.out HZ1.out HZ2.out rfl (by omega) _ _ _ rfl HOA.out ⟨w7.heap.size,0,none⟩ 1 1 [.string (st pn)] rfl rfl (World.news_of_block (cs := #[.string (st pn)]) (t:=9) (fr:=(0,0)) (heap_alloc_new w7 _)) (by simp [Value.oneCell']) (by omega) (by unfold maxLen;omega) (by omega) (by simp;omega) _ rfl ?_;intro g9 c9 w9 hown9 hgrow9 hor9 hlt9;have HO9:=Lib.hid hown9;have HPU:=Lib.hid (HD7.out.push hgrow9 hor9 hown9);obtain⟨q0,q1,q2,q3⟩:=HPU.out.2.cells;obtain⟨k0,k1,k2,k3⟩:=HPU.out.2.froz;have hl9:=HPU.out.2.lt;clear hown9 hgrow9 hor9 hlt9)
       go_roundw
       case rel=>exact⟨ps++[pn],some ⟨g9,0,none⟩,n+1,c9,xs++[.string (st pn)],at6+1,r6.tail,Lib.hid ⟨HPU.out.1,by rw [HI.out.2.1];simp,by rw [HI.out.2.2.1];simp,by have:=HI.out.2.2.2.1;have:=HX6.out.2.2;omega,by have:=HL6.out;simp only [List.length_tail];omega,fun y hy=>HI.out.2.2.2.2.2 _ (Pr.more HC.out HX6.out.1 HX6.out.2.1 HK7.out (by rw [HPN.out];exact hy))⟩⟩
       case measure =>
        have h1:=HPU.out.1.ms.pat.natAt
        have h2:=HI.out.1.ms.pat.natAt
        have h3:=HPU.out.1.ms.pat.lt
        have h4:=HX6.out.2.2
        rw [h1,h2]
        omega
end Go.Proofs.YtpcdinelpfbpfaaDoor
