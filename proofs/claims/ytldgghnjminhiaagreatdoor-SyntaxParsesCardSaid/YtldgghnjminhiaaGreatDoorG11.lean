/-
  WORDS, PLAIN LAWS and WALKS (QtF PqO PqX QtX PqY QtY PpQ), pressed. (Filled in from templates of this repo.)
-/
import Derived.Test.YtldgghnjminhiaaGreatDoorG10
import Derived.Test.YtldgghnjminhiaaGreatDoorG5
import Derived.Test.YtldgghnjminhiaaGreatDoorG8
namespace Go.Proofs.YtldgghnjminhiaaGreatDoor
open Go Go.ChangeAt Go.ChangeShapes Go.RowKit Go.WideShapes
set_option linter.unusedVariables false
set_option linter.unusedSimpArgs false
set_option maxRecDepth 100000
set_option maxHeartbeats 16000000
section
theorem Ux.of_own {w:World} {P:Nat->Prop} {base:Nat} {ps:List Bt} {v:Value} (h:w.ownsRow base 9 1 v ps.length (ps.map λ x=>Value.string (st x))) (hP:∀ b,v.ownBlock=some b->P b):Ux w P ps v:=by
 obtain⟨a,c,rfl,h1,h2,h3,h4,h5⟩:=Yf.of_own h
 refine⟨a,c,rfl,h2,h3,λ hx=>?_⟩
 obtain⟨b,off,e,hb,hc⟩:=h4 hx
 exact⟨b,off,e,hP b (by rw[e];rfl),hb,hc⟩
theorem Il (m:Nat):xjr m/\xjn m:=by
 induction m using Nat.strongRecOn with
 | ind m ih=>exact⟨Sr m λ j hj=>(ih j hj).2,Bw m λ j hj=>(ih j hj).1⟩
theorem Pk (K:PC) (at_:Nat) (bad:Bool) (rest:List Tk) (w:World) (h:RAt w K at_ bad rest):Calls Tryz.prog 149 #[.pointer (some ⟨K.g,0,none⟩)] w (xjs K at_ bad rest w) :=
 (Il (mu bad rest)).1 K at_ bad rest w h (Nat.le_refl _)
def xqm (K:PC) (at_:Nat) (bad:Bool) (rest:List Tk) (w:World) (e:Ending) (w':World):Prop :=
 ∃ (nm:Bt) (pa:Option Addr) (pn pc:Nat) (ba:Option Addr) (bn bc:Nat) (bad2:Bool) (at2:Nat) (r:List Tk),e=.returned (fnv nm 0 (.slice pa pn pc) (.slice ba bn bc))/\RAt w' K at2 bad2 r/\r.length<=rest.length/\w.grownBy w' (some K.g) /\
  Xq ((bad=false/\bad2=false/\∃ ps S,Fs rest (.ok nm ps S r)/\Ux w' (λ b=>w.heap.size<=b) ps (.slice pa pn pc)/\Xl w' (λ b=>w.heap.size<=b) S (.slice ba bn bc)/\r.length<rest.length)\/(bad=false/\bad2=true/\Fs rest (.bad r))\/(bad=true/\bad2=true/\at2=at_/\r=rest))
def FBd (at_:Nat) (bad:Bool) (rest:List Tk) (at2:Nat) (bad2:Bool) (r2:List Tk):Prop:=(bad=false/\bad2=true/\Fs rest (.bad r2))\/(bad=true/\bad2=true/\at2=at_/\r2=rest)
theorem FBd.t {at_ at2:Nat} {bad bad2:Bool} {rest r2:List Tk} (h:FBd at_ bad rest at2 bad2 r2):bad2=true:=by rcases h with⟨_,h,_⟩|⟨_,h,_⟩<;>exact h
theorem FBd.on {at_ at2 at3:Nat} {bad bad2 bad3:Bool} {rest r2 r3:List Tk} (h:FBd at_ bad rest at2 bad2 r2) (h1:bad3=true) (h2:at3=at2) (h3:r3=r2):FBd at_ bad rest at3 bad3 r3:=by
 subst h1 h2 h3
 rcases h with⟨a,b,c⟩|⟨a,b,c,d⟩
 ·exact .inl ⟨a,rfl,c⟩
 exact .inr ⟨a,rfl,c,d⟩
theorem FBd.x {at_ at2 at3:Nat} {bad bad2 bad3:Bool} {rest r2 r3:List Tk} {A B:Prop} (h:FBd at_ bad rest at2 bad2 r2) (k:(bad2=false/\A)\/(bad3=true/\(bad2=false->B)/\at3=at2/\r3=r2)):FBd at_ bad rest at3 bad3 r3:=by
 rcases k with⟨k,_⟩|⟨k1,_,k2,k3⟩
 ·rw[h.t] at k;cases k
 exact h.on k1 k2 k3
structure RFD (K:PC) (w:World) (gR gf:Nat) (nm:Bt) (vp:Value) (nn:Nat) (xs:List Value) (at2:Nat) (bad2:Bool) (r:List Tk) (wx:World):Prop where
 ms:RS K w wx at2 bad2 r
 rc:Lf wx gR [] 0 Xs Xs
 fc:Lf wx gf nm 0 vp Xs
 own:wx.ownsRow w.heap.size 9 1 vp nn xs
 ne:w.heap.size<=gR/\gR<gf/\vp.ownBlock≠some gR/\vp.ownBlock≠some gf
section
variable {K:PC} {w wx wy:World} {gR gf:Nat} {nm:Bt} {vp:Value} {nn:Nat} {xs:List Value} {at2 at3:Nat} {bad2 bad3:Bool} {r r3:List Tk}
theorem RFD.gr (d:RFD K w gR gf nm vp nn xs at2 bad2 r wx) (hp:RAt wy K at3 bad3 r3) (hg:wx.grownBy wy (some K.g)):RFD K w gR gf nm vp nn xs at3 bad3 r3 wy:=by
 have hl:=d.ms.gl
 obtain⟨n1,n2,n3,n4⟩:=d.ne
 exact⟨d.ms.call hp hg,d.rc.grw hg (by intro e;injection e with e;omega),d.fc.grw hg (by intro e;injection e with e;omega),Yz d.own hg hl,d.ne⟩
theorem RFD.be (d:RFD K w gR gf nm vp nn xs at2 bad2 r wx) (hb:Below wx.heap.size wx wy):RFD K w gR gf nm vp nn xs at2 bad2 r wy:=d.gr (d.ms.be hb).pat (Xg hb _)
theorem RFD.al (d:RFD K w gR gf nm vp nn xs at2 bad2 r wx) (o:Obj):RFD K w gR gf nm vp nn xs at2 bad2 r (wx.alloc o):=d.be (Xw wx o)
theorem RFD.push (d:RFD K w gR gf nm vp nn xs at2 bad2 r wx) {ob:Obj} {g9 c9:Nat} {w9:World} {ys:List Value} (hg9:(wx.alloc ob).grownBy w9 vp.ownBlock) (h9:vp.ownBlock=some g9\/g9=(wx.alloc ob).heap.size) (ho:w9.ownsRow w.heap.size 9 1 (.slice (some ⟨g9,0,none⟩) (nn+1) c9) (nn+1) ys) :
  RFD K w gR gf nm (.slice (some ⟨g9,0,none⟩) (nn+1) c9) (nn+1) ys at2 bad2 r (w9.setCell ⟨gf,2,none⟩ (.slice (some ⟨g9,0,none⟩) (nn+1) c9))/\Lf w9 gf nm 0 vp Xs:=by
 obtain⟨n1,n2,n3,n4⟩:=d.ne
 have l1:=d.rc.lt
 have l2:=d.fc.lt
 have hsA:(wx.alloc ob).heap.size=wx.heap.size+1:=by simp
 have q1:g9≠gR:=by rcases h9 with e|e;(intro e2;rw[e,e2] at n3;exact n3 rfl);omega
 have q2:g9≠gf:=by rcases h9 with e|e;(intro e2;rw[e,e2] at n4;exact n4 rfl);omega
 have f9:=(d.fc.al ob).grw hg9 n4
 refine⟨⟨((d.ms.al ob).own hg9 (λ k2 e=>(d.own.lt k2 e).1)).sc (p:=⟨gf,2,none⟩) (by show _<=gf;omega) _,((d.rc.al ob).grw hg9 n3).s1 (p:=⟨gf,2,none⟩) (by show gR≠gf;omega),f9.sp _,ho.kept (Xp w9 gf 2 _) (.inr (by show some g9≠some gf;simp;exact q2)),n1,n2,?_,?_⟩,f9⟩
 ·show some g9≠some gR;simp;exact q1
 show some g9≠some gf;simp;exact q2
theorem Id {at_:Nat} {bad:Bool} {rest:List Tk} {n0:Bt} {l0:Int} {p0 b0:Value} (M:RS K w wx at2 bad2 r) (R:Lf wx gR n0 l0 p0 b0) (b1:w.heap.size<=gR) (hl:r.length<=rest.length) (nm:Bt) (pa:Option Addr) (pn pc:Nat) (ba:Option Addr) (bn bc:Nat)
  (hI:(bad=false/\bad2=false/\∃ ps S,Fs rest (.ok nm ps S r)/\Ux wx (λ b=>w.heap.size<=b/\b≠gR) ps (.slice pa pn pc)/\Xl wx (λ b=>w.heap.size<=b/\b≠gR) S (.slice ba bn bc)/\r.length<rest.length)\/FBd at_ bad rest at2 bad2 r) (W:World) (hW:W=set4 wx gR (.string (st nm)) (.int .i64 0) (.slice pa pn pc) (.slice ba bn bc)) :
  Lf W gR nm 0 (.slice pa pn pc) (.slice ba bn bc)/\xqm K at_ bad rest w (.returned (fnv nm 0 (.slice pa pn pc) (.slice ba bn bc))) W:=by
 subst hW
 have h2:=(((M.sc (p:=⟨gR,0,none⟩) b1 (.string (st nm))).sc (p:=⟨gR,1,none⟩) b1 (.int .i64 0)).sc (p:=⟨gR,2,none⟩) b1 (.slice pa pn pc)).sc (p:=⟨gR,3,none⟩) b1 (.slice ba bn bc)
 have key:∀ b,b≠gR->(set4 wx gR (.string (st nm)) (.int .i64 0) (.slice pa pn pc) (.slice ba bn bc)).heap[b]?=wx.heap[b]?:=λ b hb=>by
  rw[heap_setCell_other _ _ b _ hb,heap_setCell_other _ _ b _ hb,heap_setCell_other _ _ b _ hb,heap_setCell_other _ _ b _ hb]
 have hsz:wx.heap.size<=(set4 wx gR (.string (st nm)) (.int .i64 0) (.slice pa pn pc) (.slice ba bn bc)).heap.size:=by simp[World.setCell]
 refine⟨R.s4 _ _ _ _,nm,pa,pn,pc,ba,bn,bc,bad2,at2,r,rfl,h2.pat,hl,h2.gr,Xj ?_⟩
 rcases hI with⟨e0,e1,ps,S,e2,e3,e4,e5⟩|e
 ·exact .inl ⟨e0,e1,ps,S,e2,e3.keep (λ b hb _=>⟨key b hb.2,hb.1⟩) hsz,e4.keep (λ b hb _=>⟨key b hb.2,hb.1⟩) hsz,e5⟩
 exact .inr e
end
def FOk (bad:Bool) (rest:List Tk) (nm:Bt):Prop:=bad=false/\kOf rest=1/\nm=tOf rest/\isT [40] rest.tail=true
theorem Gh (K:PC) (at_:Nat) (bad:Bool) (rest:List Tk) (w:World) (hP:RAt w K at_ bad rest):Calls Tryz.prog 105 #[.pointer (some ⟨K.g,0,none⟩)] w (xqm K at_ bad rest w):=by
 have HM1:=Xj ((RS.init hP).al zfn)
 have HR1:=Xj (Lf.zero w)
 have HRT:Xq (rest.tail.length<rest.length):=Xj (by obtain⟨x,r,e⟩:=hP.en.cons;rw[e];simp)
 clear hP
 go_enter Tryz.func105,Tryz.ntmps105
 go_upto_region 1 with fail
 obtain⟨w1,hw1⟩:∃ W,w.alloc zfn=W:=⟨_,rfl⟩
 obtain⟨gR,hgR⟩:∃ x,w.heap.size=x:=⟨_,rfl⟩
 (try rw[show w.alloc (.cells #[.string { data := #[] },.int .i64 0,.slice none 0 0,.slice none 0 0] 63)=w1 from hw1])
 rw[hw1] at HM1 HR1
 rw[hgR] at HR1
 (try rw[hgR])
 have HGR:=Xj hgR
 clear hw1 hgR
 go_wp2_with fail
 refine(Up K at_ bad rest 1 w1 HM1.o.pat (by decide)).mono ?_
 rintro e w2 ⟨xk,xn,xv,nm,at2,bad2,r2,rfl,hp2,hg2,hK2⟩
 have hvg:∀ W:World,(Instr.field 103 (.agg #[.int .i64 xk,.int .i64 xn,.int .i64 xv,.string (st nm)]) 3).run Tryz.prog W=.ok (.string (st nm)) W:=λ _=>by kernel_rfl
 have HK2:=Xj hK2.out
 have hgl:=HM1.o.gl
 have hcp:w.heap.size<=gR:=by have:=HGR.o;omega
 have HD3:Xq (RFD K w gR w2.heap.size nm Xs 0 [] at2 bad2 r2 (w2.alloc (.cells #[.string (st nm),.int .i64 0,.slice none 0 0,.slice none 0 0] 63))):=Xj (by
  have hR2:=HR1.o.grw hg2 (by intro e;injection e with e;omega)
  exact⟨(HM1.o.call hp2 hg2).al _,hR2.al _,heap_alloc_new w2 _,World.ownsRow_nil _ _ _ _,hcp,hR2.lt,(λ e=>nomatch e),(λ e=>nomatch e)⟩)
 clear hp2 hg2 hK2 HM1 HR1
 go_upto_region 2 with fail
 obtain⟨w3,hw3⟩:∃ W,w2.alloc (.cells #[.string (st nm),.int .i64 0,.slice none 0 0,.slice none 0 0] 63)=W:=⟨_,rfl⟩
 obtain⟨gf,hgf⟩:∃ x,w2.heap.size=x:=⟨_,rfl⟩
 (try rw[hw3])
 rw[hw3,hgf] at HD3
 (try rw[hgf])
 clear hw3 hgf hvg
 go_wp2_with fail
 refine(Qu K at2 bad2 r2 [40] _ HD3.o.ms.pat).mono ?_
 rintro e w4 ⟨at4,bad4,r4,rfl,hp4,hg4,hE4⟩
 have HD4:=Xj (HD3.o.gr hp4 hg4)
 have HS4:Xq (r4.length<=rest.length/\((FOk bad rest nm/\bad4=false/\r4=rest.tail.tail)\/FBd at_ bad rest at4 bad4 r4)):=Xj (by
  refine⟨by have h1:=hE4.o.1;have h2:=HK2.o.1;omega,?_⟩
  rcases HK2.o.2 with⟨k1,k2,k3,k4,_,_,k5⟩|⟨k1,k2,k3,k4⟩
  ·rcases hE4.o.2 with⟨_,c2,c3,c4⟩|⟨c1,c2,c3,c4⟩
   ·rw[k5] at c3 c4
    exact .inl ⟨⟨k1,k3,k4,c3⟩,c2,c4⟩
   have c5:=c2 k2
   rw[k5] at c5 c4
   exact .inr (.inl ⟨k1,c1,by rw[c4];exact Fs.par k3 c5⟩)
  have hf:FBd at_ bad rest at2 bad2 r2:=by
   cases bad with
   | false=>exact .inl ⟨rfl,k1,by rw[k4];exact Fs.name (k2 rfl)⟩
   | true=>exact .inr ⟨rfl,k1,k3,k4⟩
  exact .inr (hf.x (A:=isT [40] r2=true/\r4=r2.tail) (B:=isT [40] r2=false) (by
   rcases hE4.o.2 with⟨c1,_,c3,c4⟩|c
   ·exact .inl ⟨c1,c3,c4⟩
   exact .inr c)))
 clear hp4 hg4 hE4 HD3 HK2
 go_wp2_with fail
 refine(Yy K at4 bad4 r4 [41] _ HD4.o.ms.pat).mono ?_
 rintro e w5 ⟨at5,r5,rfl,hp5,hg5,hc5⟩
 have HD5:=Xj (HD4.o.gr hp5 hg5)
 have HC5:=Xj hc5
 clear hp5 hg5 hc5 HD4
 obtain⟨bt,hbt⟩:∃ b:Bool,(!bad4&&isT [41] r4)=b:=⟨_,rfl⟩
 have HBT:=Xj hbt
 go_upto_if 12 with fail
 (try rw[hbt])
 clear hbt
 go_cut [] from 13 to 33 (λ wx=>∃ (pa:Option Addr) (nn pc:Nat) (xs:List Value) (at3:Nat) (bad3:Bool) (r3:List Tk),Xq (RFD K w gR gf nm (.slice pa nn pc) nn xs at3 bad3 r3 wx/\r3.length<=rest.length/\((FOk bad rest nm/\bad3=false/\∃ ps,Pr [] rest.tail.tail (.ok ps r3)/\xs=(ps.map λ x=>Value.string (st x))/\ps.length=nn)\/FBd at_ bad rest at3 bad3 r3)))
 case first =>
  cases bt
  rotate_left
  ·go_wp2_with fail
   go_meet
   refine⟨none,0,0,[],at5,bad4,r5,Xj ⟨HD5.o,?_,?_⟩⟩
   ·have h1:=HS4.o.1
    rcases HC5.o with⟨_,_,_,e⟩|⟨_,_,e⟩<;>rw[e]
    ·simp;omega
    exact h1
   have hb:=HBT.o
   rcases HC5.o with⟨c1,c2,c3,c4⟩|⟨c1,_⟩
   ·rcases HS4.o.2 with⟨f1,f2,f3⟩|f
    ·rw[f3] at c2 c4
     exact .inl ⟨f1,c1,[],by rw[c4];exact Pr.fin c2,rfl,rfl⟩
    rw[f.t] at c1;cases c1
   rw[c1] at hb;cases hb
  have HS5:Xq (r5=r4/\r5.length<=rest.length/\((FOk bad rest nm/\bad4=false/\r5=rest.tail.tail/\isT [41] rest.tail.tail=false)\/FBd at_ bad rest at5 bad4 r5)):=Xj (by
   have hb:=HBT.o
   have h1:=HS4.o.1
   rcases HC5.o with⟨c1,c2,_⟩|⟨c1,c2,c3⟩
   ·rw[c1,c2] at hb;cases hb
   refine⟨c3,by rw[c3];exact h1,?_⟩
   rcases HS4.o.2 with⟨f1,f2,f3⟩|f
   ·rw[f2,f3] at c1
    exact .inl ⟨f1,f2,by rw[c3,f3],by simpa using c1⟩
   exact .inr (f.on f.t c2 c3))
  clear HS4 HC5 HBT
  go_upto_region 4 with fail
  obtain⟨wd,hwd⟩:∃ W,w5.drew=W:=⟨_,rfl⟩
  have HBd:=Xj (show Below w5.heap.size w5 wd by rw[<- hwd];exact(Below.refl _ _).drew)
  have HDg:=Xj (HD5.o.be HBd.o)
  obtain⟨s0,s1,s2,s3⟩:=HDg.o.fc.cells
  refine Jh 6 (λ w'=>w'.cell? ⟨gf,2,none⟩=some (.slice none 0 0)) (by kernel_rfl) (by rw[hwd];exact s2) (λ hJ=>?_)
  rw[hwd] at hJ ⊢
  clear hwd s0 s1 s2 s3
  refine tkY 0 13 (λ _=>hJ) ?_
  refine tkK 1 14 ?_
  refine tkY 2 15 (λ _=>hJ) ?_
  refine rdK 3 λ K0 hK=>?_
  go_simp
  refine(Up K at5 bad4 r5 1 wd HDg.o.ms.pat (by decide)).mono ?_
  rintro e wv ⟨yk,yn,yv,pn,at9,bad9,r9,rfl,hp9,hg9,hK9⟩
  have hcg:∀ W:World,(Instr.field 103 (.agg #[.int .i64 yk,.int .i64 yn,.int .i64 yv,.string (st pn)]) 3).run Tryz.prog W=.ok (.string (st pn)) W:=λ _=>by kernel_rfl
  have HDh:=Xj (HDg.o.gr hp9 hg9)
  have HK9:=Xj hK9.out
  clear hp9 hg9 hK9 hJ
  have hJ:(λ w':World=>w'.cell? ⟨gf,2,none⟩=some (.slice none 0 0)) wv:=HDh.o.fc.cells.2.2.1
  refine goK hK (λ _=>hJ) ?_
  clear hK K0
  refine tkY 4 17 (λ _=>hJ) ?_
  refine rdK 5 λ K0 hK=>?_
  go_simp
  refine goK hK (λ _=>Xu _ hJ) ?_
  clear hK K0
  have HDi:=Xj (HDh.o.al (.cells #[.string (st pn)] 9))
  have hqp:=HDh.o.ms.gr.size
  have hnn:0<=100000:=(by omega)
  obtain⟨i0,hi0,hz0,hz1,hz2⟩:=info_parts Tryz.infoStr
  have HIF:=Xj hi0
  have HZ0:=Xj hz0
  have HZ1:=Xj hz1
  have HZ2:=Xj hz2
  clear hi0 hz0 hz1 hz2 hJ hcg
  refine rdK 6 λ K0 hK=>?_
  refine step_append_lies _ rfl _ _ _ rfl w.heap.size 9 i0 _ 1 16 Tryz.underlying42 HIF.o HZ0.o HZ1.o HZ2.o rfl (by omega) (.slice none 0 0) 0 [] rfl HDi.o.own ⟨wv.heap.size,0,none⟩ 1 1 [.string (st pn)] rfl rfl (World.news_of_block (cs := #[.string (st pn)]) (t:=9) (fr:=(0,0)) (heap_alloc_new wv _)) (by simp[Value.oneCell']) (by omega) (by unfold maxLen;omega) (by omega) (by simp;omega) _ rfl ?_
  intro g9 c9 w9 hown9 hgrow9 Ho hlt9
  have HPU:=Xj (HDh.o.push hgrow9 Ho hown9)
  change K0 (Act.put _ (some 19) (.slice (some ⟨g9,0,none⟩) (0+1) c9)) w9
  refine goK hK (λ _=>HPU.o.2.cells.2.2.1) ?_
  clear hK K0 hown9 hgrow9 Ho hlt9
  refine tkY 7 20 (λ hjl=>by simp at hjl) ?_
  obtain⟨s0,s1,s2,s3⟩:=HPU.o.2.cells
  obtain⟨j0,j1,j2,j3⟩:=HPU.o.2.froz
  have hlS:=HPU.o.2.lt
  refine rdK 8 λ K0 hK=>?_
  go_simp
  refine goK hK (λ hjl=>by simp at hjl) ?_
  clear hK K0
  refine Qt (by kernel_rfl) ?_ _
  refine Xz ?_
  clear s0 s1 s2 s3 j0 j1 j2 j3 hlS
  obtain⟨wz,hwz⟩:∃ W,w9.setCell ⟨gf,2,none⟩ (.slice (some ⟨g9,0,none⟩) (0+1) c9)=W:=⟨_,rfl⟩
  (try rw[hwz])
  have HDn:=Xj HPU.o.1
  rw[hwz] at HDn
  clear hwz HPU HDi
  have HL0:Xq (∃ (at3:Nat) (bad3:Bool) (r3:List Tk) (xs:List Value),Xq (RFD K w gR gf nm (.slice (some ⟨g9,0,none⟩) (0+1) c9) (0+1) xs at3 bad3 r3 wz/\r3.length<=rest.length/\0+1<=at3+1/\((FOk bad rest nm/\bad3=false/\r3.length<rest.length/\∃ ps,ps≠[]/\xs=(ps.map λ x=>Value.string (st x))/\ps.length=0+1/\∀ y,Pr ps r3 y->Pr [] rest.tail.tail y)\/FBd at_ bad rest at3 bad3 r3))):=Xj ⟨at9,bad9,r9,_,Xj ⟨HDn.o,by have:=HK9.o.1;have:=HS5.o.2.1;omega,by omega,by
   have h1:=HK9.o.1
   have h2:=HS5.o.2.1
   have h3:=HRT.o
   rcases HS5.o.2.2 with⟨f1,f2,f3,f4⟩|f
   ·rcases HK9.o.2 with⟨k1,k2,k3,k4,_,_,k5⟩|⟨k1,k2,k3,k4⟩
    ·rw[f3] at k3 k4 k5
     refine .inl ⟨f1,k2,?_,[pn],by simp,rfl,rfl,λ y hy=>?_⟩
     ·rw[k5];simp only[List.length_tail] at *;omega
     rw[k5] at hy
     refine Pr.more (u:=rest.tail.tail) f4 (λ h=>absurd rfl h) (by unfold uP;rw[if_pos rfl]) k3 ?_
     rw[<- k4]
     exact hy
    have k5:=k2 f2
    rw[f3] at k5 k4
    refine .inr (.inl ⟨f1.1,k1,?_⟩)
    rw[k4]
    exact Fs.pbad f1.2.1 f1.2.2.2 (Pr.nm f4 (λ h=>absurd rfl h) (by unfold uP;rw[if_pos rfl]) k5)
   exact .inr (f.x (A:=kOf r5=1) (B:=kOf r5≠1) (by
    rcases HK9.o.2 with⟨k1,_,k3,_⟩|k
    ·exact .inl ⟨k1,k3⟩
    exact .inr k))⟩⟩
  clear HD5 HS5 HDg HDh HK9 HDn
  go_upto_block 0 with fail
  go_wp2_with fail
  go_loopw [] (λ wr=>∃ (pa:Option Addr) (nn pc:Nat) (xs:List Value) (at3:Nat) (bad3:Bool) (r3:List Tk),Xq (RFD K w gR gf nm (.slice pa nn pc) nn xs at3 bad3 r3 wr/\r3.length<=rest.length/\nn<=at3+1/\((FOk bad rest nm/\bad3=false/\r3.length<rest.length/\∃ ps,ps≠[]/\xs=(ps.map λ x=>Value.string (st x))/\ps.length=nn/\∀ y,Pr ps r3 y->Pr [] rest.tail.tail y)\/FBd at_ bad rest at3 bad3 r3))) (λ wr=>K.ts.length-natAt wr K.g)
  case atStart =>
   obtain⟨at3,bad3,r3,xs,h⟩:=HL0.o
   exact⟨some ⟨g9,0,none⟩,0+1,c9,xs,at3,bad3,r3,h⟩
  clear HL0
  rename World=>wl
  obtain⟨pa,nn,pc,xs,at3,bad3,r3,HI⟩:=hrel
  have HDa:=Xj HI.o.1
  go_wp2_with fail
  refine(Yy K at3 bad3 r3 [44] _ HDa.o.ms.pat).mono ?_
  rintro e w6 ⟨at6,r6,rfl,hp6,hg6,hc6⟩
  have HD6:=Xj (HDa.o.gr hp6 hg6)
  clear hp6 hg6
  rcases hc6 with⟨hbf,hT,ha6,hr6⟩|⟨hT,ha6,hr6⟩<;>subst at6 r6
  ·subst hbf
   have HC:=Xj hT
   (try rw[hT])
   clear hT
   have HS6:Xq (FOk bad rest nm/\r3.length<rest.length/\∃ ps,ps≠[]/\xs=(ps.map λ x=>Value.string (st x))/\ps.length=nn/\∀ y,Pr ps r3 y->Pr [] rest.tail.tail y):=Xj (by
    rcases HI.o.2.2.2 with⟨f1,_,f2,f3⟩|f
    ·exact⟨f1,f2,f3⟩
    exact absurd f.t (by simp))
   have hzw:Xq (r3.tail.length<r3.length):=Xj (Jv (by intro e;have:=HC.o;rw[e] at this;cases this))
   have HBN:Xq (nn<=100000):=Xj (by have h1:=HI.o.2.2.1;have h2:=HDa.o.ms.pat.lt;have h3:=HDa.o.ms.pat.n;omega)
   go_upto_region 6 with fail
   obtain⟨wd,hwd⟩:∃ W,w6.drew=W:=⟨_,rfl⟩
   have HBd:=Xj (show Below w6.heap.size w6 wd by rw[<- hwd];exact(Below.refl _ _).drew)
   have HDg:=Xj (HD6.o.be HBd.o)
   obtain⟨s0,s1,s2,s3⟩:=HDg.o.fc.cells
   refine Jh 6 (λ w'=>w'.cell? ⟨gf,2,none⟩=some (.slice pa nn pc)) (by kernel_rfl) (by rw[hwd];exact s2) (λ hJ=>?_)
   rw[hwd] at hJ ⊢
   clear hwd s0 s1 s2 s3
   refine tkY 0 23 (λ _=>hJ) ?_
   refine tkK 1 24 ?_
   refine tkY 2 25 (λ _=>hJ) ?_
   refine rdK 3 λ K0 hK=>?_
   go_simp
   refine(Up K (at3+1) false r3.tail 1 wd HDg.o.ms.pat (by decide)).mono ?_
   rintro e wv ⟨yk,yn,yv,pn,at9,bad9,r9,rfl,hp9,hg9,hK9⟩
   have hcg:∀ W:World,(Instr.field 103 (.agg #[.int .i64 yk,.int .i64 yn,.int .i64 yv,.string (st pn)]) 3).run Tryz.prog W=.ok (.string (st pn)) W:=λ _=>by kernel_rfl
   have HDh:=Xj (HDg.o.gr hp9 hg9)
   have HK9:=Xj hK9.out
   clear hp9 hg9 hK9 hJ
   have hJ:(λ w':World=>w'.cell? ⟨gf,2,none⟩=some (.slice pa nn pc)) wv:=HDh.o.fc.cells.2.2.1
   refine goK hK (λ _=>hJ) ?_
   clear hK K0
   refine tkY 4 27 (λ _=>hJ) ?_
   refine rdK 5 λ K0 hK=>?_
   go_simp
   refine goK hK (λ _=>Xu _ hJ) ?_
   clear hK K0
   have HDi:=Xj (HDh.o.al (.cells #[.string (st pn)] 9))
   have hqp:=HDh.o.ms.gr.size
   have hnn:nn<=100000:=HBN.o
   obtain⟨i0,hi0,hz0,hz1,hz2⟩:=info_parts Tryz.infoStr
   have HIF:=Xj hi0
   have HZ0:=Xj hz0
   have HZ1:=Xj hz1
   have HZ2:=Xj hz2
   clear hi0 hz0 hz1 hz2 hJ hcg
   refine rdK 6 λ K0 hK=>?_
   refine step_append_lies _ rfl _ _ _ rfl w.heap.size 9 i0 _ 1 16 Tryz.underlying42 HIF.o HZ0.o HZ1.o HZ2.o rfl (by omega) (.slice pa nn pc) nn xs rfl HDi.o.own ⟨wv.heap.size,0,none⟩ 1 1 [.string (st pn)] rfl rfl (World.news_of_block (cs := #[.string (st pn)]) (t:=9) (fr:=(0,0)) (heap_alloc_new wv _)) (by simp[Value.oneCell']) (by omega) (by unfold maxLen;omega) (by omega) (by simp;omega) _ rfl ?_
   intro g9 c9 w9 hown9 hgrow9 Ho hlt9
   have HPU:=Xj (HDh.o.push hgrow9 Ho hown9)
   change K0 (Act.put _ (some 29) (.slice (some ⟨g9,0,none⟩) (nn+1) c9)) w9
   refine goK hK (λ _=>HPU.o.2.cells.2.2.1) ?_
   clear hK K0 hown9 hgrow9 Ho hlt9
   refine tkY 7 30 (λ hjl=>by simp at hjl) ?_
   obtain⟨s0,s1,s2,s3⟩:=HPU.o.2.cells
   obtain⟨j0,j1,j2,j3⟩:=HPU.o.2.froz
   have hlS:=HPU.o.2.lt
   refine rdK 8 λ K0 hK=>?_
   go_simp
   refine goK hK (λ hjl=>by simp at hjl) ?_
   clear hK K0
   refine Qt (by kernel_rfl) ?_ _
   refine Xz ?_
   clear s0 s1 s2 s3 j0 j1 j2 j3 hlS
   obtain⟨wz,hwz⟩:∃ W,w9.setCell ⟨gf,2,none⟩ (.slice (some ⟨g9,0,none⟩) (nn+1) c9)=W:=⟨_,rfl⟩
   (try rw[hwz])
   have HDn:=Xj HPU.o.1
   rw[hwz] at HDn
   clear hwz HPU HDi
   have HN:Xq (RFD K w gR gf nm (.slice (some ⟨g9,0,none⟩) (nn+1) c9) (nn+1) (xs++[.string (st pn)]) at9 bad9 r9 wz/\r9.length<=rest.length/\nn+1<=at9+1/\((FOk bad rest nm/\bad9=false/\r9.length<rest.length/\∃ ps,ps≠[]/\xs++[.string (st pn)]=(ps.map λ x=>Value.string (st x))/\ps.length=nn+1/\∀ y,Pr ps r9 y->Pr [] rest.tail.tail y)\/FBd at_ bad rest at9 bad9 r9)):=Xj (by
    have h1:=HK9.o.1
    have h2:=hzw.o
    have h3:=HI.o.2.1
    have h4:=HI.o.2.2.1
    have h5:=HDn.o.ms.pat.lt
    have h6:=HD6.o.ms.pat.lt
    refine⟨HDn.o,by omega,by omega,?_⟩
    obtain⟨f1,f2,ps,f3,f4,f5,f6⟩:=HS6.o
    have hu:uP ps r3=r3.tail:=by unfold uP;rw[if_neg f3]
    have h41:isT [41] r3=false:=Zn HC.o (by decide)
    rcases HK9.o.2 with⟨_,k2,k3,k4,_,_,k5⟩|⟨k1,k2,k3,k4⟩
    ·refine .inl ⟨f1,k2,by rw[k5];simp only[List.length_tail] at *;omega,ps++[pn],by simp,by rw[f4];simp,by simp[f5],λ y hy=>f6 y (Pr.more (u:=r3.tail) h41 (λ _=>HC.o) hu.symm k3 ?_)⟩
     rw[<- k4,<- k5]
     exact hy
    refine .inr (.inl ⟨f1.1,k1,?_⟩)
    rw[k4]
    exact Fs.pbad f1.2.1 f1.2.2.2 (f6 _ (Pr.nm (u:=r3.tail) h41 (λ _=>HC.o) hu.symm (k2 rfl))))
   go_wp2_with fail
   go_roundw
   case rel=>exact⟨some ⟨g9,0,none⟩,nn+1,c9,_,at9,bad9,r9,HN⟩
   have h1:=HN.o.1.ms.pat.natAt
   have h2:=HDa.o.ms.pat.natAt
   have h3:=HN.o.1.ms.pat.lt
   have h4:=HD6.o.ms.pat.lt
   have h5:=HDa.o.ms.pat.lt
   have h6:=HK9.o.1
   rw[h1,h2]
   omega
  have HNC:=Xj hT
  (try rw[hT])
  clear hT
  go_wp2_with fail
  refine(Qu K at3 bad3 r3 [41] _ HD6.o.ms.pat).mono ?_
  rintro e w7 ⟨at7,bad7,r7,rfl,hp7,hg7,hE7⟩
  go_wp2_with fail
  go_meet
  refine⟨pa,nn,pc,xs,at7,bad7,r7,Xj ⟨HD6.o.gr hp7 hg7,by have h1:=hE7.o.1;have h2:=HI.o.2.1;omega,?_⟩⟩
  rcases HI.o.2.2.2 with⟨f1,f2,_,ps,f3,f4,f5,f6⟩|f
  ·have hc:isT [44] r3=false:=by have:=HNC.o;rw[f2] at this;simpa using this
   rcases hE7.o.2 with⟨_,c2,c3,c4⟩|⟨c1,c2,c3,c4⟩
   ·exact .inl ⟨f1,c2,ps,f6 _ (by rw[c4];exact Pr.fin c3),f4,f5⟩
   refine .inr (.inl ⟨f1.1,c1,?_⟩)
   rw[c4]
   exact Fs.pbad f1.2.1 f1.2.2.2 (f6 _ (Pr.no (c2 f2) f3 hc))
  exact .inr (f.x (A:=isT [41] r3=true/\r7=r3.tail) (B:=isT [41] r3=false) (by
   rcases hE7.o.2 with⟨c1,_,c3,c4⟩|c
   ·exact .inl ⟨c1,c3,c4⟩
   exact .inr c))
 case rest =>
 rename World=>wq
 obtain⟨pa,nn,pc,xs,at3,bad3,r3,HC⟩:=hcut
 have HDa:=Xj HC.o.1
 go_wp2_with fail
 refine(Pk K at3 bad3 r3 _ HDa.o.ms.pat).mono ?_
 rintro e wb ⟨ba,bn,bc,bad6,at6,r6,rfl,hp6,hxh,hg6,hqq⟩
 have hgl:=HDa.o.ms.gl
 have HD6:=Xj (HDa.o.gr hp6 hg6)
 have HSZ:Xq (w.heap.size<=wq.heap.size/\gf<wq.heap.size/\gR<wq.heap.size):=Xj ⟨HDa.o.ms.gr.size,HDa.o.fc.lt,HDa.o.rc.lt⟩
 have HLE:Xq (r6.length<=rest.length):=Xj (by have:=HC.o.2.1;omega)
 have hjr:Xq ((bad=false/\bad6=false/\∃ ps S,Fs rest (.ok nm ps S r6)/\xs=(ps.map λ x=>Value.string (st x))/\ps.length=nn/\Xl wb (λ b=>wq.heap.size<=b) S (.slice ba bn bc)/\r6.length<rest.length)\/FBd at_ bad rest at6 bad6 r6):=Xj (by
  rcases HC.o.2.2 with⟨f1,f2,ps,f3,f4,f5⟩|f
  ·rcases hqq.o with⟨_,c1,S,c2,c3,c4⟩|⟨_,c1,c2⟩|⟨c1,_⟩
   ·refine .inl ⟨f1.1,c1,ps,S,?_,f4,f5,c3,by have:=HC.o.2.1;omega⟩
    rw[f1.2.2.1]
    exact Fs.ok f1.2.1 f1.2.2.2 f3 c2
   ·exact .inr (.inl ⟨f1.1,c1,Fs.bbad f1.2.1 f1.2.2.2 f3 c2⟩)
   rw[f2] at c1;cases c1
  rcases hqq.o with⟨c1,_⟩|⟨c1,_⟩|⟨_,c2,c3,c4⟩
  ·rw[f.t] at c1;cases c1
  ·rw[f.t] at c1;cases c1
  exact .inr (f.on c2 c3 c4))
 clear hp6 hxh hg6 hqq
 obtain⟨s0,s1,s2,s3⟩:=HD6.o.fc.cells
 obtain⟨j0,j1,j2,j3⟩:=HD6.o.fc.froz
 have hlS:=HD6.o.fc.lt
 have hne:=HD6.o.ne
 have HM7:=Xj (HD6.o.ms.sc (p:=⟨gf,3,none⟩) (by show _<=gf;omega) (.slice ba bn bc))
 have HR7:=Xj (HD6.o.rc.s1 (p:=⟨gf,3,none⟩) (v:=.slice ba bn bc) (by show gR≠gf;omega))
 have HF7:=Xj (HD6.o.fc.sb (.slice ba bn bc))
 have HO7:=Xj (HD6.o.own.kept (Xp wb gf 3 (.slice ba bn bc)) (.inr hne.2.2.2))
 have HS7:Xq (∀ S,Xl wb (λ b=>wq.heap.size<=b) S (.slice ba bn bc)->Xl (wb.setCell ⟨gf,3,none⟩ (.slice ba bn bc)) (λ b=>w.heap.size<=b/\b≠gR) S (.slice ba bn bc)):=Xj (λ S hS=>by
  have h:=HSZ.o
  exact Zj (Wh (p:=⟨gf,3,none⟩) (v:=.slice ba bn bc) hS (λ b hb=>by show b≠gf;omega)) (λ b hb _=>⟨by omega,by omega⟩))
 have HNE:=Xj hne
 clear hne
 go_upto_region 9 with fail
 obtain⟨w7,hw7⟩:∃ W,wb.setCell ⟨gf,3,none⟩ (.slice ba bn bc)=W:=⟨_,rfl⟩
 (try rw[hw7])
 rw[hw7] at HM7 HR7 HF7 HO7 HS7
 clear hw7 s0 s1 s2 s3 j0 j1 j2 j3 hlS HD6
 obtain⟨y0,y1,y2,y3⟩:=HR7.o.cells
 obtain⟨g0,g1,g2,g3⟩:=HR7.o.froz
 have hlR:=HR7.o.lt
 obtain⟨s0,s1,s2,s3⟩:=HF7.o.cells
 have hlS:=HF7.o.lt
 have hZ:=Id (at_:=at_) (bad:=bad) (rest:=rest) HM7.o HR7.o HNE.o.1 HLE.o nm pa nn pc ba bn bc (by
  rcases hjr.o with⟨f1,f2,ps,S,f3,f4,f5,f6,f7⟩|f
  ·refine .inl ⟨f1,f2,ps,S,f3,Ux.of_own (base:=w.heap.size) (by rw[f5,<- f4];exact HO7.o) (λ b hb=>⟨(HO7.o.lt b hb).1,λ e=>HNE.o.2.2.1 (by rw[hb,e])⟩),HS7.o S f6,f7⟩
  exact .inr f)
 go_wp2_with fail
 obtain⟨wz,hwz⟩:∃ W,set4 w7 gR (.string (st nm)) (.int .i64 0) (.slice pa nn pc) (.slice ba bn bc)=W:=⟨_,rfl⟩
 have hY:=hwz
 unfold set4 at hY
 (try rw[hY])
 obtain⟨hd,hep⟩:=hZ wz hwz.symm
 obtain⟨d0,d1,d2,d3⟩:=hd.cells
 clear hZ
 refine bodyPost_ret (v:=fnv nm 0 (.slice pa nn pc) (.slice ba bn bc)) (by simp[results,Tryz.results105,go_sem,d0,d1,d2,d3]) rfl ?_
 exact hep
end
section
def gcs (gs:List (Bt×Int)):List Value:=gs.flatMap λ x=>[Value.string (st x.1),.int .i64 x.2]
theorem gcs_snoc (gs:List (Bt×Int)) (x:Bt×Int):gcs (gs++[x])=gcs gs++[.string (st x.1),.int .i64 x.2]:=by simp[gcs]
def Jz (w:World) (P:Nat->Prop):List Fu->List Value->Prop
 | [],cs=>cs=[]
 | f::l,cs=>∃ vp vb cs',cs=[.string (st f.nm),.int .i64 f.ln,vp,vb]++cs'/\Ux w P f.ps vp/\Xl w P f.S vb/\Jz w P l cs'
theorem Jz.keep {w w':World} {P Q:Nat->Prop} {l:List Fu} {cs:List Value} (h:Jz w P l cs) (hk:∀ b,P b->b<w.heap.size->w'.heap[b]?=w.heap[b]?/\Q b) (hs:w.heap.size<=w'.heap.size):Jz w' Q l cs:=by
 induction l generalizing cs with
 | nil=>exact h
 | cons f l ih =>
  obtain⟨vp,vb,cs',e,h1,h2,h3⟩:=h
  exact⟨vp,vb,cs',e,h1.keep hk hs,h2.keep hk hs,ih h3⟩
theorem Jz.snoc {w:World} {P:Nat->Prop} {l:List Fu} {cs:List Value} {f:Fu} {vp vb:Value} (h:Jz w P l cs) (hp:Ux w P f.ps vp) (hb:Xl w P f.S vb):Jz w P (l++[f]) (cs++[.string (st f.nm),.int .i64 f.ln,vp,vb]):=by
 induction l generalizing cs with
 | nil=>rw[show cs=[] from h];exact⟨vp,vb,[],by simp,hp,hb,rfl⟩
 | cons g l ih =>
  obtain⟨vp',vb',cs',e,h1,h2,h3⟩:=h
  exact⟨vp',vb',cs'++[.string (st f.nm),.int .i64 f.ln,vp,vb],by rw[e];simp,h1,h2,ih h3⟩
def Lo (wx:World) (b:Nat) (va vb:Value):Prop:=wx.heap[b]?=some (.cells #[va,vb] 29 (0,0))
section
variable {wx wy:World} {b:Nat} {va vb:Value}
theorem Lo.lt (h:Lo wx b va vb):b<wx.heap.size:=Xv h
theorem Lo.al (h:Lo wx b va vb) (o:Obj):Lo (wx.alloc o) b va vb:=(Below.heap_alloc wx o b h.lt).trans h
theorem Lo.be (h:Lo wx b va vb) (hb:Below wx.heap.size wx wy):Lo wy b va vb:=(hb.block b h.lt).trans h
theorem Lo.grw {row:Option Nat} (h:Lo wx b va vb) (hg:wx.grownBy wy row) (hn:row≠some b):Lo wy b va vb:=(hg.block b h.lt (λ e=>hn e.symm)).trans h
theorem Lo.s1 (h:Lo wx b va vb) {p:Addr} {v:Value} (hn:b≠p.block):Lo (wx.setCell p v) b va vb:=(heap_setCell_other wx p b v hn).trans h
theorem Lo.s0 (h:Lo wx b va vb) (v:Value):Lo (wx.setCell ⟨b,0,none⟩ v) b v vb:=heap_setCell_same wx b 0 _ _ _ h
theorem Lo.sf (h:Lo wx b va vb) (v:Value):Lo (wx.setCell ⟨b,1,none⟩ v) b va v:=heap_setCell_same wx b 1 _ _ _ h
theorem Lo.s2 (h:Lo wx b va vb) (a2 b2:Value):Lo ((wx.setCell ⟨b,0,none⟩ a2).setCell ⟨b,1,none⟩ b2) b a2 b2:=heap_setCell_same _ b 1 _ _ _ (heap_setCell_same wx b 0 _ _ _ h)
theorem Lo.cells (h:Lo wx b va vb):wx.cell? ⟨b,0,none⟩=some va/\wx.cell? ⟨b,1,none⟩=some vb:=⟨cell_of_row _ b 0 _ _ _ h,cell_of_row _ b 1 _ _ _ h⟩
theorem Lo.froz (h:Lo wx b va vb):wx.frozen? ⟨b,0,none⟩=false/\wx.frozen? ⟨b,1,none⟩=false:=⟨frozen_of_row _ b 0 _ _ h,frozen_of_row _ b 1 _ _ h⟩
end
abbrev Jx:Obj:=.cells #[.slice none 0 0,.slice none 0 0] 29
theorem Lo.zero (w:World):Lo (w.alloc Jx) w.heap.size Xs Xs:=heap_alloc_new w _
abbrev sov (va vb:Value):Value:=.agg #[va,vb]
def Zh (w:World) (P:Nat->Prop) (gs:List (Bt×Int)) (fs:List Fu) (va vb:Value):Prop :=
 ∃ (ga:Option Addr) (gc:Nat) (fa:Option Addr) (fc:Nat) (ys:List Value),va=.slice ga gs.length gc/\vb=.slice fa fs.length fc/\gs.length<=gc/\gc<=maxLen/\fs.length<=fc/\fc<=maxLen/\Vt w P ga (gcs gs)/\Vt w P fa ys/\Jz w P fs ys
theorem Zh.keep {w w':World} {P Q:Nat->Prop} {gs:List (Bt×Int)} {fs:List Fu} {va vb:Value} (h:Zh w P gs fs va vb) (hk:∀ b,P b->b<w.heap.size->w'.heap[b]?=w.heap[b]?/\Q b) (hs:w.heap.size<=w'.heap.size):Zh w' Q gs fs va vb:=by
 obtain⟨ga,gc,fa,fc,ys,h1,h2,h3,h4,h5,h6,h7,h8,h9⟩:=h
 exact⟨ga,gc,fa,fc,ys,h1,h2,h3,h4,h5,h6,h7.keep hk hs,h8.keep hk hs,h9.keep hk hs⟩
def SoQ (K:PC) (rest:List Tk) (w:World) (e:Ending) (w':World):Prop :=
 ∃ (ga:Option Addr) (gn gc:Nat) (fa:Option Addr) (fn fc:Nat) (wr:Int) (ok:Bool) (at2:Nat) (r:List Tk),e=.returned (.tuple #[sov (.slice ga gn gc) (.slice fa fn fc),.bool ok])/\PAt w' (K.mk' wr) at2 r/\w.grownBy w' (some K.g) /\
  Xq ((ok=true/\∃ gs fs,So K.wr [] [] rest (.ok gs fs wr r)/\Zh w' (λ b=>w.heap.size<=b) gs fs (.slice ga gn gc) (.slice fa fn fc))\/(ok=false/\So K.wr [] [] rest (.bad r)))
structure OD (K:PC) (w:World) (gR go:Nat) (wr:Int) (gs:List (Bt×Int)) (fs:List Fu) (va:Value) (ng:Nat) (vb:Value) (nf:Nat) (ys:List Value) (at2:Nat) (r:List Tk) (wx:World):Prop where
 ms:MS (K.mk' wr) w wx at2 r
 rc:Lo wx gR Xs Xs
 oc:Lo wx go va vb
 og:wx.ownsRow w.heap.size 60 2 va ng (gcs gs)
 lg:gs.length=ng
 of:wx.ownsRow w.heap.size 63 4 vb nf ys
 ff:Jz wx (λ b=>w.heap.size<=b/\b≠gR/\b≠go/\some b≠va.ownBlock/\some b≠vb.ownBlock) fs ys
 lf:fs.length=nf
 ne:w.heap.size<=gR/\gR<go
 na:va.ownBlock≠some gR/\va.ownBlock≠some go
 nb:vb.ownBlock≠some gR/\vb.ownBlock≠some go
 nab:va.ownBlock=none\/vb.ownBlock=none\/va.ownBlock≠vb.ownBlock
section
variable {K:PC} {w wx wy:World} {gR go:Nat} {wr wr2:Int} {gs:List (Bt×Int)} {fs:List Fu} {va vb:Value} {ng nf:Nat} {ys:List Value} {at2 at3:Nat} {r r3:List Tk}
theorem OD.gr (d:OD K w gR go wr gs fs va ng vb nf ys at2 r wx) (hp:PAt wy (K.mk' wr2) at3 r3) (hg:wx.grownBy wy (some K.g)):OD K w gR go wr2 gs fs va ng vb nf ys at3 r3 wy:=by
 have hl:K.g<w.heap.size:=d.ms.gl
 obtain⟨n1,n2⟩:=d.ne
 exact⟨⟨hp,Xb d.ms.gr hg,d.ms.gl,d.ms.tl⟩,d.rc.grw hg (by intro e;injection e with e;omega),d.oc.grw hg (by intro e;injection e with e;omega),Yz d.og hg hl,d.lg,Yz d.of hg hl,d.ff.keep (λ b hb hlt=>⟨hg.block b hlt (λ e=>by injection e with e;have:=hb.1;omega),hb⟩) hg.size,d.lf,d.ne,d.na,d.nb,d.nab⟩
theorem OD.be (d:OD K w gR go wr gs fs va ng vb nf ys at2 r wx) (hb:Below wx.heap.size wx wy):OD K w gR go wr gs fs va ng vb nf ys at2 r wy:=d.gr (d.ms.be hb).pat (Xg hb _)
end
end
section
theorem Tryz.infoGlb:(Tryz.prog.info? 60).map (λ i=>(i.zero,i.size,i.bytes))=some (some (.agg #[.string ⟨#[]⟩,.int .i64 0]),2,24):=by kernel_rfl
theorem Tryz.infoFun:(Tryz.prog.info? 63).map (λ i=>(i.zero,i.size,i.bytes))=some (some (.agg #[.string ⟨#[]⟩,.int .i64 0,.slice none 0 0,.slice none 0 0]),4,72):=by kernel_rfl
section
variable {K:PC} {w wx wy:World} {gR go:Nat} {wr wr2:Int} {gs:List (Bt×Int)} {fs:List Fu} {va vb:Value} {ng nf:Nat} {ys:List Value} {at2 at3:Nat} {r r3:List Tk}
theorem OD.zero (hP:PAt w K at2 r) (hg:w.heap.size+1=go) (hw:K.wr=wr):OD K w w.heap.size go wr [] [] Xs 0 Xs 0 [] at2 r ((w.alloc Jx).alloc Jx):=by
 subst hg hw
 refine⟨((MS.init hP).al Jx).al Jx,(Lo.zero w).al Jx,?_,World.ownsRow_nil _ _ _ _,rfl,World.ownsRow_nil _ _ _ _,rfl,rfl,⟨Nat.le_refl _,by omega⟩,⟨(λ e=>nomatch e),(λ e=>nomatch e)⟩,⟨(λ e=>nomatch e),(λ e=>nomatch e)⟩,.inl rfl⟩
 have h:=Lo.zero (w.alloc Jx)
 have e:(w.alloc Jx).heap.size=w.heap.size+1:=by simp
 rw[e] at h
 exact h
theorem OD.al (d:OD K w gR go wr gs fs va ng vb nf ys at2 r wx) (o:Obj):OD K w gR go wr gs fs va ng vb nf ys at2 r (wx.alloc o):=d.be (Xw wx o)
theorem OD.pg (d:OD K w gR go wr gs fs va ng vb nf ys at2 r wx) {g9 c9:Nat} {w9:World} {x:Bt×Int} {ob:Obj} (hg9:(wx.alloc ob).grownBy w9 va.ownBlock) (h9:va.ownBlock=some g9\/g9=(wx.alloc ob).heap.size) (ho:w9.ownsRow w.heap.size 60 2 (.slice (some ⟨g9,0,none⟩) (ng+1) c9) (ng+1) (gcs gs++[.string (st x.1),.int .i64 x.2])) :
  OD K w gR go wr (gs++[x]) fs (.slice (some ⟨g9,0,none⟩) (ng+1) c9) (ng+1) vb nf ys at2 r (w9.setCell ⟨go,0,none⟩ (.slice (some ⟨g9,0,none⟩) (ng+1) c9))/\Lo w9 go va vb:=by
 have d':=d.al ob
 obtain⟨n1,n2⟩:=d.ne
 have l1:=d'.rc.lt
 have l2:=d'.oc.lt
 have q1:g9≠gR:=by rcases h9 with e|e;(intro e2;exact d.na.1 (by rw[e,e2]));omega
 have q2:g9≠go:=by rcases h9 with e|e;(intro e2;exact d.na.2 (by rw[e,e2]));omega
 have q3:vb.ownBlock≠some g9:=by
  intro e
  rcases h9 with e2|e2
  ·rcases d.nab with h|h|h
   ·rw[h] at e2;cases e2
   ·rw[h] at e;cases e
   exact h (e2.trans e.symm)
  have:=(d'.of.lt _ e).2;omega
 have f9:=d'.oc.grw hg9 d.na.2
 refine⟨⟨(d'.ms.own hg9 (λ k2 e=>(d'.og.lt k2 e).1)).sc (p:=⟨go,0,none⟩) (by show _<=go;omega) _,(d'.rc.grw hg9 d.na.1).s1 (p:=⟨go,0,none⟩) (by show gR≠go;omega),f9.s0 _,?_,by simp[d.lg],?_,?_,d.lf,d.ne,⟨?_,?_⟩,d.nb,.inr (.inr (λ e=>q3 e.symm))⟩,f9⟩
 ·rw[gcs_snoc];exact ho.kept (Xp w9 go 0 _) (.inr (by show some g9≠some go;simp;exact q2))
 ·refine(d'.of.kept hg9 ?_).kept (Xp w9 go 0 _) (.inr d.nb.2)
  rcases d.nab with h|h|h
  ·rw[h]
   cases hv:vb.ownBlock with
   | none=>exact .inl rfl
   | some k=>exact .inr (λ e=>nomatch e)
  ·exact .inl h
  exact .inr (λ e=>h e.symm)
 ·refine d'.ff.keep (λ b hb hlt=>⟨?_,hb.1,hb.2.1,hb.2.2.1,?_,hb.2.2.2.2⟩) (Nat.le_trans hg9.size (by simp[World.setCell]))
  ·exact(heap_setCell_other _ _ _ _ (by show b≠go;exact hb.2.2.1)).trans (hg9.block b hlt hb.2.2.2.1)
  show some b≠some g9
  rcases h9 with e|e
  ·rw[<- e];exact hb.2.2.2.1
  intro e2;injection e2 with e2;omega
 ·show some g9≠some gR;simp;exact q1
 show some g9≠some go;simp;exact q2
theorem OD.pf (d:OD K w gR go wr gs fs va ng vb nf ys at2 r wx) {g9 c9:Nat} {w9:World} {x:Fu} {vp vq:Value} {ob:Obj} (hg9:(wx.alloc ob).grownBy w9 vb.ownBlock) (h9:vb.ownBlock=some g9\/g9=(wx.alloc ob).heap.size) (ho:w9.ownsRow w.heap.size 63 4 (.slice (some ⟨g9,0,none⟩) (nf+1) c9) (nf+1) (ys++[.string (st x.nm),.int .i64 x.ln,vp,vq]))
  (hp:Ux wx (λ b=>w.heap.size<=b/\b≠gR/\b≠go/\some b≠va.ownBlock/\some b≠vb.ownBlock) x.ps vp) (hs:Xl wx (λ b=>w.heap.size<=b/\b≠gR/\b≠go/\some b≠va.ownBlock/\some b≠vb.ownBlock) x.S vq) :
  OD K w gR go wr gs (fs++[x]) va ng (.slice (some ⟨g9,0,none⟩) (nf+1) c9) (nf+1) (ys++[.string (st x.nm),.int .i64 x.ln,vp,vq]) at2 r (w9.setCell ⟨go,1,none⟩ (.slice (some ⟨g9,0,none⟩) (nf+1) c9))/\Lo w9 go va vb:=by
 have d':=d.al ob
 obtain⟨n1,n2⟩:=d.ne
 have l1:=d'.rc.lt
 have l2:=d'.oc.lt
 have q1:g9≠gR:=by rcases h9 with e|e;(intro e2;exact d.nb.1 (by rw[e,e2]));omega
 have q2:g9≠go:=by rcases h9 with e|e;(intro e2;exact d.nb.2 (by rw[e,e2]));omega
 have q3:va.ownBlock≠some g9:=by
  intro e
  rcases h9 with e2|e2
  ·rcases d.nab with h|h|h
   ·rw[h] at e;cases e
   ·rw[h] at e2;cases e2
   exact h (e.trans e2.symm)
  have:=(d'.og.lt _ e).2;omega
 have f9:=d'.oc.grw hg9 d.nb.2
 have hle:(wx.alloc ob).heap.size<=(w9.setCell ⟨go,1,none⟩ (.slice (some ⟨g9,0,none⟩) (nf+1) c9)).heap.size:=Nat.le_trans hg9.size (by simp[World.setCell])
 have key:∀ b,(w.heap.size<=b/\b≠gR/\b≠go/\some b≠va.ownBlock/\some b≠vb.ownBlock)->b<wx.heap.size->(w9.setCell ⟨go,1,none⟩ (.slice (some ⟨g9,0,none⟩) (nf+1) c9)).heap[b]?=wx.heap[b]?/\(w.heap.size<=b/\b≠gR/\b≠go/\some b≠va.ownBlock/\some b≠(Value.slice (some ⟨g9,0,none⟩) (nf+1) c9).ownBlock):=λ b hb hlt =>
  ⟨(heap_setCell_other _ _ _ _ (by show b≠go;exact hb.2.2.1)).trans ((hg9.block b (by simp;omega) hb.2.2.2.2).trans (Below.heap_alloc wx ob b hlt)),hb.1,hb.2.1,hb.2.2.1,hb.2.2.2.1,by
   show some b≠some g9
   rcases h9 with e|e
   ·rw[<- e];exact hb.2.2.2.2
   intro e2;injection e2 with e2;simp at e;omega⟩
 have hsz:wx.heap.size<=(w9.setCell ⟨go,1,none⟩ (.slice (some ⟨g9,0,none⟩) (nf+1) c9)).heap.size:=Nat.le_trans (by simp) hle
 refine⟨⟨(d'.ms.own hg9 (λ k2 e=>(d'.of.lt k2 e).1)).sc (p:=⟨go,1,none⟩) (by show _<=go;omega) _,(d'.rc.grw hg9 d.nb.1).s1 (p:=⟨go,1,none⟩) (by show gR≠go;omega),f9.sf _,?_,d.lg,ho.kept (Xp w9 go 1 _) (.inr (by show some g9≠some go;simp;exact q2)),(d.ff.keep key hsz).snoc (hp.keep key hsz) (hs.keep key hsz),by simp[d.lf],d.ne,d.na,⟨?_,?_⟩,.inr (.inr q3)⟩,f9⟩
 ·refine(d'.og.kept hg9 ?_).kept (Xp w9 go 1 _) (.inr d.na.2)
  rcases d.nab with h|h|h
  ·exact .inl h
  ·rw[h]
   cases hv:va.ownBlock with
   | none=>exact .inl rfl
   | some k=>exact .inr (λ e=>nomatch e)
  exact .inr h
 ·show some g9≠some gR;simp;exact q1
 show some g9≠some go;simp;exact q2
theorem Hs {ga fa:Option Addr} {gc fc:Nat} {rest:List Tk} (d:OD K w gR go wr gs fs (.slice ga ng gc) ng (.slice fa nf fc) nf ys at2 r wx) (ok:Bool) (hI:(ok=true/\So K.wr [] [] rest (.ok gs fs wr r))\/(ok=false/\So K.wr [] [] rest (.bad r))) (W:World) (hW:W=(wx.setCell ⟨gR,0,none⟩ (.slice ga ng gc)).setCell ⟨gR,1,none⟩ (.slice fa nf fc)) :
  Lo W gR (.slice ga ng gc) (.slice fa nf fc)/\SoQ K rest w (.returned (.tuple #[sov (.slice ga ng gc) (.slice fa nf fc),.bool ok])) W:=by
 subst hW
 obtain⟨n1,n2⟩:=d.ne
 have hm:=(d.ms.sc (p:=⟨gR,0,none⟩) n1 (.slice ga ng gc)).sc (p:=⟨gR,1,none⟩) n1 (.slice fa nf fc)
 refine⟨d.rc.s2 _ _,ga,ng,gc,fa,nf,fc,wr,ok,at2,r,rfl,hm.pat,hm.gr,Xj ?_⟩
 rcases hI with⟨e1,e2⟩|e
 ·refine .inl ⟨e1,gs,fs,e2,?_⟩
  have og:=(d.og.kept (Xp wx gR 0 (.slice ga ng gc)) (.inr d.na.1)).kept (Xp _ gR 1 (.slice fa nf fc)) (.inr d.na.1)
  have of:=(d.of.kept (Xp wx gR 0 (.slice ga ng gc)) (.inr d.nb.1)).kept (Xp _ gR 1 (.slice fa nf fc)) (.inr d.nb.1)
  obtain⟨a1,c1,f1,f2,f3,f4,f5,f6⟩:=Yf.of_own og
  obtain⟨a2,c2,k1,k2,k3,k4,k5,k6⟩:=Yf.of_own of
  injection f1 with p1 _ p3
  injection k1 with p4 _ p6
  subst p1 p3 p4 p6
  refine⟨ga,gc,fa,fc,ys,by rw[d.lg],by rw[d.lf],by rw[d.lg];exact f3,f4,by rw[d.lf];exact k3,k4,λ hx=>?_,λ hx=>?_,d.ff.keep (λ b hb hlt=>⟨(heap_setCell_other _ _ _ _ (by show b≠gR;exact hb.2.1)).trans (heap_setCell_other _ _ _ _ (by show b≠gR;exact hb.2.1)),hb.1⟩) (by simp[World.setCell])⟩
  ·obtain⟨b,off,e,hb,hc⟩:=f5 hx
   exact⟨b,off,e,f6 _ e,hb,hc⟩
  obtain⟨b,off,e,hb,hc⟩:=k5 hx
  exact⟨b,off,e,k6 _ e,hb,hc⟩
 exact .inr e
end
theorem Pz (K:PC) (at_:Nat) (rest:List Tk) (w:World) (hP:PAt w K at_ rest):Calls Tryz.prog 59 #[.pointer (some ⟨K.g,0,none⟩)] w (SoQ K rest w):=by
 obtain⟨go,hgo⟩:∃ x,w.heap.size+1=x:=⟨_,rfl⟩
 have HGO:Xq (w.heap.size+1=go):=Xj hgo
 have HD1:Xq (OD K w w.heap.size go K.wr [] [] Xs 0 Xs 0 [] at_ rest ((w.alloc Jx).alloc Jx)):=Xj (OD.zero hP hgo rfl)
 have HSZ:Xq ((w.alloc Jx).heap.size=w.heap.size+1):=Xj (by simp)
 clear hP hgo
 go_enter Tryz.func59,Tryz.ntmps59
 go_upto_block 0 with fail
 obtain⟨w1,hw1⟩:∃ W,(w.alloc Jx).alloc Jx=W:=⟨_,rfl⟩
 obtain⟨gR,hgR⟩:∃ x,w.heap.size=x:=⟨_,rfl⟩
 (try rw[show (w.alloc (.cells #[.slice none 0 0,.slice none 0 0] 29)).alloc (.cells #[.slice none 0 0,.slice none 0 0] 29)=w1 from hw1])
 rw[hw1,hgR] at HD1
 rw[hgR] at HGO
 (try rw[hgR])
 (try rw[HGO.o])
 clear hw1 hgR HSZ
 go_wp2_with fail
 go_loopw [5,6,7,8,9] (λ _ _ _ _ _ wx=>∃ (wr:Int) (gs:List (Bt×Int)) (fs:List Fu) (ga:Option Addr) (gn gc:Nat) (fa:Option Addr) (fn fc:Nat) (ys:List Value) (at3:Nat) (r3:List Tk),Xq (OD K w gR go wr gs fs (.slice ga gn gc) gn (.slice fa fn fc) fn ys at3 r3 wx/\gn+fn<=at3/\(∀ y,So wr gs fs r3 y->So K.wr [] [] rest y))) (λ _ _ _ _ _ wx=>K.ts.length-natAt wx K.g)
 case atStart=>exact⟨K.wr,[],[],none,0,0,none,0,0,[],at_,rest,Xj ⟨HD1.o,by omega,λ y h=>h⟩⟩
 rename World=>wa
 obtain⟨wr,gs,fs,ga,gn,gc,fa,fn,fc,ys,at3,r3,HI⟩:=hrel
 obtain⟨⟨uk,un,uv,ut⟩,r1,hr1⟩:=HI.o.1.ms.pat.en.cons
 have HU:Xq (kOf r3=uk/\Yc r3=un):=Xj (by rw[hr1];exact⟨rfl,rfl⟩)
 have HR1:=Xj hr1
 clear hr1
 have huf:∀ W:World,(Instr.field 103 (.agg #[.int .i64 uk,.int .i64 un,.int .i64 uv,.string (st ut)]) 0).run Tryz.prog W=.ok (.int .i64 uk) W:=λ _=>by kernel_rfl
 have hyk:∀ W:World,(Instr.field 103 (.agg #[.int .i64 uk,.int .i64 un,.int .i64 uv,.string (st ut)]) 1).run Tryz.prog W=.ok (.int .i64 un) W:=λ _=>by kernel_rfl
 go_wp2_with fail
 refine(Zb (K.mk' wr) at3 uk un uv ut r1 wa (HR1.o▸HI.o.1.ms.pat)).mono ?_
 rintro e w2 ⟨rfl,hb2⟩
 have HD2:=Xj (HI.o.1.be hb2)
 clear hb2
 by_cases hu:uk=0
 ·have d1:(uk==0)=true:=beq_iff_eq.2 hu
  have d2:(uk != 0)=false:=by simp[hu]
  have HU0:Xq (kOf r3=0):=Xj (HU.o.1.trans hu)
  clear hu
  obtain⟨y0,y1⟩:=HD2.o.rc.cells
  obtain⟨g0,g1⟩:=HD2.o.rc.froz
  have hlR:=HD2.o.rc.lt
  obtain⟨s0,s1⟩:=HD2.o.oc.cells
  have hlS:=HD2.o.oc.lt
  go_wp2_with fail
  have hZ:=Hs (rest:=rest) HD2.o true (.inl ⟨rfl,HI.o.2.2 _ (So.fin HU0.o)⟩)
  obtain⟨wz,hwz⟩:∃ W,(w2.setCell ⟨gR,0,none⟩ (.slice ga gn gc)).setCell ⟨gR,1,none⟩ (.slice fa fn fc)=W:=⟨_,rfl⟩
  (try rw[hwz])
  obtain⟨hd,hep⟩:=hZ wz hwz.symm
  obtain⟨d0,d1⟩:=hd.cells
  clear hZ
  refine bodyPost_ret (v:=.tuple #[sov (.slice ga gn gc) (.slice fa fn fc),.bool true]) (by simp[results,Tryz.results59,go_sem,d0,d1]) rfl ?_
  exact hep
 have d1:(uk==0)=false:=beq_eq_false_iff_ne.2 hu
 have d2:(uk != 0)=true:=bne_iff_ne.2 hu
 have HU0:Xq (kOf r3≠0):=Xj (by rw[HU.o.1];exact hu)
 clear hu
 go_wp2_with fail
 refine(Zb (K.mk' wr) at3 uk un uv ut r1 w2 (HR1.o▸HD2.o.ms.pat)).mono ?_
 rintro e w3 ⟨rfl,hb3⟩
 have HD3:=Xj (HD2.o.be hb3)
 clear hb3 HD2
 go_wp2_with fail
 refine(Yj (K.mk' wr) at3 r3 glW w3 HD3.o.ms.pat).mono ?_
 rintro e w4 ⟨at4,r4,rfl,hp4,hg4,hc4⟩
 have HD4:=Xj (HD3.o.gr (wr2:=wr) hp4 hg4)
 clear hp4 hg4 HD3
 rcases hc4 with⟨hT,ha4,hr4⟩|⟨hT,ha4,hr4⟩<;>subst at4 r4
 ·have HT:=Xj hT
  (try rw[hT])
  clear hT
  go_wp2_with fail
  refine(Pf (K.mk' wr) (at3+1) r3.tail w4 HD4.o.ms.pat).mono ?_
  rintro e w5 ⟨nm,sz,wr2,ok,at5,r5,rfl,hp5,hqd,hg5,hju⟩
  have HD5:=Xj ((HD4.o.gr (wr2:=wr2) hp5 hg5).al (.cells #[.string (st nm),.int .i64 sz] 60))
  have HS5:=Xj (Lg.new w5 nm sz)
  have HLE:=Xj hqd
  clear hp5 hg5 hqd HD4
  go_upto_region 7 with fail
  obtain⟨w6,hw6⟩:∃ W,w5.alloc (.cells #[.string (st nm),.int .i64 sz] 60)=W:=⟨_,rfl⟩
  obtain⟨gy,hgy⟩:∃ x,w5.heap.size=x:=⟨_,rfl⟩
  (try rw[hw6])
  rw[hw6] at HD5 HS5
  rw[hgy] at HS5
  (try rw[hgy])
  clear hw6 hgy
  cases ok
  ·have HBD:Xq (So K.wr [] [] rest (.bad r5)):=Xj (by
    rcases hju.o with⟨h1,_⟩|⟨_,h1⟩
    ·cases h1
    exact HI.o.2.2 _ (So.glb HT.o h1))
   obtain⟨y0,y1⟩:=HD5.o.rc.cells
   obtain⟨g0,g1⟩:=HD5.o.rc.froz
   have hlR:=HD5.o.rc.lt
   obtain⟨s0,s1⟩:=HD5.o.oc.cells
   have hlS:=HD5.o.oc.lt
   go_wp2_with fail
   have hZ:=Hs (rest:=rest) HD5.o false (.inr ⟨rfl,HBD.o⟩)
   obtain⟨wz,hwz⟩:∃ W,(w6.setCell ⟨gR,0,none⟩ (.slice ga gn gc)).setCell ⟨gR,1,none⟩ (.slice fa fn fc)=W:=⟨_,rfl⟩
   (try rw[hwz])
   obtain⟨hd,hep⟩:=hZ wz hwz.symm
   obtain⟨d0,d1⟩:=hd.cells
   clear hZ
   refine bodyPost_ret (v:=.tuple #[sov (.slice ga gn gc) (.slice fa fn fc),.bool false]) (by simp[results,Tryz.results59,go_sem,d0,d1]) rfl ?_
   exact hep
  have HGP:Xq (glP wr r3.tail=.ok nm sz wr2 r5):=Xj (by
   rcases hju.o with⟨_,h1,_⟩|⟨h1,_⟩
   ·exact h1
   cases h1)
  clear hju
  obtain⟨s0,s1⟩:=HD5.o.oc.cells
  have hlS:=HD5.o.oc.lt
  obtain⟨x0,x1⟩:=HS5.o.cells
  have hlX:=HS5.o.lt
  have hqp:=HD5.o.ms.gr.size
  have hn3:gn<=100000:=by have:=HI.o.2.1;have h1:at3<K.ts.length:=HI.o.1.ms.pat.lt.1;have h2:K.ts.length<=100000:=HI.o.1.ms.pat.n;omega
  obtain⟨i0,hi0,hz0,hz1,hz2⟩:=info_parts Tryz.infoGlb
  have HIF:=Xj hi0
  have HZ0:=Xj hz0
  have HZ1:=Xj hz1
  have HZ2:=Xj hz2
  clear hi0 hz0 hz1 hz2
  have HOA:=Xj (HD5.o.og.alloc (.cells #[.string (st nm),.int .i64 sz] 60))
  go_wp2_with (at_builtin;refine wpList_append_lies _ rfl _ _ _ rfl w.heap.size 60 i0 _ 2 24 Tryz.underlying26 HIF.o HZ0.o HZ1.o HZ2.o rfl (by omega) _ _ _ rfl HOA.o ⟨w6.heap.size,0,none⟩ 1 1 [.string (st nm),.int .i64 sz] rfl rfl (World.news_of_block (cs := #[.string (st nm),.int .i64 sz]) (t:=60) (fr:=(0,0)) (heap_alloc_new w6 _)) (by simp[Value.oneCell']) (by omega) (by unfold maxLen;omega) (by omega) (by simp;omega) _ rfl ?_;intro g9 c9 w9 hown9 hgrow9 Ho hlt9;have HPU:=Xj (HD5.o.pg (x:=(nm,sz)) hgrow9 Ho hown9);obtain⟨q0,q1⟩:=HPU.o.2.cells;obtain⟨k0,k1⟩:=HPU.o.2.froz;have hl9:=HPU.o.2.lt;clear hown9 hgrow9 Ho hlt9)
  have HAT:Xq (at3+1<=at5):=Xj (by
   have h1:=HPU.o.1.ms.pat.lt.2
   have h2:=HI.o.1.ms.pat.lt.2
   have h3:=HLE.o
   simp only[List.length_tail] at h3
   dsimp only at h1 h2
   have h4:0<r3.length:=by rw[HR1.o];simp
   omega)
  go_roundw
  case rel=>exact⟨wr2,_,fs,some ⟨g9,0,none⟩,gn+1,c9,fa,fn,fc,ys,at5,r5,Xj ⟨HPU.o.1,by have:=HI.o.2.1;have:=HAT.o;omega,λ y hy=>HI.o.2.2 _ (So.gl HT.o HGP.o hy)⟩⟩
  have h1:=HPU.o.1.ms.pat.natAt
  have h2:=HI.o.1.ms.pat.natAt
  have h3:at5<K.ts.length:=HPU.o.1.ms.pat.lt.1
  have h4:=HAT.o
  dsimp only at h1 h2
  rw[h1,h2]
  omega
 have HG:=Xj hT
 (try rw[hT])
 clear hT
 go_wp2_with fail
 refine(Yj (K.mk' wr) at3 r3 fnW w4 HD4.o.ms.pat).mono ?_
 rintro e w5 ⟨at5,r5,rfl,hp5,hg5,hc5⟩
 have HD5:=Xj (HD4.o.gr (wr2:=wr) hp5 hg5)
 clear hp5 hg5 HD4
 rcases hc5 with⟨hT,ha5,hr5⟩|⟨hT,ha5,hr5⟩<;>subst at5 r5
 ·have HT:=Xj hT
  (try rw[hT])
  clear hT
  go_wp2_with fail
  refine(Dy (K.mk' wr) (at3+1) r3.tail w5 HD5.o.ms.pat).mono ?_
  rintro e w6 ⟨nm,pa,pn,pc,ba,bn,bc,ok,at5,r5,rfl,hp5,hqd,hg5,hju⟩
  have HD6:=Xj (HD5.o.gr (wr2:=wr) hp5 hg5)
  have HS6:Xq (Lf (w6.alloc (.cells #[.string (st nm),.int .i64 0,.slice pa pn pc,.slice ba bn bc] 63)) w6.heap.size nm 0 (.slice pa pn pc) (.slice ba bn bc)):=Xj (heap_alloc_new w6 _)
  have HLE:=Xj hqd
  clear hp5 hg5 hqd
  cases ok
  ·have HBD:Xq (So K.wr [] [] rest (.bad r5)):=Xj (by
    rcases hju.o with⟨h1,_⟩|⟨_,h1⟩
    ·cases h1
    exact HI.o.2.2 _ (So.fnb HT.o h1))
   have HD7:=Xj (HD6.o.al (.cells #[.string (st nm),.int .i64 0,.slice pa pn pc,.slice ba bn bc] 63))
   clear HD6 HD5
   go_upto_region 12 with fail
   obtain⟨w7,hw7⟩:∃ W,w6.alloc (.cells #[.string (st nm),.int .i64 0,.slice pa pn pc,.slice ba bn bc] 63)=W:=⟨_,rfl⟩
   (try rw[hw7])
   rw[hw7] at HD7
   clear hw7 HS6
   obtain⟨y0,y1⟩:=HD7.o.rc.cells
   obtain⟨g0,g1⟩:=HD7.o.rc.froz
   have hlR:=HD7.o.rc.lt
   obtain⟨s0,s1⟩:=HD7.o.oc.cells
   have hlS:=HD7.o.oc.lt
   go_wp2_with fail
   have hZ:=Hs (rest:=rest) HD7.o false (.inr ⟨rfl,HBD.o⟩)
   obtain⟨wz,hwz⟩:∃ W,(w7.setCell ⟨gR,0,none⟩ (.slice ga gn gc)).setCell ⟨gR,1,none⟩ (.slice fa fn fc)=W:=⟨_,rfl⟩
   (try rw[hwz])
   obtain⟨hd,hep⟩:=hZ wz hwz.symm
   obtain⟨d0,d1⟩:=hd.cells
   clear hZ
   refine bodyPost_ret (v:=.tuple #[sov (.slice ga gn gc) (.slice fa fn fc),.bool false]) (by simp[results,Tryz.results59,go_sem,d0,d1]) rfl ?_
   exact hep
  obtain⟨ps,S,hfs,hps,hss⟩:∃ ps S,Fs r3.tail (.ok nm ps S r5)/\Ux w6 (λ b=>w.heap.size<=b/\b≠gR/\b≠go/\some b≠(Value.slice ga gn gc).ownBlock/\some b≠(Value.slice fa fn fc).ownBlock) ps (.slice pa pn pc)/\Xl w6 (λ b=>w.heap.size<=b/\b≠gR/\b≠go/\some b≠(Value.slice ga gn gc).ownBlock/\some b≠(Value.slice fa fn fc).ownBlock) S (.slice ba bn bc):=by
   rcases hju.o with⟨_,ps,S,h1,h2,h3,_⟩|⟨h1,_⟩
   ·have key:∀ b,w5.heap.size<=b->b<w6.heap.size->w6.heap[b]?=w6.heap[b]?/\(w.heap.size<=b/\b≠gR/\b≠go/\some b≠(Value.slice ga gn gc).ownBlock/\some b≠(Value.slice fa fn fc).ownBlock):=λ b hb _ =>
     have k1:=HD5.o.ms.gr.size
     have k2:=HD5.o.rc.lt
     have k3:=HD5.o.oc.lt
     ⟨rfl,by omega,by omega,by omega,λ e=>by have:=(HD5.o.og.lt _ e.symm).2;omega,λ e=>by have:=(HD5.o.of.lt _ e.symm).2;omega⟩
    exact⟨ps,S,h1,h2.keep key (Nat.le_refl _),h3.keep key (Nat.le_refl _)⟩
   cases h1
  have hB:=Xw w6 (.cells #[.string (st nm),.int .i64 un,.slice pa pn pc,.slice ba bn bc] 63)
  have HD7:=Xj (HD6.o.be hB)
  have HS7:Xq (Lf (w6.alloc (.cells #[.string (st nm),.int .i64 un,.slice pa pn pc,.slice ba bn bc] 63)) w6.heap.size nm un (.slice pa pn pc) (.slice ba bn bc)):=Xj (heap_alloc_new w6 _)
  have HFS:=Xj hfs
  have HPS:=Xj (hps.keep (Q:=(λ b=>w.heap.size<=b/\b≠gR/\b≠go/\some b≠(Value.slice ga gn gc).ownBlock/\some b≠(Value.slice fa fn fc).ownBlock)) (λ b hb hlt=>⟨hB.block b hlt,hb⟩) hB.size)
  have HSS:=Xj (hss.keep (Q:=(λ b=>w.heap.size<=b/\b≠gR/\b≠go/\some b≠(Value.slice ga gn gc).ownBlock/\some b≠(Value.slice fa fn fc).ownBlock)) (λ b hb hlt=>⟨hB.block b hlt,hb⟩) hB.size)
  clear hfs hps hss hB HD6 HD5 hju
  obtain⟨x0,x1,x2,x3⟩:=HS6.o.cells
  obtain⟨j0,j1,j2,j3⟩:=HS6.o.froz
  have hlX:=HS6.o.lt
  go_upto_region 15 with fail
  obtain⟨w7,hw7⟩:∃ W,w6.alloc (.cells #[.string (st nm),.int .i64 un,.slice pa pn pc,.slice ba bn bc] 63)=W:=⟨_,rfl⟩
  obtain⟨gy,hgy⟩:∃ x,w6.heap.size=x:=⟨_,rfl⟩
  clear x0 x1 x2 x3 j0 j1 j2 j3 hlX HS6
  (try rw[hw7])
  rw[hw7] at HD7 HS7 HPS HSS
  rw[hgy] at HS7
  (try rw[hgy])
  clear hw7 hgy
  obtain⟨s0,s1⟩:=HD7.o.oc.cells
  have hlS:=HD7.o.oc.lt
  obtain⟨x0,x1,x2,x3⟩:=HS7.o.cells
  have hlX:=HS7.o.lt
  have hqp:=HD7.o.ms.gr.size
  have hn3:fn<=100000:=by have:=HI.o.2.1;have h1:at3<K.ts.length:=HI.o.1.ms.pat.lt.1;have h2:K.ts.length<=100000:=HI.o.1.ms.pat.n;omega
  obtain⟨i0,hi0,hz0,hz1,hz2⟩:=info_parts Tryz.infoFun
  have HIF:=Xj hi0
  have HZ0:=Xj hz0
  have HZ1:=Xj hz1
  have HZ2:=Xj hz2
  clear hi0 hz0 hz1 hz2
  have HOA:=Xj (HD7.o.of.alloc (.cells #[.string (st nm),.int .i64 un,.slice pa pn pc,.slice ba bn bc] 63))
  go_wp2_with (at_builtin;refine wpList_append_lies _ rfl _ _ _ rfl w.heap.size 63 i0 _ 4 72 Tryz.underlying27 HIF.o HZ0.o HZ1.o HZ2.o rfl (by omega) _ _ _ rfl HOA.o ⟨w7.heap.size,0,none⟩ 1 1 [.string (st nm),.int .i64 un,.slice pa pn pc,.slice ba bn bc] rfl rfl (World.news_of_block (cs := #[.string (st nm),.int .i64 un,.slice pa pn pc,.slice ba bn bc]) (t:=63) (fr:=(0,0)) (heap_alloc_new w7 _)) (by simp[Value.oneCell']) (by omega) (by unfold maxLen;omega) (by omega) (by simp;omega) _ rfl ?_;intro g9 c9 w9 hown9 hgrow9 Ho hlt9;have HPU:=Xj (HD7.o.pf (x:=⟨nm,un,ps,S⟩) hgrow9 Ho hown9 HPS.o HSS.o);obtain⟨q0,q1⟩:=HPU.o.2.cells;obtain⟨k0,k1⟩:=HPU.o.2.froz;have hl9:=HPU.o.2.lt;clear hown9 hgrow9 Ho hlt9)
  have HAT:Xq (at3+1<=at5):=Xj (by
   have h1:=HPU.o.1.ms.pat.lt.2
   have h2:=HI.o.1.ms.pat.lt.2
   have h3:=HLE.o
   simp only[List.length_tail] at h3
   dsimp only at h1 h2
   have h4:0<r3.length:=by rw[HR1.o];simp
   omega)
  go_roundw
  case rel=>exact⟨wr,gs,_,ga,gn,gc,some ⟨g9,0,none⟩,fn+1,c9,_,at5,r5,Xj ⟨HPU.o.1,by have:=HI.o.2.1;have:=HAT.o;omega,λ y hy=>HI.o.2.2 _ (So.fn HT.o HFS.o (by rw[HU.o.2];exact hy))⟩⟩
  have h1:=HPU.o.1.ms.pat.natAt
  have h2:=HI.o.1.ms.pat.natAt
  have h3:at5<K.ts.length:=HPU.o.1.ms.pat.lt.1
  have h4:=HAT.o
  dsimp only at h1 h2
  rw[h1,h2]
  omega
 have HT:=Xj hT
 (try rw[hT])
 clear hT
 obtain⟨y0,y1⟩:=HD5.o.rc.cells
 obtain⟨g0,g1⟩:=HD5.o.rc.froz
 have hlR:=HD5.o.rc.lt
 obtain⟨s0,s1⟩:=HD5.o.oc.cells
 have hlS:=HD5.o.oc.lt
 go_wp2_with fail
 have hZ:=Hs (rest:=rest) HD5.o false (.inr ⟨rfl,HI.o.2.2 _ (So.no HU0.o HG.o HT.o)⟩)
 obtain⟨wz,hwz⟩:∃ W,(w5.setCell ⟨gR,0,none⟩ (.slice ga gn gc)).setCell ⟨gR,1,none⟩ (.slice fa fn fc)=W:=⟨_,rfl⟩
 (try rw[hwz])
 obtain⟨hd,hep⟩:=hZ wz hwz.symm
 obtain⟨d0,d1⟩:=hd.cells
 clear hZ
 refine bodyPost_ret (v:=.tuple #[sov (.slice ga gn gc) (.slice fa fn fc),.bool false]) (by simp[results,Tryz.results59,go_sem,d0,d1]) rfl ?_
 exact hep
end
section
def xqp (K:PC) (rest:List Tk) (w:World) (e:Ending) (w':World):Prop :=
 ∃ (ga:Option Addr) (gn gc:Nat) (fa:Option Addr) (fn fc:Nat) (wr:Int) (bad2:Bool) (at2:Nat) (r:List Tk),e=.returned (sov (.slice ga gn gc) (.slice fa fn fc))/\RAt w' (K.mk' wr) at2 bad2 r/\w.grownBy w' (some K.g) /\
  Xq ((bad2=false/\kOf r=0/\∃ gs fs,So K.wr [] [] rest (.ok gs fs wr r)/\Zh w' (λ b=>w.heap.size<=b) gs fs (.slice ga gn gc) (.slice fa fn fc))\/(bad2=true/\So K.wr [] [] rest (.bad r)))
abbrev PFu (w:World) (gR go:Nat) (va vb:Value):Nat->Prop:=λ b=>w.heap.size<=b/\b≠gR/\b≠go/\some b≠va.ownBlock/\some b≠vb.ownBlock
structure ROD (K:PC) (w:World) (gR go:Nat) (wr:Int) (va:Value) (ng:Nat) (xs:List Value) (vb:Value) (nf:Nat) (ys:List Value) (at2:Nat) (bad2:Bool) (r:List Tk) (wx:World):Prop where
 ms:RS (K.mk' wr) w wx at2 bad2 r
 rc:Lo wx gR Xs Xs
 oc:Lo wx go va vb
 og:wx.ownsRow w.heap.size 60 2 va ng xs
 of:wx.ownsRow w.heap.size 63 4 vb nf ys
 ne:w.heap.size<=gR/\gR<go
 na:va.ownBlock≠some gR/\va.ownBlock≠some go
 nb:vb.ownBlock≠some gR/\vb.ownBlock≠some go
 nab:va.ownBlock=none\/vb.ownBlock=none\/va.ownBlock≠vb.ownBlock
section
variable {K:PC} {w wx wy:World} {gR go:Nat} {wr wr2:Int} {va vb:Value} {ng nf:Nat} {xs ys:List Value} {at2 at3:Nat} {bad2 bad3:Bool} {r r3:List Tk}
theorem ROD.gr (d:ROD K w gR go wr va ng xs vb nf ys at2 bad2 r wx) (hp:RAt wy (K.mk' wr2) at3 bad3 r3) (hg:wx.grownBy wy (some K.g)):ROD K w gR go wr2 va ng xs vb nf ys at3 bad3 r3 wy:=by
 have hl:K.g<w.heap.size:=d.ms.gl
 obtain⟨n1,n2⟩:=d.ne
 exact⟨⟨hp,Xb d.ms.gr hg,d.ms.gl,d.ms.tl⟩,d.rc.grw hg (by intro e;injection e with e;omega),d.oc.grw hg (by intro e;injection e with e;omega),Yz d.og hg hl,Yz d.of hg hl,d.ne,d.na,d.nb,d.nab⟩
theorem ROD.be (d:ROD K w gR go wr va ng xs vb nf ys at2 bad2 r wx) (hb:Below wx.heap.size wx wy):ROD K w gR go wr va ng xs vb nf ys at2 bad2 r wy:=d.gr (d.ms.be hb).pat (Xg hb _)
theorem ROD.al (d:ROD K w gR go wr va ng xs vb nf ys at2 bad2 r wx) (o:Obj):ROD K w gR go wr va ng xs vb nf ys at2 bad2 r (wx.alloc o):=d.be (Xw wx o)
theorem ROD.zero (hP:RAt w K at2 bad2 r) (hg:w.heap.size+1=go) (hw:K.wr=wr):ROD K w w.heap.size go wr Xs 0 [] Xs 0 [] at2 bad2 r ((w.alloc Jx).alloc Jx):=by
 subst hg hw
 refine⟨((RS.init hP).al Jx).al Jx,(Lo.zero w).al Jx,?_,World.ownsRow_nil _ _ _ _,World.ownsRow_nil _ _ _ _,⟨Nat.le_refl _,by omega⟩,⟨(λ e=>nomatch e),(λ e=>nomatch e)⟩,⟨(λ e=>nomatch e),(λ e=>nomatch e)⟩,.inl rfl⟩
 have h:=Lo.zero (w.alloc Jx)
 have e:(w.alloc Jx).heap.size=w.heap.size+1:=by simp
 rw[e] at h
 exact h
theorem Jz.gr {fs:List Fu} {g:Nat} (h:Jz wx (PFu w gR go va vb) fs ys) (hg:wx.grownBy wy (some g)) (hl:g<w.heap.size):Jz wy (PFu w gR go va vb) fs ys :=
 h.keep (λ b hb hlt=>⟨hg.block b hlt (λ e=>by injection e with e;have:=hb.1;omega),hb⟩) hg.size
theorem ROD.pg (d:ROD K w gR go wr va ng xs vb nf ys at2 bad2 r wx) {g9 c9:Nat} {w9:World} {zs:List Value} {ob:Obj} (hg9:(wx.alloc ob).grownBy w9 va.ownBlock) (h9:va.ownBlock=some g9\/g9=(wx.alloc ob).heap.size) (ho:w9.ownsRow w.heap.size 60 2 (.slice (some ⟨g9,0,none⟩) (ng+1) c9) (ng+1) zs) :
  ROD K w gR go wr (.slice (some ⟨g9,0,none⟩) (ng+1) c9) (ng+1) zs vb nf ys at2 bad2 r (w9.setCell ⟨go,0,none⟩ (.slice (some ⟨g9,0,none⟩) (ng+1) c9))/\Lo w9 go va vb/\∀ fs,Jz wx (PFu w gR go va vb) fs ys->Jz (w9.setCell ⟨go,0,none⟩ (.slice (some ⟨g9,0,none⟩) (ng+1) c9)) (PFu w gR go (.slice (some ⟨g9,0,none⟩) (ng+1) c9) vb) fs ys:=by
 have d':=d.al ob
 obtain⟨n1,n2⟩:=d.ne
 have l1:=d'.rc.lt
 have l2:=d'.oc.lt
 have q1:g9≠gR:=by rcases h9 with e|e;(intro e2;exact d.na.1 (by rw[e,e2]));omega
 have q2:g9≠go:=by rcases h9 with e|e;(intro e2;exact d.na.2 (by rw[e,e2]));omega
 have q3:vb.ownBlock≠some g9:=by
  intro e
  rcases h9 with e2|e2
  ·rcases d.nab with h|h|h
   ·rw[h] at e2;cases e2
   ·rw[h] at e;cases e
   exact h (e2.trans e.symm)
  have:=(d'.of.lt _ e).2;omega
 have f9:=d'.oc.grw hg9 d.na.2
 have hsA:(wx.alloc ob).heap.size=wx.heap.size+1:=by simp
 refine⟨⟨(d'.ms.own hg9 (λ k2 e=>(d'.og.lt k2 e).1)).sc (p:=⟨go,0,none⟩) (by show _<=go;omega) _,(d'.rc.grw hg9 d.na.1).s1 (p:=⟨go,0,none⟩) (by show gR≠go;omega),f9.s0 _,?_,?_,d.ne,⟨?_,?_⟩,d.nb,.inr (.inr (λ e=>q3 e.symm))⟩,f9,λ fs hf=>?_⟩
 ·exact ho.kept (Xp w9 go 0 _) (.inr (by show some g9≠some go;simp;exact q2))
 ·refine(d'.of.kept hg9 ?_).kept (Xp w9 go 0 _) (.inr d.nb.2)
  rcases d.nab with h|h|h
  ·rw[h]
   cases hv:vb.ownBlock with
   | none=>exact .inl rfl
   | some k=>exact .inr (λ e=>nomatch e)
  ·exact .inl h
  exact .inr (λ e=>h e.symm)
 ·show some g9≠some gR;simp;exact q1
 ·show some g9≠some go;simp;exact q2
 refine hf.keep (λ b hb hlt=>⟨?_,hb.1,hb.2.1,hb.2.2.1,?_,hb.2.2.2.2⟩) (Nat.le_trans (by omega) (Nat.le_trans hg9.size (by simp[World.setCell])))
 ·exact(heap_setCell_other _ _ _ _ (by show b≠go;exact hb.2.2.1)).trans ((hg9.block b (by omega) hb.2.2.2.1).trans (Below.heap_alloc wx ob b hlt))
 show some b≠some g9
 rcases h9 with e|e
 ·rw[<- e];exact hb.2.2.2.1
 intro e2;injection e2 with e2;omega
theorem ROD.pf (d:ROD K w gR go wr va ng xs vb nf ys at2 bad2 r wx) {g9 c9:Nat} {w9:World} {zs:List Value} {ob:Obj} (hg9:(wx.alloc ob).grownBy w9 vb.ownBlock) (h9:vb.ownBlock=some g9\/g9=(wx.alloc ob).heap.size) (ho:w9.ownsRow w.heap.size 63 4 (.slice (some ⟨g9,0,none⟩) (nf+1) c9) (nf+1) zs) :
  ROD K w gR go wr va ng xs (.slice (some ⟨g9,0,none⟩) (nf+1) c9) (nf+1) zs at2 bad2 r (w9.setCell ⟨go,1,none⟩ (.slice (some ⟨g9,0,none⟩) (nf+1) c9))/\Lo w9 go va vb /\
  ∀ (fs:List Fu) (x:Fu) (vp vq:Value),Jz wx (PFu w gR go va vb) fs ys->Ux wx (PFu w gR go va vb) x.ps vp->Xl wx (PFu w gR go va vb) x.S vq->Jz (w9.setCell ⟨go,1,none⟩ (.slice (some ⟨g9,0,none⟩) (nf+1) c9)) (PFu w gR go va (.slice (some ⟨g9,0,none⟩) (nf+1) c9)) (fs++[x]) (ys++[.string (st x.nm),.int .i64 x.ln,vp,vq]):=by
 have d':=d.al ob
 obtain⟨n1,n2⟩:=d.ne
 have l1:=d'.rc.lt
 have l2:=d'.oc.lt
 have q1:g9≠gR:=by rcases h9 with e|e;(intro e2;exact d.nb.1 (by rw[e,e2]));omega
 have q2:g9≠go:=by rcases h9 with e|e;(intro e2;exact d.nb.2 (by rw[e,e2]));omega
 have q3:va.ownBlock≠some g9:=by
  intro e
  rcases h9 with e2|e2
  ·rcases d.nab with h|h|h
   ·rw[h] at e;cases e
   ·rw[h] at e2;cases e2
   exact h (e.trans e2.symm)
  have:=(d'.og.lt _ e).2;omega
 have f9:=d'.oc.grw hg9 d.nb.2
 have hsA:(wx.alloc ob).heap.size=wx.heap.size+1:=by simp
 have hle:(wx.alloc ob).heap.size<=(w9.setCell ⟨go,1,none⟩ (.slice (some ⟨g9,0,none⟩) (nf+1) c9)).heap.size:=Nat.le_trans hg9.size (by simp[World.setCell])
 have key:∀ b,PFu w gR go va vb b->b<wx.heap.size->(w9.setCell ⟨go,1,none⟩ (.slice (some ⟨g9,0,none⟩) (nf+1) c9)).heap[b]?=wx.heap[b]?/\PFu w gR go va (.slice (some ⟨g9,0,none⟩) (nf+1) c9) b:=λ b hb hlt =>
  ⟨(heap_setCell_other _ _ _ _ (by show b≠go;exact hb.2.2.1)).trans ((hg9.block b (by omega) hb.2.2.2.2).trans (Below.heap_alloc wx ob b hlt)),hb.1,hb.2.1,hb.2.2.1,hb.2.2.2.1,by
   show some b≠some g9
   rcases h9 with e|e
   ·rw[<- e];exact hb.2.2.2.2
   intro e2;injection e2 with e2;omega⟩
 have hsz:wx.heap.size<=(w9.setCell ⟨go,1,none⟩ (.slice (some ⟨g9,0,none⟩) (nf+1) c9)).heap.size:=Nat.le_trans (by omega) hle
 refine⟨⟨(d'.ms.own hg9 (λ k2 e=>(d'.of.lt k2 e).1)).sc (p:=⟨go,1,none⟩) (by show _<=go;omega) _,(d'.rc.grw hg9 d.nb.1).s1 (p:=⟨go,1,none⟩) (by show gR≠go;omega),f9.sf _,?_,ho.kept (Xp w9 go 1 _) (.inr (by show some g9≠some go;simp;exact q2)),d.ne,d.na,⟨?_,?_⟩,.inr (.inr q3)⟩,f9,λ fs x vp vq hf hp hs=>(hf.keep key hsz).snoc (hp.keep key hsz) (hs.keep key hsz)⟩
 ·refine(d'.og.kept hg9 ?_).kept (Xp w9 go 1 _) (.inr d.na.2)
  rcases d.nab with h|h|h
  ·exact .inl h
  ·rw[h]
   cases hv:va.ownBlock with
   | none=>exact .inl rfl
   | some k=>exact .inr (λ e=>nomatch e)
  exact .inr h
 ·show some g9≠some gR;simp;exact q1
 show some g9≠some go;simp;exact q2
def Fv (K:PC) (w:World) (gR go:Nat) (rest:List Tk) (wr:Int) (va:Value) (ng:Nat) (xs:List Value) (vb:Value) (nf:Nat) (ys:List Value) (at2:Nat) (bad2:Bool) (r:List Tk) (wx:World):Prop :=
 (bad2=false/\ng+nf<=at2/\∃ gs fs,xs=gcs gs/\gs.length=ng/\Jz wx (PFu w gR go va vb) fs ys/\fs.length=nf/\∀ y,So wr gs fs r y->So K.wr [] [] rest y)\/(bad2=true/\So K.wr [] [] rest (.bad r))
theorem Rl {ga fa:Option Addr} {gc fc:Nat} {rest:List Tk} (d:ROD K w gR go wr (.slice ga ng gc) ng xs (.slice fa nf fc) nf ys at2 bad2 r wx) (hI:Fv K w gR go rest wr (.slice ga ng gc) ng xs (.slice fa nf fc) nf ys at2 bad2 r wx) (hk:bad2=false->kOf r=0) (W:World) (hW:W=(wx.setCell ⟨gR,0,none⟩ (.slice ga ng gc)).setCell ⟨gR,1,none⟩ (.slice fa nf fc)) :
  Lo W gR (.slice ga ng gc) (.slice fa nf fc)/\xqp K rest w (.returned (sov (.slice ga ng gc) (.slice fa nf fc))) W:=by
 subst hW
 obtain⟨n1,n2⟩:=d.ne
 have hm:=(d.ms.sc (p:=⟨gR,0,none⟩) n1 (.slice ga ng gc)).sc (p:=⟨gR,1,none⟩) n1 (.slice fa nf fc)
 refine⟨d.rc.s2 _ _,ga,ng,gc,fa,nf,fc,wr,bad2,at2,r,rfl,hm.pat,hm.gr,Xj ?_⟩
 rcases hI with⟨e1,_,gs,fs,rfl,lg,ff,lf,e2⟩|e
 ·refine .inl ⟨e1,hk e1,gs,fs,e2 _ (So.fin (hk e1)),?_⟩
  have og:=(d.og.kept (Xp wx gR 0 (.slice ga ng gc)) (.inr d.na.1)).kept (Xp _ gR 1 (.slice fa nf fc)) (.inr d.na.1)
  have of:=(d.of.kept (Xp wx gR 0 (.slice ga ng gc)) (.inr d.nb.1)).kept (Xp _ gR 1 (.slice fa nf fc)) (.inr d.nb.1)
  obtain⟨a1,c1,f1,f2,f3,f4,f5,f6⟩:=Yf.of_own og
  obtain⟨a2,c2,k1,k2,k3,k4,k5,k6⟩:=Yf.of_own of
  injection f1 with p1 _ p3
  injection k1 with p4 _ p6
  subst p1 p3 p4 p6
  refine⟨ga,gc,fa,fc,ys,by rw[lg],by rw[lf],by rw[lg];exact f3,f4,by rw[lf];exact k3,k4,λ hx=>?_,λ hx=>?_,ff.keep (λ b hb hlt=>⟨(heap_setCell_other _ _ _ _ (by show b≠gR;exact hb.2.1)).trans (heap_setCell_other _ _ _ _ (by show b≠gR;exact hb.2.1)),hb.1⟩) (by simp[World.setCell])⟩
  ·obtain⟨b,off,e,hb,hc⟩:=f5 hx
   exact⟨b,off,e,f6 _ e,hb,hc⟩
  obtain⟨b,off,e,hb,hc⟩:=k5 hx
  exact⟨b,off,e,k6 _ e,hb,hc⟩
 exact .inr e
end
theorem Nx (K:PC) (at_:Nat) (rest:List Tk) (w:World) (hP:RAt w K at_ false rest):Calls Tryz.prog 60 #[.pointer (some ⟨K.g,0,none⟩)] w (xqp K rest w):=by
 obtain⟨go,hgo⟩:∃ x,w.heap.size+1=x:=⟨_,rfl⟩
 have HGO:Xq (w.heap.size+1=go):=Xj hgo
 have HD1:Xq (ROD K w w.heap.size go K.wr Xs 0 [] Xs 0 [] at_ false rest ((w.alloc Jx).alloc Jx)):=Xj (ROD.zero hP hgo rfl)
 have HSZ:Xq ((w.alloc Jx).heap.size=w.heap.size+1):=Xj (by simp)
 clear hP hgo
 go_enter Tryz.func60,Tryz.ntmps60
 go_upto_block 0 with fail
 obtain⟨w1,hw1⟩:∃ W,(w.alloc Jx).alloc Jx=W:=⟨_,rfl⟩
 obtain⟨gR,hgR⟩:∃ x,w.heap.size=x:=⟨_,rfl⟩
 (try rw[show (w.alloc (.cells #[.slice none 0 0,.slice none 0 0] 29)).alloc (.cells #[.slice none 0 0,.slice none 0 0] 29)=w1 from hw1])
 rw[hw1,hgR] at HD1
 rw[hgR] at HGO
 (try rw[hgR])
 (try rw[HGO.o])
 clear hw1 hgR HSZ
 go_wp2_with fail
 go_loopw [4,5] (λ _ _ wx=>∃ (wr:Int) (ga:Option Addr) (gn gc:Nat) (xs:List Value) (fa:Option Addr) (fn fc:Nat) (ys:List Value) (at3:Nat) (bad3:Bool) (r3:List Tk),Xq (ROD K w gR go wr (.slice ga gn gc) gn xs (.slice fa fn fc) fn ys at3 bad3 r3 wx/\Fv K w gR go rest wr (.slice ga gn gc) gn xs (.slice fa fn fc) fn ys at3 bad3 r3 wx)) (λ _ _ wx=>2*(K.ts.length-natAt wx K.g)+badAt wx K.g)
 case atStart=>exact⟨K.wr,none,0,0,[],none,0,0,[],at_,false,rest,Xj ⟨HD1.o,.inl ⟨rfl,by omega,[],[],rfl,rfl,rfl,rfl,λ y h=>h⟩⟩⟩
 rename World=>wa
 obtain⟨wr,ga,gn,gc,xs,fa,fn,fc,ys,at3,bad3,r3,HI⟩:=hrel
 obtain⟨⟨uk,un,uv,ut⟩,r1,hr1⟩:=HI.o.1.ms.pat.en.cons
 have HU:Xq (kOf r3=uk/\Yc r3=un):=Xj (by rw[hr1];exact⟨rfl,rfl⟩)
 have HR1:=Xj hr1
 clear hr1
 have huf:∀ W:World,(Instr.field 103 (.agg #[.int .i64 uk,.int .i64 un,.int .i64 uv,.string (st ut)]) 0).run Tryz.prog W=.ok (.int .i64 uk) W:=λ _=>by kernel_rfl
 have hyk:∀ W:World,(Instr.field 103 (.agg #[.int .i64 uk,.int .i64 un,.int .i64 uv,.string (st ut)]) 1).run Tryz.prog W=.ok (.int .i64 un) W:=λ _=>by kernel_rfl
 obtain⟨-,-,p2,-,-,hlp⟩:=HI.o.1.ms.pat.cells
 (try dsimp only at p2 hlp)
 cases bad3
 ·go_wp2_with fail
  refine(Js (K.mk' wr) at3 false uk un uv ut r1 wa (HR1.o▸HI.o.1.ms.pat)).mono ?_
  rintro e w2 ⟨rfl,hb2⟩
  have HD2:=Xj (HI.o.1.be hb2)
  have hcc:Xq (Fv K w gR go rest wr (.slice ga gn gc) gn xs (.slice fa fn fc) fn ys at3 false r3 w2):=Xj (by
   rcases HI.o.2 with⟨e1,e2,gs,fs,e3,e4,e5,e6,e7⟩|e
   ·exact .inl ⟨e1,e2,gs,fs,e3,e4,e5.keep (λ b hb hlt=>⟨hb2.block b hlt,hb⟩) hb2.size,e6,e7⟩
   exact .inr e)
  clear hb2 p2 hlp
  by_cases hu:uk=0
  ·have d1:(uk==0)=true:=beq_iff_eq.2 hu
   have d2:(uk != 0)=false:=by simp[hu]
   have HU0:Xq (kOf r3=0):=Xj (HU.o.1.trans hu)
   clear hu
   obtain⟨y0,y1⟩:=HD2.o.rc.cells
   obtain⟨g0,g1⟩:=HD2.o.rc.froz
   have hlR:=HD2.o.rc.lt
   obtain⟨s0,s1⟩:=HD2.o.oc.cells
   have hlS:=HD2.o.oc.lt
   have hZ:=Rl (rest:=rest) HD2.o (hcc.o) (λ _=>HU0.o)
   go_wp2_with fail
   obtain⟨wz,hwz⟩:∃ W,(w2.setCell ⟨gR,0,none⟩ (.slice ga gn gc)).setCell ⟨gR,1,none⟩ (.slice fa fn fc)=W:=⟨_,rfl⟩
   (try rw[hwz])
   obtain⟨hd,hep⟩:=hZ wz hwz.symm
   obtain⟨d0,d1⟩:=hd.cells
   clear hZ
   refine bodyPost_ret (v:=sov (.slice ga gn gc) (.slice fa fn fc)) (by simp[results,Tryz.results60,go_sem,d0,d1]) rfl ?_
   exact hep
  have d1:(uk==0)=false:=beq_eq_false_iff_ne.2 hu
  have d2:(uk != 0)=true:=bne_iff_ne.2 hu
  have HU0:Xq (kOf r3≠0):=Xj (by rw[HU.o.1];exact hu)
  clear hu
  obtain⟨hn0,gs,fs,e3,e4,e5,e6,e7⟩:gn+fn<=at3/\∃ gs fs,xs=gcs gs/\gs.length=gn/\Jz w2 (PFu w gR go (.slice ga gn gc) (.slice fa fn fc)) fs ys/\fs.length=fn/\∀ y,So wr gs fs r3 y->So K.wr [] [] rest y:=by
   rcases hcc.o with⟨_,h⟩|⟨h,_⟩
   ·exact h
   cases h
  have HN0:=Xj hn0
  have HE:=Xj (And.intro e3 (And.intro e4 (And.intro e6 e7)))
  have HFF:=Xj e5
  have HL3:Xq (at3<100000):=Xj (by have h1:at3<K.ts.length:=HI.o.1.ms.pat.lt.1;have h2:K.ts.length<=100000:=HI.o.1.ms.pat.n;omega)
  have hgl:K.g<w.heap.size:=HI.o.1.ms.gl
  clear hn0 e3 e4 e5 e6 e7 hcc
  go_wp2_with fail
  refine(Yy (K.mk' wr) at3 false r3 glW w2 HD2.o.ms.pat).mono ?_
  rintro e w4 ⟨at4,r4,rfl,hp4,hg4,hc4⟩
  have HD4:=Xj (HD2.o.gr (wr2:=wr) hp4 hg4)
  have HF4:=Xj (HFF.o.gr hg4 hgl)
  clear hp4 hg4 HD2 HFF
  rcases hc4 with⟨_,hT,ha4,hr4⟩|⟨hT,ha4,hr4⟩<;>subst at4 r4
  ·have HT:=Xj hT
   (try rw[hT])
   clear hT
   go_upto_region 4 with fail
   obtain⟨wd,hwd⟩:∃ W,w4.drew=W:=⟨_,rfl⟩
   have HBd:=Xj (show Below w4.heap.size w4 wd by rw[<- hwd];exact(Below.refl _ _).drew)
   have HDg:=Xj (HD4.o.be HBd.o)
   have HFg:=Xj (HF4.o.gr (g:=K.g) (Xg HBd.o (some K.g)) hgl)
   obtain⟨s0,s1⟩:=HDg.o.oc.cells
   refine Jh 5 (λ w'=>w'.cell? ⟨go,0,none⟩=some (.slice ga gn gc)) (by kernel_rfl) (by rw[hwd];exact s0) (λ hJ=>?_)
   rw[hwd] at hJ ⊢
   clear hwd s0 s1
   refine tkY 0 19 (λ _=>hJ) ?_
   refine tkK 1 20 ?_
   refine tkY 2 21 (λ _=>hJ) ?_
   refine rdK 3 λ K0 hK=>?_
   go_simp
   refine(Nk (K.mk' wr) (at3+1) r3.tail wd HDg.o.ms.pat).mono ?_
   rintro e wv ⟨nm,sz,wr2,bad5,at5,r5,rfl,hp5,hqd,hg5,hju⟩
   have HDh:=Xj (HDg.o.gr (wr2:=wr2) hp5 hg5)
   have HFh:=Xj (HFg.o.gr (g:=K.g) hg5 hgl)
   have HLE:=Xj hqd
   have hjr:=Xj hju.o
   clear hp5 hqd hg5 hju hJ
   have hJ:(λ w':World=>w'.cell? ⟨go,0,none⟩=some (.slice ga gn gc)) wv:=HDh.o.oc.cells.1
   refine goK hK (λ _=>hJ) ?_
   clear hK K0
   refine rdK 4 λ K0 hK=>?_
   go_simp
   refine goK hK (λ _=>Xu _ hJ) ?_
   clear hK K0
   have hqp:=HDh.o.ms.gr.size
   have hn3:gn<=100000:=by have:=HN0.o;have:=HL3.o;omega
   obtain⟨i0,hi0,hz0,hz1,hz2⟩:=info_parts Tryz.infoGlb
   have HIF:=Xj hi0
   have HZ0:=Xj hz0
   have HZ1:=Xj hz1
   have HZ2:=Xj hz2
   clear hi0 hz0 hz1 hz2 hJ
   have HOA:=Xj (HDh.o.og.alloc (.cells #[.string (st nm),.int .i64 sz] 60))
   refine rdK 5 λ K0 hK=>?_
   refine step_append_lies _ rfl _ _ _ rfl w.heap.size 60 i0 _ 2 24 Tryz.underlying26 HIF.o HZ0.o HZ1.o HZ2.o rfl (by omega) (.slice ga gn gc) gn xs rfl HOA.o ⟨wv.heap.size,0,none⟩ 1 1 [.string (st nm),.int .i64 sz] rfl rfl (World.news_of_block (cs := #[.string (st nm),.int .i64 sz]) (t:=60) (fr:=(0,0)) (heap_alloc_new wv _)) (by simp[Value.oneCell']) (by omega) (by unfold maxLen;omega) (by omega) (by simp;omega) _ rfl ?_
   intro g9 c9 w9 hown9 hgrow9 Ho hlt9
   have HPU:=Xj (HDh.o.pg hgrow9 Ho hown9)
   change K0 (Act.put _ (some 24) (.slice (some ⟨g9,0,none⟩) (gn+1) c9)) w9
   refine goK hK (λ _=>HPU.o.2.1.cells.1) ?_
   clear hK K0 hown9 hgrow9 Ho hlt9
   refine tkY 6 25 (λ hjl=>by simp at hjl) ?_
   obtain⟨s0,s1⟩:=HPU.o.2.1.cells
   obtain⟨j0,j1⟩:=HPU.o.2.1.froz
   have hlS:=HPU.o.2.1.lt
   refine rdK 7 λ K0 hK=>?_
   go_simp
   refine goK hK (λ hjl=>by simp at hjl) ?_
   clear hK K0
   refine Qt (by kernel_rfl) ?_ _
   refine Xz ?_
   clear s0 s1 j0 j1 hlS
   obtain⟨wz,hwz⟩:∃ W,w9.setCell ⟨go,0,none⟩ (.slice (some ⟨g9,0,none⟩) (gn+1) c9)=W:=⟨_,rfl⟩
   (try rw[hwz])
   have HDn:=Xj HPU.o.1
   have HFn:=Xj (HPU.o.2.2 fs HFh.o)
   rw[hwz] at HDn HFn
   clear hwz HPU HDh HFh
   have HAT:Xq (at3+1<=at5):=Xj (by
    have h1:=HDn.o.ms.pat.lt.2
    have h2:=HI.o.1.ms.pat.lt.2
    have h3:=HLE.o
    simp only[List.length_tail] at h3
    dsimp only at h1 h2
    have h4:0<r3.length:=by rw[HR1.o];simp
    omega)
   have HSN:Xq (Fv K w gR go rest wr2 (.slice (some ⟨g9,0,none⟩) (gn+1) c9) (gn+1) (xs++[.string (st nm),.int .i64 sz]) (.slice fa fn fc) fn ys at5 bad5 r5 wz):=Xj (by
    obtain⟨e3,e4,e6,e7⟩:=HE.o
    rcases hjr.o with⟨b1,b2,_⟩|⟨b1,b2⟩
    ·exact .inl ⟨b1,by have:=HN0.o;have:=HAT.o;omega,gs++[(nm,sz)],fs,by rw[gcs_snoc,e3],by simp[e4],HFn.o,e6,λ y hy=>e7 _ (So.gl HT.o b2 hy)⟩
    exact .inr ⟨b1,e7 _ (So.glb HT.o b2)⟩)
   go_wp2_with fail
   go_roundw
   case rel=>exact⟨wr2,some ⟨g9,0,none⟩,gn+1,c9,_,fa,fn,fc,ys,at5,bad5,r5,Xj ⟨HDn.o,HSN.o⟩⟩
   have h1:=HDn.o.ms.pat.natAt
   have h2:=HI.o.1.ms.pat.natAt
   have h3:=HDn.o.ms.pat.badAt
   have h4:=HI.o.1.ms.pat.badAt
   have h5:at5<K.ts.length:=HDn.o.ms.pat.lt.1
   have h6:=HAT.o
   dsimp only at h1 h2 h3 h4
   rw[h1,h2,h3,h4]
   have h7:(if bad5=true then 0 else 1)<=1:=by split<;>omega
   have h8:(if false=true then 0 else 1)=1:=rfl
   rw[h8]
   omega
  have HNG:Xq (isT glW r3=false):=Xj (by simpa using hT)
  (try rw[hT])
  clear hT
  go_wp2_with fail
  refine(Js (K.mk' wr) at3 false uk un uv ut r1 w4 (HR1.o▸HD4.o.ms.pat)).mono ?_
  rintro e w5 ⟨rfl,hb5⟩
  have HD5:=Xj (HD4.o.be hb5)
  have HF5:=Xj (HF4.o.gr (g:=K.g) (Xg hb5 (some K.g)) hgl)
  clear hb5 HD4 HF4
  go_wp2_with fail
  refine(Qu (K.mk' wr) at3 false r3 fnW w5 HD5.o.ms.pat).mono ?_
  rintro e w6 ⟨at6,bad6,r6,rfl,hp6,hg6,hE6⟩
  have HD6:=Xj (HD5.o.gr (wr2:=wr) hp6 hg6)
  have HF6:=Xj (HF5.o.gr (g:=K.g) hg6 hgl)
  have HE6:Xq ((bad6=false/\isT fnW r3=true/\r6=r3.tail)\/(bad6=true/\isT fnW r3=false/\r6=r3)):=Xj (by
   rcases hE6.o.2 with⟨_,h1,h2,h3⟩|⟨h1,h2,_,h3⟩
   ·exact .inl ⟨h1,h2,h3⟩
   exact .inr ⟨h1,h2 (by first|rfl|trivial),h3⟩)
  clear hp6 hg6 hE6 HD5 HF5
  go_wp2_with fail
  refine(Gh (K.mk' wr) at6 bad6 r6 w6 HD6.o.ms.pat).mono ?_
  rintro e w7 ⟨nm,pa,pn,pc,ba,bn,bc,bad5,at5,r5,rfl,hp7,HJ,hg7,hR⟩
  have HD7:=Xj (HD6.o.gr (wr2:=wr) hp7 hg7)
  have HF7:=Xj (HF6.o.gr (g:=K.g) hg7 hgl)
  have HLE:=Xj HJ
  have hjr:Xq ((bad5=false/\isT fnW r3=true/\∃ ps S,Fs r3.tail (.ok nm ps S r5)/\Ux w7 (PFu w gR go (.slice ga gn gc) (.slice fa fn fc)) ps (.slice pa pn pc)/\Xl w7 (PFu w gR go (.slice ga gn gc) (.slice fa fn fc)) S (.slice ba bn bc)/\r5.length<r3.tail.length)\/(bad5=true/\So K.wr [] [] rest (.bad r5))):=Xj (by
   have k1:=HD6.o.ms.gr.size
   have k2:=HD6.o.rc.lt
   have k3:=HD6.o.oc.lt
   obtain⟨e3,e4,e6,e7⟩:=HE.o
   have key:∀ b,w6.heap.size<=b->b<w7.heap.size->w7.heap[b]?=w7.heap[b]?/\PFu w gR go (.slice ga gn gc) (.slice fa fn fc) b:=λ b hb _ =>
    ⟨rfl,by omega,by omega,by omega,λ e=>by have:=(HD6.o.og.lt _ e.symm).2;omega,λ e=>by have:=(HD6.o.of.lt _ e.symm).2;omega⟩
   rcases HE6.o with⟨a1,a2,a3⟩|⟨a1,a2,a3⟩
   ·rcases hR.o with⟨_,b2,ps,S,b3,b4,b5,b6⟩|⟨_,b2,b3⟩|⟨b1,_⟩
    ·rw[a3] at b3 b6
     exact .inl ⟨b2,a2,ps,S,b3,b4.keep key (Nat.le_refl _),b5.keep key (Nat.le_refl _),b6⟩
    ·rw[a3] at b3
     exact .inr ⟨b2,e7 _ (So.fnb a2 b3)⟩
    rw[a1] at b1;cases b1
   rcases hR.o with⟨b1,_⟩|⟨b1,_⟩|⟨_,b2,_,b4⟩
   ·rw[a1] at b1;cases b1
   ·rw[a1] at b1;cases b1
   refine .inr ⟨b2,?_⟩
   rw[b4,a3]
   exact e7 _ (So.no HU0.o HNG.o a2))
  clear hp7 HJ hg7 hR HD6 HF6
  have hB:=Xw w7 (.cells #[.string (st nm),.int .i64 un,.slice pa pn pc,.slice ba bn bc] 63)
  have HD8:=Xj (HD7.o.be hB)
  have HF8:=Xj (HF7.o.gr (g:=K.g) (Xg hB (some K.g)) hgl)
  have HS6:Xq (Lf (w7.alloc (.cells #[.string (st nm),.int .i64 0,.slice pa pn pc,.slice ba bn bc] 63)) w7.heap.size nm 0 (.slice pa pn pc) (.slice ba bn bc)):=Xj (heap_alloc_new w7 _)
  have HS8:Xq (Lf (w7.alloc (.cells #[.string (st nm),.int .i64 un,.slice pa pn pc,.slice ba bn bc] 63)) w7.heap.size nm un (.slice pa pn pc) (.slice ba bn bc)):=Xj (heap_alloc_new w7 _)
  have hvm:Xq ((bad5=false/\isT fnW r3=true/\∃ ps S,Fs r3.tail (.ok nm ps S r5)/\Ux (w7.alloc (.cells #[.string (st nm),.int .i64 un,.slice pa pn pc,.slice ba bn bc] 63)) (PFu w gR go (.slice ga gn gc) (.slice fa fn fc)) ps (.slice pa pn pc)/\Xl (w7.alloc (.cells #[.string (st nm),.int .i64 un,.slice pa pn pc,.slice ba bn bc] 63)) (PFu w gR go (.slice ga gn gc) (.slice fa fn fc)) S (.slice ba bn bc)/\r5.length<r3.tail.length)\/(bad5=true/\So K.wr [] [] rest (.bad r5))):=Xj (by
   rcases hjr.o with⟨b1,b2,ps,S,b3,b4,b5,b6⟩|b
   ·exact .inl ⟨b1,b2,ps,S,b3,b4.keep (λ b hb hlt=>⟨hB.block b hlt,hb⟩) hB.size,b5.keep (λ b hb hlt=>⟨hB.block b hlt,hb⟩) hB.size,b6⟩
   exact .inr b)
  clear hB HD7 HF7 hjr
  obtain⟨x0,x1,x2,x3⟩:=HS6.o.cells
  obtain⟨j0,j1,j2,j3⟩:=HS6.o.froz
  have hlX:=HS6.o.lt
  go_upto_region 9 with fail
  obtain⟨w8,hw8⟩:∃ W,w7.alloc (.cells #[.string (st nm),.int .i64 un,.slice pa pn pc,.slice ba bn bc] 63)=W:=⟨_,rfl⟩
  obtain⟨gy,hgy⟩:∃ x,w7.heap.size=x:=⟨_,rfl⟩
  clear x0 x1 x2 x3 j0 j1 j2 j3 hlX HS6
  (try rw[hw8])
  rw[hw8] at HD8 HS8 HF8 hvm
  rw[hgy] at HS8
  (try rw[hgy])
  clear hw8 hgy
  obtain⟨s0,s1⟩:=HD8.o.oc.cells
  have hlS:=HD8.o.oc.lt
  obtain⟨x0,x1,x2,x3⟩:=HS8.o.cells
  have hlX:=HS8.o.lt
  have hqp:=HD8.o.ms.gr.size
  have hn3:fn<=100000:=by have:=HN0.o;have:=HL3.o;omega
  obtain⟨i0,hi0,hz0,hz1,hz2⟩:=info_parts Tryz.infoFun
  have HIF:=Xj hi0
  have HZ0:=Xj hz0
  have HZ1:=Xj hz1
  have HZ2:=Xj hz2
  clear hi0 hz0 hz1 hz2
  have HOA:=Xj (HD8.o.of.alloc (.cells #[.string (st nm),.int .i64 un,.slice pa pn pc,.slice ba bn bc] 63))
  go_wp2_with (at_builtin;refine wpList_append_lies _ rfl _ _ _ rfl w.heap.size 63 i0 _ 4 72 Tryz.underlying27 HIF.o HZ0.o HZ1.o HZ2.o rfl (by omega) _ _ _ rfl HOA.o ⟨w8.heap.size,0,none⟩ 1 1 [.string (st nm),.int .i64 un,.slice pa pn pc,.slice ba bn bc] rfl rfl (World.news_of_block (cs := #[.string (st nm),.int .i64 un,.slice pa pn pc,.slice ba bn bc]) (t:=63) (fr:=(0,0)) (heap_alloc_new w8 _)) (by simp[Value.oneCell']) (by omega) (by unfold maxLen;omega) (by omega) (by simp;omega) _ rfl ?_;intro g9 c9 w9 hown9 hgrow9 Ho hlt9;have HPU:=Xj (HD8.o.pf hgrow9 Ho hown9);obtain⟨q0,q1⟩:=HPU.o.2.1.cells;obtain⟨k0,k1⟩:=HPU.o.2.1.froz;have hl9:=HPU.o.2.1.lt;clear hown9 hgrow9 Ho hlt9)
  have HDn:=Xj HPU.o.1
  have HAT:Xq (at3<=at5/\(bad5=false->at3+1<=at5)):=Xj (by
   have h1:=HDn.o.ms.pat.lt.2
   have h2:=HI.o.1.ms.pat.lt.2
   have h3:=HLE.o
   dsimp only at h1 h2
   have h5:r6.length<=r3.length:=by
    rcases HE6.o with⟨_,_,e⟩|⟨_,_,e⟩<;>rw[e]<;>simp
   refine⟨by omega,λ hb=>?_⟩
   rcases hvm.o with⟨_,_,_,_,_,_,_,h6⟩|⟨h6,_⟩
   ·simp only[List.length_tail] at h6;omega
   rw[hb] at h6;cases h6)
  have HSN:Xq (Fv K w gR go rest wr (.slice ga gn gc) gn xs (.slice (some ⟨g9,0,none⟩) (fn+1) c9) (fn+1) (ys++[.string (st nm),.int .i64 un,.slice pa pn pc,.slice ba bn bc]) at5 bad5 r5 (w9.setCell ⟨go,1,none⟩ (.slice (some ⟨g9,0,none⟩) (fn+1) c9))):=Xj (by
   obtain⟨e3,e4,e6,e7⟩:=HE.o
   rcases hvm.o with⟨b1,b2,ps,S,b3,b4,b5,_⟩|b
   ·exact .inl ⟨b1,by have:=HN0.o;have:=HAT.o.2 b1;omega,gs,fs++[⟨nm,un,ps,S⟩],e3,e4,HPU.o.2.2 fs ⟨nm,un,ps,S⟩ _ _ HF8.o b4 b5,by simp[e6],λ y hy=>e7 _ (So.fn b2 b3 (by rw[HU.o.2];exact hy))⟩
   exact .inr b)
  go_roundw
  case rel=>exact⟨wr,ga,gn,gc,xs,some ⟨g9,0,none⟩,fn+1,c9,_,at5,bad5,r5,Xj ⟨HDn.o,HSN.o⟩⟩
  have h1:=HDn.o.ms.pat.natAt
  have h2:=HI.o.1.ms.pat.natAt
  have h3:=HDn.o.ms.pat.badAt
  have h4:=HI.o.1.ms.pat.badAt
  have h5:at5<K.ts.length:=HDn.o.ms.pat.lt.1
  have h6:=HAT.o
  dsimp only at h1 h2 h3 h4
  rw[h1,h2,h3,h4]
  cases bad5
  ·have:=h6.2 rfl;simp;omega
  have:=h6.1;simp;omega
 obtain⟨y0,y1⟩:=HI.o.1.rc.cells
 obtain⟨g0,g1⟩:=HI.o.1.rc.froz
 have hlR:=HI.o.1.rc.lt
 obtain⟨s0,s1⟩:=HI.o.1.oc.cells
 have hlS:=HI.o.1.oc.lt
 have hZ:=Rl (rest:=rest) HI.o.1 (HI.o.2) (λ h=>nomatch h)
 go_wp2_with fail
 obtain⟨wz,hwz⟩:∃ W,(wa.setCell ⟨gR,0,none⟩ (.slice ga gn gc)).setCell ⟨gR,1,none⟩ (.slice fa fn fc)=W:=⟨_,rfl⟩
 (try rw[hwz])
 obtain⟨hd,hep⟩:=hZ wz hwz.symm
 obtain⟨d0,d1⟩:=hd.cells
 clear hZ
 refine bodyPost_ret (v:=sov (.slice ga gn gc) (.slice fa fn fc)) (by simp[results,Tryz.results60,go_sem,d0,d1]) rfl ?_
 exact hep
end
def xqc (y:PO) (w w':World) (e:Ending):Prop :=
 (∃ (gs:List (Bt×Int)) (fs:List Fu) (wr:Int) (r:List Tk) (va vb:Value),y=.ok gs fs wr r/\¬ 0<wr/\Zh w' (λ b=>w.heap.size<=b) gs fs va vb/\e=.returned (.tuple #[sov va vb,.int .i64 0,.int .i64 0])) \/
 (∃ (gs:List (Bt×Int)) (fs:List Fu) (wr:Int) (r:List Tk),y=.ok gs fs wr r/\0<wr/\e=.returned (.tuple #[sov Xs Xs,.int .i64 wr,.int .i64 1])) \/
 (∃ r,y=.bad r/\e=.returned (.tuple #[sov Xs Xs,.int .i64 (Yc r),.int .i64 7]))
def Wj (l:Bt) (w:World) (e:Ending) (w':World):Prop:=Below w.heap.size w w' /\
 ((65536<l.length/\e=.returned (.tuple #[sov Xs Xs,.int .i64 0,.int .i64 5])) \/
  (l.length<=65536/\(scan l).1=none/\e=.returned (.tuple #[sov Xs Xs,.int .i64 (scan l).2,.int .i64 6])) \/
  (l.length<=65536/\∃ (ts:List Tk) (y:PO),(scan l).1=some ts/\Xq (So 0 [] [] ts y/\xqc y w w' e)))
theorem Jr {w wx:World} {gR:Nat} {va vb:Value} (R:Lo wx gR va vb) (B:Below w.heap.size w wx) (h:w.heap.size<=gR) (a b:Value) (W:World) (hW:W=(wx.setCell ⟨gR,0,none⟩ a).setCell ⟨gR,1,none⟩ b):Lo W gR a b/\Below w.heap.size w W/\∀ k,k≠gR->W.heap[k]?=wx.heap[k]?:=by
 subst hW
 exact⟨R.s2 a b,(B.setCell (p:=⟨gR,0,none⟩) h a).setCell (p:=⟨gR,1,none⟩) h b,λ k hk=>(heap_setCell_other _ _ _ _ (by show k≠gR;exact hk)).trans (heap_setCell_other _ _ _ _ (by show k≠gR;exact hk))⟩
theorem Zh.gr {w wx:World} {P Q:Nat->Prop} {g:Nat} {gs:List (Bt×Int)} {fs:List Fu} {va vb:Value} (h:Zh w P gs fs va vb) (hk:∀ k,k≠g->wx.heap[k]?=w.heap[k]?) (hs:w.heap.size<=wx.heap.size) (hP:∀ b,P b->b≠g/\Q b):Zh wx Q gs fs va vb:=h.keep (λ b hb _=>⟨hk b (hP b hb).1,(hP b hb).2⟩) hs
theorem Aw (T:Bt) (hT:T.length<=281474976710656) (w:World) (hw:Lad w):Calls Tryz.prog 24 #[.string (st T)] w (Wj T w):=by
 have HW:=Xj (hw.below (Xw w Jx))
 have HR1:=Xj (Lo.zero w)
 have HTl:=Xj hT
 have HB1:=Xj (Xw w Jx)
 clear hw hT
 go_enter Tryz.func24,Tryz.ntmps24
 go_upto_region 1 with fail
 obtain⟨w1,hw1⟩:∃ W,w.alloc Jx=W:=⟨_,rfl⟩
 obtain⟨gR,hgR⟩:∃ x,w.heap.size=x:=⟨_,rfl⟩
 (try rw[show w.alloc (.cells #[.slice none 0 0,.slice none 0 0] 29)=w1 from hw1])
 rw[hw1] at HW HR1 HB1
 rw[hgR] at HR1
 (try rw[hgR])
 have HGR:=Xj hgR
 have HS1:Xq (w1.heap.size=gR+1):=Xj (by rw[<- hw1,<- hgR];simp)
 clear hw1 hgR
 go_wp2_with fail
 refine(Mu (st T) (by show T.length<=_;exact HTl.o) _ HW.o).mono ?_
 rintro e w2 ⟨hb2,hp⟩
 have ed:(st T).data.toList=T:=by simp
 rw[ed] at hp
 have HR2:=Xj (HR1.o.be hb2)
 have HB2:=Xj (HB1.o.trans (hb2.mono HB1.o.size))
 have HS2:Xq (gR<w2.heap.size):=Xj (by have:=HS1.o;have:=hb2.size;omega)
 clear hb2 ed
 rcases hp with⟨hql,rfl⟩|⟨hle,hsc,rfl⟩|⟨hle,ts,v,hsc,rfl,hjz⟩
 ·have HX:=Xj hql
  clear hql
  obtain⟨y0,y1⟩:=HR2.o.cells
  obtain⟨g0,g1⟩:=HR2.o.froz
  have hlR:=HR2.o.lt
  have hZ:=Jr HR2.o HB2.o (by have:=HGR.o;omega) Xs Xs
  go_wp2_with fail
  obtain⟨wz,hwz⟩:∃ W,(w2.setCell ⟨gR,0,none⟩ Xs).setCell ⟨gR,1,none⟩ Xs=W:=⟨_,rfl⟩
  (try rw[hwz])
  obtain⟨hd,hbz,hkz⟩:=hZ wz hwz.symm
  obtain⟨d0,d1⟩:=hd.cells
  clear hZ
  refine bodyPost_ret (v:=.tuple #[sov Xs Xs,.int .i64 0,.int .i64 5]) (by simp[results,Tryz.results24,go_sem,d0,d1]) rfl ?_
  exact⟨hbz,.inl ⟨HX.o,rfl⟩⟩
 ·have HX:=Xj (And.intro hle hsc)
  clear hle hsc
  obtain⟨y0,y1⟩:=HR2.o.cells
  obtain⟨g0,g1⟩:=HR2.o.froz
  have hlR:=HR2.o.lt
  have hZ:=Jr HR2.o HB2.o (by have:=HGR.o;omega) Xs Xs
  go_wp2_with fail
  obtain⟨wz,hwz⟩:∃ W,(w2.setCell ⟨gR,0,none⟩ Xs).setCell ⟨gR,1,none⟩ Xs=W:=⟨_,rfl⟩
  (try rw[hwz])
  obtain⟨hd,hbz,hkz⟩:=hZ wz hwz.symm
  obtain⟨d0,d1⟩:=hd.cells
  clear hZ
  refine bodyPost_ret (v:=.tuple #[sov Xs Xs,.int .i64 (scan T).2,.int .i64 6]) (by simp[results,Tryz.results24,go_sem,d0,d1]) rfl ?_
  exact⟨hbz,.inr (.inl ⟨HX.o.1,HX.o.2,rfl⟩)⟩
 have hL:=Eg hsc
 obtain⟨al,cl,rfl,_,hc1,hc2,htl,hbl⟩:=Tks.of_own hjz
 have HX:=Xj (And.intro hle hsc)
 have HAL:Xq (∀ x,al=some x->x.block≠gR):=Xj (λ x hx=>by have:=hbl x hx;have:=HS1.o;omega)
 have HP:Xq (∀ W g,W=w2.alloc (.cells #[.slice al ts.length cl,.int .i64 0,.int .i64 0] 99)->g=w2.heap.size->PAt W ⟨g,al,cl,ts,0⟩ 0 ts):=Xj (λ W g hW hg=>by
  subst hW
  subst hg
  exact⟨heap_alloc_new w2 _,htl.below (Xw w2 _),λ x hx=>by obtain⟨b,off,e2,hb,_⟩:=htl 0 (hdT ts) (by obtain⟨x,r,e⟩:=hL.2.cons;rw[e];rfl);rw[e2] at hx;injection hx with hx;subst hx;show b≠w2.heap.size;omega,by simp,hL.2,⟨hc1,hc2⟩,by show ts.length<=100000;have:=hL.1;omega⟩)
 have HR3:=Xj (HR2.o.al (.cells #[.slice al ts.length cl,.int .i64 0,.int .i64 0] 99))
 have HB3:=Xj (HB2.o.alloc (by exact HB2.o.size) (.cells #[.slice al ts.length cl,.int .i64 0,.int .i64 0] 99))
 clear hL hc1 hc2 htl hbl hle hsc hjz
 go_upto_region 5 with fail
 obtain⟨w3,hw3⟩:∃ W,w2.alloc (.cells #[.slice al ts.length cl,.int .i64 0,.int .i64 0] 99)=W:=⟨_,rfl⟩
 obtain⟨g,hg⟩:∃ x,w2.heap.size=x:=⟨_,rfl⟩
 have HP3:=Xj (HP.o w3 g hw3.symm hg.symm)
 (try rw[hw3])
 rw[hw3] at HR3 HB3
 (try rw[hg])
 have HG3:Xq (gR<g):=Xj (by have:=HS2.o;omega)
 clear HP hw3 hg
 go_wp2_with fail
 refine(Pz ⟨g,al,cl,ts,0⟩ 0 ts _ HP3.o).mono ?_
 rintro e w4 ⟨ga,gn,gc,fa,fn,fc,wr,ok,at2,r,rfl,hp4,hg4,hI⟩
 have hgl:gR<g:=HG3.o
 have HR4:=Xj (HR3.o.grw hg4 (by intro e;injection e with e;have e2:g=gR:=e;omega))
 have HB4:Xq (Below w.heap.size w w4):=Xj (Vn (g:=g) ⟨hg4.os.trans HB3.o.os,hg4.tape.trans HB3.o.tape,hg4.output.trans HB3.o.output,Nat.le_trans HB3.o.size hg4.size,λ k hk hn=>(hg4.block k (by have:=HB3.o.size;omega) hn).trans (HB3.o.block k hk)⟩ (by have:=HGR.o;omega))
 have HSZ:=Xj (And.intro HB3.o.size HGR.o)
 have HS3:Xq (gR<w3.heap.size):=Xj HR3.o.lt
 obtain⟨y0,y1⟩:=HR4.o.cells
 obtain⟨g0,g1⟩:=HR4.o.froz
 have hlR:=HR4.o.lt
 have hZ:=Jr HR4.o HB4.o (by have:=HGR.o;omega) (.slice ga gn gc) (.slice fa fn fc)
 have HP5:Xq (PAt ((w4.setCell ⟨gR,0,none⟩ (.slice ga gn gc)).setCell ⟨gR,1,none⟩ (.slice fa fn fc)) ⟨g,al,cl,ts,wr⟩ at2 r):=Xj ((hp4.sc1 (b:=gR) (o:=0) ⟨by show gR≠g;omega,HAL.o⟩ _).sc1 (b:=gR) (o:=1) ⟨by show gR≠g;omega,HAL.o⟩ _)
 have hjr:=Xj (hI.o)
 clear hp4 hg4 hI HP3 HR3 HB3
 obtain⟨⟨rk,rn,rv,rt⟩,r1,hr1⟩:=HP5.o.en.cons
 have HKR:Xq (Yc r=rn):=Xj (by rw[hr1];rfl)
 go_upto_block 0 with fail
 obtain⟨w5,hw5⟩:∃ W,(w4.setCell ⟨gR,0,none⟩ (.slice ga gn gc)).setCell ⟨gR,1,none⟩ (.slice fa fn fc)=W:=⟨_,rfl⟩
 (try rw[hw5])
 rw[hw5] at HP5
 obtain⟨hr5,hb5,hk5⟩:=hZ w5 hw5.symm
 have HR5:=Xj hr5
 have HB5:=Xj hb5
 have HK5:Xq (∀ gs fs,Zh w4 (λ b=>w3.heap.size<=b) gs fs (.slice ga gn gc) (.slice fa fn fc)->Zh w5 (λ b=>w.heap.size<=b/\b≠gR) gs fs (.slice ga gn gc) (.slice fa fn fc)):=Xj (λ gs fs h=>h.gr hk5 (by rw[<- hw5];simp[World.setCell]) (λ b hb=>by have:=HSZ.o;have:=HS3.o;exact⟨by omega,by omega,by omega⟩))
 clear hw5 hZ hr5 hb5 hk5 y0 y1 g0 g1 hlR HR4 HB4
 have hyk:∀ W:World,(Instr.field 103 (.agg #[.int .i64 rk,.int .i64 rn,.int .i64 rv,.string (st rt)]) 1).run Tryz.prog W=.ok (.int .i64 rn) W:=λ _=>by kernel_rfl
 cases ok
 ·have HBD:Xq (So 0 [] [] ts (.bad r)):=Xj (by
   rcases hjr.o with⟨h1,_⟩|⟨_,h1⟩
   ·cases h1
   exact h1)
  go_wp2_with fail
  refine(Zb ⟨g,al,cl,ts,wr⟩ at2 rk rn rv rt r1 _ (hr1▸HP5.o)).mono ?_
  rintro e w6 ⟨rfl,hb⟩
  have HR6:=Xj (HR5.o.be hb)
  have HB6:=Xj (HB5.o.trans (hb.mono HB5.o.size))
  clear hb
  obtain⟨y0,y1⟩:=HR6.o.cells
  obtain⟨g0,g1⟩:=HR6.o.froz
  have hlR:=HR6.o.lt
  have hZ:=Jr HR6.o HB6.o (by have:=HGR.o;omega) Xs Xs
  go_wp2_with fail
  obtain⟨wz,hwz⟩:∃ W,(w6.setCell ⟨gR,0,none⟩ Xs).setCell ⟨gR,1,none⟩ Xs=W:=⟨_,rfl⟩
  (try rw[hwz])
  obtain⟨hd,hbz,hkz⟩:=hZ wz hwz.symm
  obtain⟨d0,d1⟩:=hd.cells
  clear hZ
  refine bodyPost_ret (v:=.tuple #[sov Xs Xs,.int .i64 rn,.int .i64 7]) (by simp[results,Tryz.results24,go_sem,d0,d1]) rfl ?_
  exact⟨hbz,.inr (.inr ⟨HX.o.1,ts,_,HX.o.2,Xj ⟨HBD.o,.inr (.inr ⟨r,rfl,by rw[HKR.o]⟩)⟩⟩)⟩
 obtain⟨gs,fs,hso,hsa⟩:∃ gs fs,So 0 [] [] ts (.ok gs fs wr r)/\Zh w4 (λ b=>w3.heap.size<=b) gs fs (.slice ga gn gc) (.slice fa fn fc):=by
  rcases hjr.o with⟨_,h1⟩|⟨h1,_⟩
  ·exact h1
  cases h1
 have HSO:=Xj hso
 have HSA:=Xj (HK5.o _ _ hsa)
 clear hso hsa hr1
 obtain⟨-,-,p2,-,f2,hlp⟩:=HP5.o.cells
 (try dsimp only at p2 f2 hlp)
 by_cases hq:0<wr
 ·have dq:decide (0<wr)=true:=decide_eq_true hq
  have dq2:decide (wr > 0)=true:=decide_eq_true hq
  have HQ:=Xj hq
  clear hq
  go_upto_region 9 with fail
  obtain⟨wd,hwd⟩:∃ W,w5.drew=W:=⟨_,rfl⟩
  have HRd:=Xj (show Lo wd gR (.slice ga gn gc) (.slice fa fn fc) by rw[<- hwd];exact HR5.o)
  have HBd:=Xj (show Below w.heap.size w wd by rw[<- hwd];exact HB5.o.drew)
  have hgl2:gR≠g:=by have:=HG3.o;omega
  refine wp_region_held_drew (S:=(λ w'=>w'.cell? ⟨g,2,none⟩=some (.int .i64 wr))) (by kernel_rfl) (by rw[hwd,<- hwd];exact p2) (λ hJ=>?_)
  rw[hwd] at hJ ⊢
  clear hwd p2 f2 hlp
  obtain⟨y0,y1⟩:=HRd.o.cells
  obtain⟨g0,g1⟩:=HRd.o.froz
  have hlR:=HRd.o.lt
  refine tkH 0 40 ?_
  refine tkH 1 41 ?_
  refine tkH 2 42 ?_
  refine tkH 3 43 ?_
  refine tkH 4 44 ?_
  refine rdH 5 λ K0 hK=>?_
  go_simp
  refine goH hK (Yr _ (by omega) (Yr _ (by omega) hJ)) λ hJ=>?_
  clear hK K0
  refine tkH 6 3 ?_
  refine tkH 7 4 ?_
  refine wpAnyH_done (by kernel_rfl) ?_ _
  refine Xz ?_
  clear y0 y1 g0 g1 hlR hJ
  have hZ:=Jr HRd.o HBd.o (by have:=HGR.o;omega) Xs Xs
  obtain⟨wz,hwz⟩:∃ W,(wd.setCell ⟨gR,0,none⟩ Xs).setCell ⟨gR,1,none⟩ Xs=W:=⟨_,rfl⟩
  (try rw[hwz])
  obtain⟨hd,hbz,hkz⟩:=hZ wz hwz.symm
  obtain⟨d0,d1⟩:=hd.cells
  clear hZ
  go_wp2_with fail
  refine bodyPost_ret (v:=.tuple #[sov Xs Xs,.int .i64 wr,.int .i64 1]) (by simp[results,Tryz.results24,go_sem,d0,d1]) rfl ?_
  exact⟨hbz,.inr (.inr ⟨HX.o.1,ts,_,HX.o.2,Xj ⟨HSO.o,.inr (.inl ⟨gs,fs,wr,r,rfl,HQ.o,rfl⟩)⟩⟩)⟩
 have dq:decide (0<wr)=false:=decide_eq_false hq
 have dq2:decide (wr > 0)=false:=decide_eq_false hq
 have HQ:=Xj hq
 clear hq
 obtain⟨y0,y1⟩:=HR5.o.cells
 obtain⟨g0,g1⟩:=HR5.o.froz
 have hlR:=HR5.o.lt
 have hZ:=Jr HR5.o HB5.o (by have:=HGR.o;omega) (.slice ga gn gc) (.slice fa fn fc)
 go_wp2_with fail
 obtain⟨wz,hwz⟩:∃ W,(w5.setCell ⟨gR,0,none⟩ (.slice ga gn gc)).setCell ⟨gR,1,none⟩ (.slice fa fn fc)=W:=⟨_,rfl⟩
 (try rw[hwz])
 obtain⟨hd,hbz,hkz⟩:=hZ wz hwz.symm
 obtain⟨d0,d1⟩:=hd.cells
 clear hZ
 refine bodyPost_ret (v:=.tuple #[sov (.slice ga gn gc) (.slice fa fn fc),.int .i64 0,.int .i64 0]) (by simp[results,Tryz.results24,go_sem,d0,d1]) rfl ?_
 exact⟨hbz,.inr (.inr ⟨HX.o.1,ts,_,HX.o.2,Xj ⟨HSO.o,.inl ⟨gs,fs,wr,r,_,_,rfl,by have:=HQ.o;omega,HSA.o.gr hkz (by rw[<- hwz];simp[World.setCell]) (λ b hb=>⟨hb.2,hb.1⟩),rfl⟩⟩⟩)⟩
def xqx (bad:Bool) (wr:Int) (rest:List Tk) (w:World) (e:Ending) (w':World):Prop:=Below w.heap.size w w' /\
  (((bad=true\/kOf rest≠0)/\e=.returned (.tuple #[.int .i64 (Yc rest),.int .i64 7]))\/(bad=false/\kOf rest=0/\0<wr/\e=.returned (.tuple #[.int .i64 wr,.int .i64 1]))\/(bad=false/\kOf rest=0/\¬ 0<wr/\e=.returned (.tuple #[.int .i64 0,.int .i64 0])))
theorem Cc (K:PC) (at_:Nat) (bad:Bool) (rest:List Tk) (wr:Int) (w:World) (h:RAt w (K.mk' wr) at_ bad rest):Calls Tryz.prog 50 #[.pointer (some ⟨K.g,0,none⟩)] w (xqx bad wr rest w):=by
 obtain⟨⟨rk,rn,rv,rt⟩,r,hxr⟩:=h.en.cons
 have HP:=Xj h
 have HKR:Xq (kOf rest=rk/\Yc rest=rn):=Xj (by rw[hxr];exact⟨rfl,rfl⟩)
 have HLK:Xq (∀ wx,RAt wx (K.mk' wr) at_ bad rest->Calls Tryz.prog 85 #[.pointer (some ⟨K.g,0,none⟩)] wx λ e w'=>e=.returned (.agg #[.int .i64 rk,.int .i64 rn,.int .i64 rv,.string (st rt)])/\Below wx.heap.size wx w'):=Xj (λ wx h=>Js (K.mk' wr) at_ bad rk rn rv rt r wx (by rw[<- hxr];exact h))
 have HC:Xq (∀ wx,RAt wx (K.mk' wr) at_ bad rest->wx.cell? ⟨K.g,2,none⟩=some (.bool bad)/\wx.cell? ⟨K.g,3,none⟩=some (.int .i64 wr)/\K.g<wx.heap.size):=Xj (λ wx h=>⟨cell_of_row _ _ 2 _ _ _ h.row,cell_of_row _ _ 3 _ _ _ h.row,h.glt⟩)
 have huf:∀ W:World,(Instr.field 103 (.agg #[.int .i64 rk,.int .i64 rn,.int .i64 rv,.string (st rt)]) 0).run Tryz.prog W=.ok (.int .i64 rk) W:=λ _=>by kernel_rfl
 have hyk:∀ W:World,(Instr.field 103 (.agg #[.int .i64 rk,.int .i64 rn,.int .i64 rv,.string (st rt)]) 1).run Tryz.prog W=.ok (.int .i64 rn) W:=λ _=>by kernel_rfl
 clear h hxr
 obtain⟨c2,c3,hl⟩:=HC.o _ HP.o
 go_enter Tryz.func50,Tryz.ntmps50
 cases bad
 ·go_wp2_with fail
  refine(HLK.o _ HP.o).mono ?_
  rintro e w2 ⟨rfl,hb2⟩
  have HB2:=Xj hb2
  have HP2:=Xj (HP.o.below hb2)
  clear hb2
  by_cases hk:rk=0
  ·subst hk
   obtain⟨d2,d3,hl2⟩:=HC.o _ HP2.o
   by_cases hq:0<wr
   ·have dq:decide (0<wr)=true:=decide_eq_true hq
    have HQ:=Xj hq
    clear hq
    go_wp2_with fail
    refine bodyPost_ret (v:=.tuple #[.int .i64 wr,.int .i64 1]) (by simp[results,Tryz.results50,go_sem]) rfl ?_
    exact⟨HB2.o,.inr (.inl ⟨rfl,HKR.o.1,(by have:=HQ.o;omega),rfl⟩)⟩
   have dq:decide (0<wr)=false:=decide_eq_false hq
   have HQ:=Xj hq
   clear hq
   go_wp2_with fail
   refine bodyPost_ret (v:=.tuple #[.int .i64 0,.int .i64 0]) (by simp[results,Tryz.results50,go_sem]) rfl ?_
   exact⟨HB2.o,.inr (.inr ⟨rfl,HKR.o.1,(by have:=HQ.o;omega),rfl⟩)⟩
  have dk:(rk==0)=false:=by rw[beq_eq_false_iff_ne];exact hk
  have dk2:(rk != 0)=true:=by rw[bne_iff_ne];exact hk
  have HK:Xq (kOf rest≠0):=Xj (by rw[HKR.o.1];exact hk)
  clear hk
  go_wp2_with fail
  refine(HLK.o _ HP2.o).mono ?_
  rintro e w3 ⟨rfl,hb3⟩
  have HB3:=Xj (HB2.o.trans (hb3.mono HB2.o.size))
  clear hb3
  go_wp2_with fail
  refine bodyPost_ret (v:=.tuple #[.int .i64 rn,.int .i64 7]) (by simp[results,Tryz.results50,go_sem]) rfl ?_
  exact⟨HB3.o,.inl ⟨.inr HK.o,by rw[HKR.o.2]⟩⟩
 go_wp2_with fail
 refine(HLK.o _ HP.o).mono ?_
 rintro e w3 ⟨rfl,hb3⟩
 have HB3:=Xj hb3
 clear hb3
 go_wp2_with fail
 refine bodyPost_ret (v:=.tuple #[.int .i64 rn,.int .i64 7]) (by simp[results,Tryz.results50,go_sem]) rfl ?_
 exact⟨HB3.o,.inl ⟨.inl rfl,by rw[HKR.o.2]⟩⟩
theorem Zh.be {w wx:World} {P:Nat->Prop} {gs:List (Bt×Int)} {fs:List Fu} {va vb:Value} (h:Zh w P gs fs va vb) (hb:Below w.heap.size w wx):Zh wx P gs fs va vb:=h.keep (λ b hP hlt=>⟨hb.block b hlt,hP⟩) hb.size
theorem Rw (T:Bt) (hT:T.length<=281474976710656) (w:World):Calls Tryz.prog 25 #[.string (st T)] w (Wj T w):=by
 have HR1:=Xj (Lo.zero w)
 have HTl:=Xj hT
 have HB1:=Xj (Xw w Jx)
 clear hT
 go_enter Tryz.func25,Tryz.ntmps25
 go_upto_region 1 with fail
 obtain⟨w1,hw1⟩:∃ W,w.alloc Jx=W:=⟨_,rfl⟩
 obtain⟨gR,hgR⟩:∃ x,w.heap.size=x:=⟨_,rfl⟩
 (try rw[show w.alloc (.cells #[.slice none 0 0,.slice none 0 0] 29)=w1 from hw1])
 rw[hw1] at HR1 HB1
 rw[hgR] at HR1
 (try rw[hgR])
 have HGR:=Xj hgR
 have HS1:Xq (w1.heap.size=gR+1):=Xj (by rw[<- hw1,<- hgR];simp)
 clear hw1 hgR
 go_wp2_with fail
 refine(Av (st T) (by show T.length<=_;exact HTl.o) _).mono ?_
 rintro e w2 ⟨hb2,hp⟩
 have ed:(st T).data.toList=T:=by simp
 rw[ed] at hp
 have HR2:=Xj (HR1.o.be hb2)
 have HB2:=Xj (HB1.o.trans (hb2.mono HB1.o.size))
 have HS2:Xq (gR<w2.heap.size):=Xj (by have:=HS1.o;have:=hb2.size;omega)
 clear hb2 ed
 rcases hp with⟨hql,rfl⟩|⟨hle,hsc,rfl⟩|⟨hle,ts,v,hsc,rfl,hjz⟩
 ·have HX:=Xj hql
  clear hql
  obtain⟨y0,y1⟩:=HR2.o.cells
  obtain⟨g0,g1⟩:=HR2.o.froz
  have hlR:=HR2.o.lt
  have hZ:=Jr HR2.o HB2.o (by have:=HGR.o;omega) Xs Xs
  go_wp2_with fail
  obtain⟨wz,hwz⟩:∃ W,(w2.setCell ⟨gR,0,none⟩ Xs).setCell ⟨gR,1,none⟩ Xs=W:=⟨_,rfl⟩
  (try rw[hwz])
  obtain⟨hd,hbz,hkz⟩:=hZ wz hwz.symm
  obtain⟨d0,d1⟩:=hd.cells
  clear hZ
  refine bodyPost_ret (v:=.tuple #[sov Xs Xs,.int .i64 0,.int .i64 5]) (by simp[results,Tryz.results25,go_sem,d0,d1]) rfl ?_
  exact⟨hbz,.inl ⟨HX.o,rfl⟩⟩
 ·have HX:=Xj (And.intro hle hsc)
  clear hle hsc
  obtain⟨y0,y1⟩:=HR2.o.cells
  obtain⟨g0,g1⟩:=HR2.o.froz
  have hlR:=HR2.o.lt
  have hZ:=Jr HR2.o HB2.o (by have:=HGR.o;omega) Xs Xs
  go_wp2_with fail
  obtain⟨wz,hwz⟩:∃ W,(w2.setCell ⟨gR,0,none⟩ Xs).setCell ⟨gR,1,none⟩ Xs=W:=⟨_,rfl⟩
  (try rw[hwz])
  obtain⟨hd,hbz,hkz⟩:=hZ wz hwz.symm
  obtain⟨d0,d1⟩:=hd.cells
  clear hZ
  refine bodyPost_ret (v:=.tuple #[sov Xs Xs,.int .i64 (scan T).2,.int .i64 6]) (by simp[results,Tryz.results25,go_sem,d0,d1]) rfl ?_
  exact⟨hbz,.inr (.inl ⟨HX.o.1,HX.o.2,rfl⟩)⟩
 have hL:=Eg hsc
 obtain⟨al,cl,rfl,_,hc1,hc2,htl,hbl⟩:=Tks.of_own hjz
 have HX:=Xj (And.intro hle hsc)
 have HAL:Xq (∀ x,al=some x->x.block≠gR):=Xj (λ x hx=>by have:=hbl x hx;have:=HS1.o;omega)
 have HP:Xq (∀ W g,W=w2.alloc (.cells #[.slice al ts.length cl,.int .i64 0,.bool false,.int .i64 0] 91)->g=w2.heap.size->RAt W ⟨g,al,cl,ts,0⟩ 0 false ts):=Xj (λ W g hW hg=>by
  subst hW
  subst hg
  exact⟨heap_alloc_new w2 _,htl.below (Xw w2 _),λ x hx=>by obtain⟨b,off,e2,hb,_⟩:=htl 0 (hdT ts) (by obtain⟨x,r,e⟩:=hL.2.cons;rw[e];rfl);rw[e2] at hx;injection hx with hx;subst hx;show b≠w2.heap.size;omega,by simp,hL.2,⟨hc1,hc2⟩,by show ts.length<=100000;have:=hL.1;omega⟩)
 have HR3:=Xj (HR2.o.al (.cells #[.slice al ts.length cl,.int .i64 0,.bool false,.int .i64 0] 91))
 have HB3:=Xj (HB2.o.alloc (by exact HB2.o.size) (.cells #[.slice al ts.length cl,.int .i64 0,.bool false,.int .i64 0] 91))
 clear hL hc1 hc2 htl hbl hle hsc hjz
 go_upto_region 5 with fail
 obtain⟨w3,hw3⟩:∃ W,w2.alloc (.cells #[.slice al ts.length cl,.int .i64 0,.bool false,.int .i64 0] 91)=W:=⟨_,rfl⟩
 obtain⟨g,hg⟩:∃ x,w2.heap.size=x:=⟨_,rfl⟩
 have HP3:=Xj (HP.o w3 g hw3.symm hg.symm)
 (try rw[hw3])
 rw[hw3] at HR3 HB3
 (try rw[hg])
 have HG3:Xq (gR<g):=Xj (by have:=HS2.o;omega)
 clear HP hw3 hg
 go_wp2_with fail
 refine(Nx ⟨g,al,cl,ts,0⟩ 0 ts _ HP3.o).mono ?_
 rintro e w4 ⟨ga,gn,gc,fa,fn,fc,wr,bad,at2,r,rfl,hp4,hg4,hI⟩
 have hgl:gR<g:=HG3.o
 have HR4:=Xj (HR3.o.grw hg4 (by intro e;injection e with e;have e2:g=gR:=e;omega))
 have HB4:Xq (Below w.heap.size w w4):=Xj (Vn (g:=g) ⟨hg4.os.trans HB3.o.os,hg4.tape.trans HB3.o.tape,hg4.output.trans HB3.o.output,Nat.le_trans HB3.o.size hg4.size,λ k hk hn=>(hg4.block k (by have:=HB3.o.size;omega) hn).trans (HB3.o.block k hk)⟩ (by have:=HGR.o;omega))
 have HSZ:=Xj (And.intro HB3.o.size HGR.o)
 have HS3:Xq (gR<w3.heap.size):=Xj HR3.o.lt
 obtain⟨y0,y1⟩:=HR4.o.cells
 obtain⟨g0,g1⟩:=HR4.o.froz
 have hlR:=HR4.o.lt
 have hZ:=Jr HR4.o HB4.o (by have:=HGR.o;omega) (.slice ga gn gc) (.slice fa fn fc)
 have HP5:Xq (RAt ((w4.setCell ⟨gR,0,none⟩ (.slice ga gn gc)).setCell ⟨gR,1,none⟩ (.slice fa fn fc)) ⟨g,al,cl,ts,wr⟩ at2 bad r):=Xj ((hp4.sc1 (b:=gR) (o:=0) ⟨by show gR≠g;omega,HAL.o⟩ _).sc1 (b:=gR) (o:=1) ⟨by show gR≠g;omega,HAL.o⟩ _)
 have hjr:=Xj (hI.o)
 clear hp4 hg4 hI HP3 HR3 HB3
 go_upto_region 6 with fail
 obtain⟨w5,hw5⟩:∃ W,(w4.setCell ⟨gR,0,none⟩ (.slice ga gn gc)).setCell ⟨gR,1,none⟩ (.slice fa fn fc)=W:=⟨_,rfl⟩
 (try rw[hw5])
 rw[hw5] at HP5
 obtain⟨hr5,hb5,hk5⟩:=hZ w5 hw5.symm
 have HR5:=Xj hr5
 have HB5:=Xj hb5
 have HK5:Xq (∀ gs fs,Zh w4 (λ b=>w3.heap.size<=b) gs fs (.slice ga gn gc) (.slice fa fn fc)->Zh w5 (λ b=>w.heap.size<=b/\b≠gR) gs fs (.slice ga gn gc) (.slice fa fn fc)):=Xj (λ gs fs h=>h.gr hk5 (by rw[<- hw5];simp[World.setCell]) (λ b hb=>by have:=HSZ.o;have:=HS3.o;exact⟨by omega,by omega,by omega⟩))
 clear hw5 hZ hr5 hb5 hk5 y0 y1 g0 g1 hlR HR4 HB4
 go_wp2_with fail
 refine(Cc ⟨g,al,cl,ts,0⟩ at2 bad r wr _ HP5.o).mono ?_
 rintro e w6 ⟨hb6,hd6⟩
 have HR6:=Xj (HR5.o.be hb6)
 have HB6:=Xj (HB5.o.trans (hb6.mono HB5.o.size))
 have HK6:Xq (∀ gs fs,Zh w4 (λ b=>w3.heap.size<=b) gs fs (.slice ga gn gc) (.slice fa fn fc)->Zh w6 (λ b=>w.heap.size<=b/\b≠gR) gs fs (.slice ga gn gc) (.slice fa fn fc)):=Xj (λ gs fs h=>(HK5.o gs fs h).be hb6)
 clear hb6
 rcases hd6 with⟨hq,rfl⟩|⟨rfl,hk0,hq,rfl⟩|⟨rfl,hk0,hq,rfl⟩
 ·have HBD:Xq (So 0 [] [] ts (.bad r)):=Xj (by
   rcases hjr.o with⟨h1,h2,_⟩|⟨_,h1⟩
   ·rcases hq with hq|hq
    ·rw[h1] at hq;cases hq
    exact absurd h2 hq
   exact h1)
  clear hq
  obtain⟨rn,hrn⟩:∃ x,Yc r=x:=⟨_,rfl⟩
  have HRN:=Xj hrn
  (try rw[hrn])
  clear hrn
  obtain⟨y0,y1⟩:=HR6.o.cells
  obtain⟨g0,g1⟩:=HR6.o.froz
  have hlR:=HR6.o.lt
  have hZ:=Jr HR6.o HB6.o (by have:=HGR.o;omega) Xs Xs
  go_wp2_with fail
  obtain⟨wz,hwz⟩:∃ W,(w6.setCell ⟨gR,0,none⟩ Xs).setCell ⟨gR,1,none⟩ Xs=W:=⟨_,rfl⟩
  (try rw[hwz])
  obtain⟨hd,hbz,hkz⟩:=hZ wz hwz.symm
  obtain⟨d0,d1⟩:=hd.cells
  clear hZ
  refine bodyPost_ret (v:=.tuple #[sov Xs Xs,.int .i64 rn,.int .i64 7]) (by simp[results,Tryz.results25,go_sem,d0,d1]) rfl ?_
  exact⟨hbz,.inr (.inr ⟨HX.o.1,ts,_,HX.o.2,Xj ⟨HBD.o,.inr (.inr ⟨r,rfl,by rw[HRN.o]⟩)⟩⟩)⟩
 ·obtain⟨gs,fs,hso,hsa⟩:∃ gs fs,So 0 [] [] ts (.ok gs fs wr r)/\Zh w4 (λ b=>w3.heap.size<=b) gs fs (.slice ga gn gc) (.slice fa fn fc):=by
   rcases hjr.o with⟨_,_,h1⟩|⟨h1,_⟩
   ·exact h1
   cases h1
  have HSO:=Xj hso
  have HQ:=Xj hq
  clear hso hsa hq hk0
  obtain⟨y0,y1⟩:=HR6.o.cells
  obtain⟨g0,g1⟩:=HR6.o.froz
  have hlR:=HR6.o.lt
  have hZ:=Jr HR6.o HB6.o (by have:=HGR.o;omega) Xs Xs
  go_wp2_with fail
  obtain⟨wz,hwz⟩:∃ W,(w6.setCell ⟨gR,0,none⟩ Xs).setCell ⟨gR,1,none⟩ Xs=W:=⟨_,rfl⟩
  (try rw[hwz])
  obtain⟨hd,hbz,hkz⟩:=hZ wz hwz.symm
  obtain⟨d0,d1⟩:=hd.cells
  clear hZ
  refine bodyPost_ret (v:=.tuple #[sov Xs Xs,.int .i64 wr,.int .i64 1]) (by simp[results,Tryz.results25,go_sem,d0,d1]) rfl ?_
  exact⟨hbz,.inr (.inr ⟨HX.o.1,ts,_,HX.o.2,Xj ⟨HSO.o,.inr (.inl ⟨gs,fs,wr,r,rfl,HQ.o,rfl⟩)⟩⟩)⟩
 obtain⟨gs,fs,hso,hsa⟩:∃ gs fs,So 0 [] [] ts (.ok gs fs wr r)/\Zh w4 (λ b=>w3.heap.size<=b) gs fs (.slice ga gn gc) (.slice fa fn fc):=by
  rcases hjr.o with⟨_,_,h1⟩|⟨h1,_⟩
  ·exact h1
  cases h1
 have HSO:=Xj hso
 have HSA:=Xj (HK6.o _ _ hsa)
 have HQ:=Xj hq
 clear hso hsa hq hk0
 obtain⟨y0,y1⟩:=HR6.o.cells
 obtain⟨g0,g1⟩:=HR6.o.froz
 have hlR:=HR6.o.lt
 have hZ:=Jr HR6.o HB6.o (by have:=HGR.o;omega) (.slice ga gn gc) (.slice fa fn fc)
 go_wp2_with fail
 obtain⟨wz,hwz⟩:∃ W,(w6.setCell ⟨gR,0,none⟩ (.slice ga gn gc)).setCell ⟨gR,1,none⟩ (.slice fa fn fc)=W:=⟨_,rfl⟩
 (try rw[hwz])
 obtain⟨hd,hbz,hkz⟩:=hZ wz hwz.symm
 obtain⟨d0,d1⟩:=hd.cells
 clear hZ
 refine bodyPost_ret (v:=.tuple #[sov (.slice ga gn gc) (.slice fa fn fc),.int .i64 0,.int .i64 0]) (by simp[results,Tryz.results25,go_sem,d0,d1]) rfl ?_
 exact⟨hbz,.inr (.inr ⟨HX.o.1,ts,_,HX.o.2,Xj ⟨HSO.o,.inl ⟨gs,fs,wr,r,_,_,rfl,(by have:=HQ.o;omega),HSA.o.gr hkz (by rw[<- hwz];simp[World.setCell]) (λ b hb=>⟨hb.2,hb.1⟩),rfl⟩⟩⟩)⟩
theorem Sf.app_nil2 (F:Sf):F.app .nil=F:=by
 induction F with
 | nil=>rfl
 | cons k ln nm xs th el r _ _ ih=>show Sf.cons k ln nm xs th el _=Sf.cons k ln nm xs th el _;rw[ih]
def eqS (lines:Bool):Sf->Sf->Bool
 | .nil,.nil=>true
 | .cons k ln nm xs th el r,.cons k' ln' nm' xs' th' el' r'=>(k==k'&&(nm==nm'&&((!lines||ln==ln')&&(eqF lines xs xs'&&(eqS lines th th'&&eqS lines el el')))))&&eqS lines r r'
 | _,_=>false
theorem Cp (lines:Bool) (F:Sf):eqS lines F F=true:=by
 induction F with
 | nil=>rfl
 | cons k ln nm xs th el r i1 i2 i3=>simp[eqS,i1,i2,i3,Cm]
theorem Oz {lines:Bool} {F G:Sf} (h:F.len≠G.len):eqS lines F G=false:=by
 induction F generalizing G with
 | nil=>cases G with
  | nil=>exact absurd rfl h
  | cons k ln nm xs th el r=>rfl
 | cons k ln nm xs th el r _ _ ih =>
  cases G with
  | nil=>rfl
  | cons k2 ln2 nm2 xs2 th2 el2 r2 =>
   have:=ih (G:=r2) (λ e=>h (by simp only[Sf.len,e]))
   simp[eqS,this]
def Gl (l:Bool) (f g:Fu):Bool:=f.nm==g.nm&&((!l||f.ln==g.ln)&&(f.ps==g.ps&&eqS l f.S g.S))
def Um (l:Bool):List Fu->List Fu->Bool
 | [],[]=>true
 | f::fs,g::gs=>Gl l f g&&Um l fs gs
 | _,_=>false
theorem Tf (l:Bool) (f:Fu):Gl l f f=true:=by simp[Gl,Cp]
theorem Td (l:Bool) (fs:List Fu):Um l fs fs=true:=by
 induction fs with
 | nil=>rfl
 | cons f fs ih=>simp[Um,ih,Tf]
end Go.Proofs.YtldgghnjminhiaaGreatDoor
