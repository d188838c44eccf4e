/-
  WALK of the implementation's parser's global. (Filled in from a template of this repo, printed by mk_pqg.py.)
-/
import Derived.Test.YtpcdinelpfbpfaaDoorPqJ
namespace Go.Proofs.YtpcdinelpfbpfaaDoor
open Go.ChangeShapes Go.WideShapes Go.ChangeAt Go.RowKit
set_option linter.unusedVariables false
set_option linter.unusedSimpArgs false

abbrev PC.mk' (K:PC) (x:Int):PC:={ K with wr:=x }
theorem MS.wr {K:PC} {w wx:World} {at_:Nat} {r:List Tk} (h:MS K w wx at_ r) (x:Int):MS (K.mk' x) w (wx.setCell ⟨K.g,2,none⟩ (.int .i64 x)) at_ r :=
 have hset:=grownBy_set wx K.g 2 (.int .i64 x)
 {pat :=
   {row:=heap_setCell_same wx K.g 2 _ _ _ h.pat.row
    tk:=fun j y hj=>by
     obtain⟨b,off,e,hb,h0,h1,h2,h3⟩:=h.pat.tk j y hj
     have key:(wx.setCell ⟨K.g,2,none⟩ (.int .i64 x)).heap[b]?=wx.heap[b]?:=hset.block b hb (fun e2=>by injection e2 with e2;exact h.pat.ne _ e e2)
     have kc : ∀ o,(wx.setCell ⟨K.g,2,none⟩ (.int .i64 x)).cell? ⟨b,o,none⟩=wx.cell? ⟨b,o,none⟩:=fun o=>World.cell?_of_block (a:=⟨b,o,none⟩) key
     exact⟨b,off,e,by have:=hset.size;omega,(kc _).trans h0,(kc _).trans h1,(kc _).trans h2,(kc _).trans h3⟩
    ne:=h.pat.ne
    dr:=h.pat.dr
    en:=h.pat.en
    cap:=h.pat.cap
    n:=h.pat.n }
  gr:=grownBy_trans h.gr hset
  gl:=h.gl
  tl:=h.tl }
theorem MS.mk' {K:PC} {w wx:World} {at_:Nat} {r:List Tk} (h:MS K w wx at_ r):MS (K.mk' K.wr) w wx at_ r:=h
def Lg (wx:World) (b:Nat) (nm:Bt) (sz:Int):Prop:=wx.heap[b]?=some (.cells #[.string (st nm),.int .i64 sz] 62 (0,0))
section
variable {wx wy:World} {b:Nat} {nm:Bt} {sz:Int}
theorem Lg.lt (h:Lg wx b nm sz):b<wx.heap.size:=heap_lt h
theorem Lg.al (h:Lg wx b nm sz) (o:Obj):Lg (wx.alloc o) b nm sz:=(Below.heap_alloc wx o b h.lt).trans h
theorem Lg.be (h:Lg wx b nm sz) (hb:Below wx.heap.size wx wy):Lg wy b nm sz:=(hb.block b h.lt).trans h
theorem Lg.grw {row:Option Nat} (h:Lg wx b nm sz) (hg:wx.grownBy wy row) (hn:row≠some b):Lg wy b nm sz:=(hg.block b h.lt (fun e=>hn e.symm)).trans h
theorem Lg.s1 (h:Lg wx b nm sz) {p:Addr} {v:Value} (hn:b≠p.block):Lg (wx.setCell p v) b nm sz:=(heap_setCell_other wx p b v hn).trans h
theorem Lg.ss (h:Lg wx b nm sz) (z:Int):Lg (wx.setCell ⟨b,1,none⟩ (.int .i64 z)) b nm z:=heap_setCell_same wx b 1 _ _ _ h
theorem Lg.st2 (h:Lg wx b nm sz) (n2:Bt) (z:Int):Lg ((wx.setCell ⟨b,0,none⟩ (.string (st n2))).setCell ⟨b,1,none⟩ (.int .i64 z)) b n2 z:=heap_setCell_same _ b 1 _ _ _ (heap_setCell_same wx b 0 _ _ _ h)
theorem Lg.cells (h:Lg wx b nm sz):wx.cell? ⟨b,0,none⟩=some (.string (st nm))/\wx.cell? ⟨b,1,none⟩=some (.int .i64 sz):=⟨cell_of_row _ b 0 _ _ _ h,cell_of_row _ b 1 _ _ _ h⟩
theorem Lg.froz (h:Lg wx b nm sz):wx.frozen? ⟨b,0,none⟩=false/\wx.frozen? ⟨b,1,none⟩=false:=⟨frozen_of_row _ b 0 _ _ h,frozen_of_row _ b 1 _ _ h⟩
theorem Lg.new (w:World) (nm:Bt) (sz:Int):Lg (w.alloc (.cells #[.string (st nm),.int .i64 sz] 62)) w.heap.size nm sz:=heap_alloc_new w _
end
abbrev glv (nm:Bt) (sz:Int):Value:=.agg #[.string (st nm),.int .i64 sz]
def GlQ (K:PC) (rest:List Tk) (w:World) (e:Ending) (w':World):Prop :=
 ∃ (nm:Bt) (sz wr:Int) (ok:Bool) (at2:Nat) (r:List Tk),e=.returned (.tuple #[glv nm sz,.bool ok])/\PAt w' (K.mk' wr) at2 r/\r.length<=rest.length/\w.grownBy w' (some K.g) /\
  Hid ((ok=true/\glP K.wr rest=.ok nm sz wr r/\r.length<rest.length)\/(ok=false/\glP K.wr rest=.bad r))
theorem gq_fin {K:PC} {rest r:List Tk} {at2 gR:Nat} {w wx:World} {n0:Bt} {z0 wr:Int} (M:MS (K.mk' wr) w wx at2 r) (R:Lg wx gR n0 z0) (b1:w.heap.size<=gR) (hl:r.length<=rest.length) (nm:Bt) (sz:Int) (ok:Bool)
  (hres:(ok=true/\glP K.wr rest=.ok nm sz wr r/\r.length<rest.length)\/(ok=false/\glP K.wr rest=.bad r)) (W:World) (hW:W=(wx.setCell ⟨gR,0,none⟩ (.string (st nm))).setCell ⟨gR,1,none⟩ (.int .i64 sz)) :
  Lg W gR nm sz/\GlQ K rest w (.returned (.tuple #[glv nm sz,.bool ok])) W:=by
 subst hW
 have h2:=(M.sc (p:=⟨gR,0,none⟩) b1 (.string (st nm))).sc (p:=⟨gR,1,none⟩) b1 (.int .i64 sz)
 exact⟨R.st2 nm sz,nm,sz,wr,ok,at2,r,rfl,h2.pat,hl,h2.gr,Lib.hid hres⟩
set_option maxRecDepth 100000 in
set_option maxHeartbeats 16000000 in
theorem global_any (K:PC) (at_:Nat) (rest:List Tk) (w:World) (hP:PAt w K at_ rest):Calls Tryd.prog 25 #[.pointer (some ⟨K.g,0,none⟩)] w (GlQ K rest w):=by
 have HM1:=Lib.hid ((MS.init hP).al (.cells #[.string (st []),.int .i64 0] 62))
 have HR1:=Lib.hid (Lg.new w [] 0)
 have HRT:Hid (rest.tail.length<rest.length):=Lib.hid (by obtain⟨x,r,e⟩:=hP.en.cons;rw [e];simp)
 clear hP
 go_enter Tryd.func25,Tryd.ntmps25
 go_upto_region 1 with fail
 obtain⟨w1,hw1⟩ : ∃ W,w.alloc (.cells #[.string (st []),.int .i64 0] 62)=W:=⟨_,rfl⟩
 obtain⟨gR,hgR⟩ : ∃ x,w.heap.size=x:=⟨_,rfl⟩
 (try rw [show w.alloc (.cells #[.string { data := #[] },.int .i64 0] 62)=w1 from hw1])
 rw [hw1] at HM1 HR1
 rw [hgR] at HR1
 (try rw [hgR])
 have HGR:=Lib.hid hgR
 clear hw1 hgR
 go_wp2_with fail
 refine(name_any K at_ rest w1 HM1.out.pat).mono ?_
 rintro e w2 ⟨at2,r2,hp2,hg2,hc2⟩
 have HM2:=Lib.hid (HM1.out.call hp2 hg2)
 have HR2:=Lib.hid (HR1.out.grw hg2 (by have:=HM1.out.gl;have:=HGR.out;intro e;injection e with e;omega))
 clear hp2 hg2 HM1 HR1
 obtain⟨nm,hnm⟩ : ∃ x,tOf rest=x:=⟨_,rfl⟩
 have HNM:=Lib.hid hnm
 (try rw [hnm] at hc2)
 clear hnm
 rcases hc2 with⟨hk1,rfl,ha2,hr2⟩ | ⟨hk1,rfl,ha2,hr2⟩ <;> subst at2 r2
 rotate_left
 ·have HK1:=Lib.hid hk1
  clear hk1
  obtain⟨y0,y1⟩:=HR2.out.cells
  obtain⟨g0,g1⟩:=HR2.out.froz
  have hlR:=HR2.out.lt
  go_wp2_with fail
  have hfin:=gq_fin (K:=K) (rest:=rest) (wr:=K.wr) HM2.out HR2.out (show w.heap.size<=gR by have:=HGR.out;omega) (Nat.le_refl _) [] 0 false (.inr ⟨rfl,by unfold glP;rw [if_neg HK1.out]⟩)
  obtain⟨wz,hwz⟩ : ∃ W,(w2.setCell ⟨gR,0,none⟩ (.string (st []))).setCell ⟨gR,1,none⟩ (.int .i64 0)=W:=⟨_,rfl⟩
  (try rw [hwz])
  obtain⟨hd,hep⟩:=hfin wz hwz.symm
  obtain⟨d0,d1⟩:=hd.cells
  clear hfin
  go_wp2_with fail
  refine bodyPost_ret (v:=.tuple #[glv [] 0,.bool false]) (by simp [results,Tryd.results25,go_sem,d0,d1]) rfl ?_
  exact hep
 ·have HK1:=Lib.hid hk1
  clear hk1
  have HM3:=Lib.hid (HM2.out.al (.cells #[.string (st nm),.int .i64 0] 62))
  have HR3:=Lib.hid (HR2.out.al (.cells #[.string (st nm),.int .i64 0] 62))
  have HL3:=Lib.hid (Lg.new w2 nm 0)
  have HNE:Hid (gR<w2.heap.size):=Lib.hid HR2.out.lt
  go_upto_region 5 with fail
  obtain⟨w3,hw3⟩ : ∃ W,w2.alloc (.cells #[.string (st nm),.int .i64 0] 62)=W:=⟨_,rfl⟩
  obtain⟨gs,hgs⟩ : ∃ x,w2.heap.size=x:=⟨_,rfl⟩
  (try rw [hw3])
  rw [hw3] at HM3 HR3 HL3
  rw [hgs] at HL3 HNE
  (try rw [hgs])
  clear hw3 hgs HM2 HR2
  have hgl:=HM3.out.gl
  have hgr:w.heap.size<=gR:=by have:=HGR.out;omega
  have hne:gR<gs:=HNE.out
  go_wp2_with fail
  refine(accept_any K (at_+1) rest.tail [91] w3 HM3.out.pat).mono ?_
  rintro e w4 ⟨at4,r4,rfl,hp4,hg4,hc4⟩
  have HM4:=Lib.hid (HM3.out.call hp4 hg4)
  have HR4:=Lib.hid (HR3.out.grw hg4 (by intro e;injection e with e;omega))
  have HL4:=Lib.hid (HL3.out.grw hg4 (by intro e;injection e with e;omega))
  clear hp4 hg4 HM3 HR3 HL3
  rcases hc4 with⟨hT,ha4,hr4⟩ | ⟨hT,ha4,hr4⟩ <;> subst at4 r4
  rotate_left
  ·have HB1:=Lib.hid hT
   (try rw [hT])
   clear hT
   go_upto_region 15 with fail
   obtain⟨s0,s1⟩:=HL4.out.cells
   obtain⟨wd,hwd⟩ : ∃ W,w4.drew=W:=⟨_,rfl⟩
   have HMd:=Lib.hid (show MS K w wd (at_+1) rest.tail by rw [<- hwd];exact HM4.out.be (Below.refl _ _).drew)
   have HRd:=Lib.hid (show Lg wd gR [] 0 by rw [<- hwd];exact HR4.out)
   have HLd:=Lib.hid (show Lg wd gs nm 0 by rw [<- hwd];exact HL4.out)
   refine wp_region_held_drew (S:=(fun w'=>w'.cell? ⟨gs,0,none⟩=some (.string (st nm))/\w'.cell? ⟨gs,1,none⟩=some (.int .i64 0))) (by kernel_rfl) (by rw [hwd];exact HLd.out.cells) (fun hHeld=>?_)
   rw [hwd] at hHeld ⊢
   clear hwd s0 s1
   refine tkH 0 60 ?_
   refine tkH 1 61 ?_
   refine rdH 2 fun K0 hK=>?_
   go_simp
   refine(accept_any (K) (at_+1) rest.tail [59] _ HMd.out.pat).mono ?_
   rintro e w9 ⟨at9,r9,rfl,hp9,hg9,hc9⟩
   have HM9:=Lib.hid (HMd.out.call hp9 hg9)
   have HR9:=Lib.hid (HRd.out.grw hg9 (by intro e;injection e with e;have e2:K.g=gR:=e;omega))
   have HL9:=Lib.hid (HLd.out.grw hg9 (by intro e;injection e with e;have e2:K.g=gs:=e;omega))
   refine goH hK HL9.out.cells fun hHeld=>?_
   clear hK K0 hp9 hg9
   have HC9:=Lib.hid hc9
   obtain⟨b59,hb59⟩ : ∃ b,isT [59] rest.tail=b:=⟨_,rfl⟩
   have HB59:=Lib.hid hb59
   (try rw [hb59])
   clear hb59 hc9
   obtain⟨y0,y1⟩:=HR9.out.cells
   obtain⟨g0,g1⟩:=HR9.out.froz
   have hlR:=HR9.out.lt
   refine rdH 3 fun K0 hK=>?_
   go_simp
   refine goH hK ⟨cell_setn _ (by omega) (cell_setn _ (by omega) hHeld.1),cell_setn _ (by omega) (cell_setn _ (by omega) hHeld.2)⟩ fun hHeld=>?_
   clear hK K0
   refine tkH 4 3 ?_
   refine wpAnyH_done (by kernel_rfl) ?_ _
   (try simp only [Act.put,List.setIfInBounds_toArray,List.set_cons_zero,List.set_cons_succ])
   clear y0 y1 g0 g1 hlR hHeld
   have hfin:=gq_fin (K:=K) (rest:=rest) (wr:=(K).wr) HM9.out HR9.out hgr (by rcases HC9.out with⟨_,_,e⟩ | ⟨_,_,e⟩ <;> (rw [e];have:=HRT.out;simp only [List.length_tail] at *;omega)) nm 0 b59 (by
    rcases HC9.out with⟨h1,_,e⟩ | ⟨h1,_,e⟩
    ·exact .inl ⟨by rw [<- HB59.out];exact h1,by rw [e];unfold glP;rw [if_pos HK1.out,if_neg (by rw [HB1.out];simp),if_pos h1,HNM.out],by rw [e];have:=HRT.out;simp only [List.length_tail] at *;omega⟩
    ·exact .inr ⟨by rw [<- HB59.out];exact h1,by rw [e];unfold glP;rw [if_pos HK1.out,if_neg (by rw [HB1.out];simp),if_neg (by rw [h1];simp)]⟩)
   obtain⟨wz,hwz⟩ : ∃ W,(w9.setCell ⟨gR,0,none⟩ (.string (st nm))).setCell ⟨gR,1,none⟩ (.int .i64 0)=W:=⟨_,rfl⟩
   (try rw [hwz])
   obtain⟨hd,hep⟩:=hfin wz hwz.symm
   obtain⟨d0,d1⟩:=hd.cells
   clear hfin
   go_wp2_with fail
   refine bodyPost_ret (v:=.tuple #[glv nm 0,.bool b59]) (by simp [results,Tryd.results25,go_sem,d0,d1]) rfl ?_
   exact hep
  ·have HB1:=Lib.hid hT
   (try rw [hT])
   clear hT
   obtain⟨ap,hap⟩ : ∃ x,at_+1+1=x:=⟨_,rfl⟩
   rw [hap] at HM4
   clear hap
   obtain⟨⟨uk,un,uv,ut⟩,r1,hr1⟩:=HM4.out.pat.en.cons
   have HU:Hid (kOf rest.tail.tail=uk/\lnOf rest.tail.tail=un/\vOf rest.tail.tail=uv):=Lib.hid (by rw [hr1];exact⟨rfl,rfl,rfl⟩)
   have HLO:=Lib.hid (look_at K ap uk un uv ut r1 w4 (hr1▸HM4.out.pat))
   clear hr1
   go_wp2_with fail
   refine HLO.out.mono ?_
   rintro e w5 ⟨rfl,hb5⟩
   have HM6:=Lib.hid ((HM4.out.be hb5).al (.cells #[.int .i64 uk,.int .i64 un,.int .i64 uv,.string (st ut)] 56))
   have HR6:=Lib.hid ((HR4.out.be hb5).al (.cells #[.int .i64 uk,.int .i64 un,.int .i64 uv,.string (st ut)] 56))
   have HL6:=Lib.hid ((HL4.out.be hb5).al (.cells #[.int .i64 uk,.int .i64 un,.int .i64 uv,.string (st ut)] 56))
   have HT6:=Lib.hid (Lt.new w5 ⟨uk,un,uv,ut⟩)
   have HNT:Hid (gs<w5.heap.size):=Lib.hid (HL4.out.be hb5).lt
   clear hb5 HLO HM4 HR4 HL4
   go_upto_region 7 with fail
   obtain⟨w6,hw6⟩ : ∃ W,w5.alloc (.cells #[.int .i64 uk,.int .i64 un,.int .i64 uv,.string (st ut)] 56)=W:=⟨_,rfl⟩
   obtain⟨gt,hgt⟩ : ∃ x,w5.heap.size=x:=⟨_,rfl⟩
   have HT7:Hid (Lt w6 gt ⟨uk,un,uv,ut⟩):=Lib.hid (by rw [<- hw6,<- hgt];exact HT6.out)
   rw [hw6] at HM6 HR6 HL6
   rw [hgt] at HNT
   (try rw [hw6])
   (try rw [hgt])
   clear hw6 hgt HT6
   have hnt:gs<gt:=HNT.out
   obtain⟨t0,t1,t2,t3⟩:=HT7.out.cells
   (try dsimp only at t0 t1 t2 t3)
   have hlT:=HT7.out.lt
   by_cases hu2:uk=2
   rotate_left
   ·have d1:(uk==2)=false:=beq_eq_false_iff_ne.2 hu2
    have d2:(uk != 2)=true:=bne_iff_ne.2 hu2
    have HU2:=Lib.hid hu2
    clear hu2
    obtain⟨s0,s1⟩:=HL6.out.cells
    have hlS:=HL6.out.lt
    obtain⟨y0,y1⟩:=HR6.out.cells
    obtain⟨g0,g1⟩:=HR6.out.froz
    have hlR:=HR6.out.lt
    go_wp2_with fail
    have hfin:=gq_fin (K:=K) (rest:=rest) (wr:=K.wr) HM6.out HR6.out (show w.heap.size<=gR by have:=HGR.out;omega) (by have:=HRT.out;simp only [List.length_tail] at *;omega) nm 0 false (.inr ⟨rfl,by unfold glP;rw [if_pos HK1.out,if_pos HB1.out,if_neg (by rw [HU.out.1];exact HU2.out)]⟩)
    obtain⟨wz,hwz⟩ : ∃ W,(w6.setCell ⟨gR,0,none⟩ (.string (st nm))).setCell ⟨gR,1,none⟩ (.int .i64 0)=W:=⟨_,rfl⟩
    (try rw [hwz])
    obtain⟨hd,hep⟩:=hfin wz hwz.symm
    obtain⟨d0,d1⟩:=hd.cells
    clear hfin
    go_wp2_with fail
    refine bodyPost_ret (v:=.tuple #[glv nm 0,.bool false]) (by simp [results,Tryd.results25,go_sem,d0,d1]) rfl ?_
    exact hep
   ·subst hu2
    obtain⟨-,p1,p2,f1,f2,hlp⟩:=HM6.out.pat.cells
    obtain⟨s0,s1⟩:=HL6.out.cells
    obtain⟨j0,j1⟩:=HL6.out.froz
    have hlS:=HL6.out.lt
    have hw1:=HM6.out.w1
    have HM7:=Lib.hid ((HM6.out.step (by rw [HU.out.1];decide)).sc (p:=⟨gs,1,none⟩) (by show w.heap.size<=gs;omega) (.int .i64 uv))
    have HR7:=Lib.hid ((HR6.out.s1 (p:=⟨K.g,1,none⟩) (v:=.int .i64 ((ap:Int)+1)) (by show gR≠K.g;omega)).s1 (p:=⟨gs,1,none⟩) (v:=.int .i64 uv) (by show gR≠gs;omega))
    have HL7:=Lib.hid ((HL6.out.s1 (p:=⟨K.g,1,none⟩) (v:=.int .i64 ((ap:Int)+1)) (by show gs≠K.g;omega)).ss uv)
    have HT8:=Lib.hid ((HT7.out.s1 (p:=⟨K.g,1,none⟩) (v:=.int .i64 ((ap:Int)+1)) (by show gt≠K.g;omega)).s1 (p:=⟨gs,1,none⟩) (v:=.int .i64 uv) (by show gt≠gs;omega))
    have s0':=(HL6.out.s1 (p:=⟨K.g,1,none⟩) (v:=.int .i64 ((ap:Int)+1)) (by show gs≠K.g;omega)).cells
    go_upto_region 11 with fail
    obtain⟨w7,hw7⟩ : ∃ W,(w6.setCell ⟨K.g,1,none⟩ (.int .i64 ((ap:Int)+1))).setCell ⟨gs,1,none⟩ (.int .i64 uv)=W:=⟨_,rfl⟩
    rw [hw7] at HM7 HR7 HL7 HT8
    (try rw [hw7])
    clear hw7 s0' p1 p2 f1 f2 hlp s0 s1 j0 j1 hlS hw1 t0 t1 t2 t3 hlT HM6 HR6 HL6 HT7
    obtain⟨kw,hkw⟩ : ∃ x,K.wr=x:=⟨_,rfl⟩
    have HKW:=Lib.hid hkw
    obtain⟨-,-,p2,-,f2,hlp⟩:=HM7.out.pat.cells
    rw [hkw] at p2
    clear hkw
    obtain⟨s0,s1⟩:=HL7.out.cells
    have hlS:=HL7.out.lt
    obtain⟨t0,t1,t2,t3⟩:=HT8.out.cells
    (try dsimp only at t0 t1 t2 t3)
    have hlT:=HT8.out.lt
    obtain⟨bw,hbw⟩ : ∃ b,((decide (uv<1)||decide (1024<uv))&&(kw==0))=b:=⟨_,rfl⟩
    have HBW:Hid (((decide (uv<1)||decide (1024<uv))&&(kw==0))=bw):=Lib.hid hbw
    clear hbw
    go_cut [50] from 36 to 50 (fun v50 wx=>v50=.bool bw/\wx=w7)
    case first =>
     by_cases h1:uv<1
     ·have e1:decide (uv<1)=true:=decide_eq_true h1
      cases e3:(kw==0)
      ·obtain rfl:bw=false:=by rw [<- HBW.out,e1,e3];rfl
       go_wp2_with fail
       go_meet
       exact⟨rfl,rfl⟩
      ·obtain rfl:bw=true:=by rw [<- HBW.out,e1,e3];rfl
       go_wp2_with fail
       go_meet
       exact⟨rfl,rfl⟩
     ·have e1:decide (uv<1)=false:=decide_eq_false h1
      by_cases h2:1024<uv
      ·have e2:decide (1024<uv)=true:=decide_eq_true h2
       cases e3:(kw==0)
       ·obtain rfl:bw=false:=by rw [<- HBW.out,e1,e2,e3];rfl
        go_wp2_with fail
        go_meet
        exact⟨rfl,rfl⟩
       ·obtain rfl:bw=true:=by rw [<- HBW.out,e1,e2,e3];rfl
        go_wp2_with fail
        go_meet
        exact⟨rfl,rfl⟩
      ·have e2:decide (1024<uv)=false:=decide_eq_false h2
       obtain rfl:bw=false:=by rw [<- HBW.out,e1,e2];rfl
       go_wp2_with fail
       go_meet
       exact⟨rfl,rfl⟩
    case rest =>
    obtain⟨rfl,hwx⟩:=hcut
    rw [hwx]
    cases bw
    ·have HWR:Hid (wrOf uv un K.wr=K.wr):=Lib.hid (by
      unfold wrOf
      rw [if_neg]
      intro hc
      have:=HBW.out
      rw [<- HKW.out] at this
      rw [hc.2] at this
      rcases hc.1 with h | h
      ·rw [decide_eq_true h] at this;simp at this
      ·rw [decide_eq_true h] at this;simp at this)
     go_wp2_with fail
     refine(accept_any K (ap+1) rest.tail.tail.tail [93] w7 HM7.out.pat).mono ?_
     rintro e wA ⟨at5,r5,rfl,hp5,hg5,hc5⟩
     have HMA:=Lib.hid (HM7.out.call hp5 hg5)
     have HRA:=Lib.hid (HR7.out.grw hg5 (by intro e;injection e with e;have e2:K.g=gR:=e;omega))
     have HLA:=Lib.hid (HL7.out.grw hg5 (by intro e;injection e with e;have e2:K.g=gs:=e;omega))
     clear hp5 hg5
     rcases hc5 with⟨hT,ha5,hr5⟩ | ⟨hT,ha5,hr5⟩ <;> subst at5 r5
     rotate_left
     ·have HC:=Lib.hid hT
      (try rw [hT])
      clear hT
      obtain⟨s0,s1⟩:=HLA.out.cells
      have hlS:=HLA.out.lt
      obtain⟨y0,y1⟩:=HRA.out.cells
      obtain⟨g0,g1⟩:=HRA.out.froz
      have hlR:=HRA.out.lt
      go_wp2_with fail
      have hfin:=gq_fin (K:=K) (rest:=rest) (wr:=K.wr) HMA.out HRA.out (show w.heap.size<=gR by have:=HGR.out;omega) (by have:=HRT.out;simp only [List.length_tail] at *;omega) nm uv false (.inr ⟨rfl,by unfold glP;rw [if_pos HK1.out,if_pos HB1.out,if_pos HU.out.1,if_neg (by rw [HC.out];simp)]⟩)
      obtain⟨wz,hwz⟩ : ∃ W,(wA.setCell ⟨gR,0,none⟩ (.string (st nm))).setCell ⟨gR,1,none⟩ (.int .i64 uv)=W:=⟨_,rfl⟩
      (try rw [hwz])
      obtain⟨hd,hep⟩:=hfin wz hwz.symm
      obtain⟨d0,d1⟩:=hd.cells
      clear hfin
      go_wp2_with fail
      refine bodyPost_ret (v:=.tuple #[glv nm uv,.bool false]) (by simp [results,Tryd.results25,go_sem,d0,d1]) rfl ?_
      exact hep
     ·have HC:=Lib.hid hT
      (try rw [hT])
      clear hT
      go_upto_region 15 with fail
      obtain⟨s0,s1⟩:=HLA.out.cells
      obtain⟨wd,hwd⟩ : ∃ W,wA.drew=W:=⟨_,rfl⟩
      have HMd:=Lib.hid (show MS K w wd (ap+1+1) rest.tail.tail.tail.tail by rw [<- hwd];exact HMA.out.be (Below.refl _ _).drew)
      have HRd:=Lib.hid (show Lg wd gR [] 0 by rw [<- hwd];exact HRA.out)
      have HLd:=Lib.hid (show Lg wd gs nm uv by rw [<- hwd];exact HLA.out)
      refine wp_region_held_drew (S:=(fun w'=>w'.cell? ⟨gs,0,none⟩=some (.string (st nm))/\w'.cell? ⟨gs,1,none⟩=some (.int .i64 uv))) (by kernel_rfl) (by rw [hwd];exact HLd.out.cells) (fun hHeld=>?_)
      rw [hwd] at hHeld ⊢
      clear hwd s0 s1
      refine tkH 0 60 ?_
      refine tkH 1 61 ?_
      refine rdH 2 fun K0 hK=>?_
      go_simp
      refine(accept_any (K) (ap+1+1) rest.tail.tail.tail.tail [59] _ HMd.out.pat).mono ?_
      rintro e w9 ⟨at9,r9,rfl,hp9,hg9,hc9⟩
      have HM9:=Lib.hid (HMd.out.call hp9 hg9)
      have HR9:=Lib.hid (HRd.out.grw hg9 (by intro e;injection e with e;have e2:K.g=gR:=e;omega))
      have HL9:=Lib.hid (HLd.out.grw hg9 (by intro e;injection e with e;have e2:K.g=gs:=e;omega))
      refine goH hK HL9.out.cells fun hHeld=>?_
      clear hK K0 hp9 hg9
      have HC9:=Lib.hid hc9
      obtain⟨b59,hb59⟩ : ∃ b,isT [59] rest.tail.tail.tail.tail=b:=⟨_,rfl⟩
      have HB59:=Lib.hid hb59
      (try rw [hb59])
      clear hb59 hc9
      obtain⟨y0,y1⟩:=HR9.out.cells
      obtain⟨g0,g1⟩:=HR9.out.froz
      have hlR:=HR9.out.lt
      refine rdH 3 fun K0 hK=>?_
      go_simp
      refine goH hK ⟨cell_setn _ (by omega) (cell_setn _ (by omega) hHeld.1),cell_setn _ (by omega) (cell_setn _ (by omega) hHeld.2)⟩ fun hHeld=>?_
      clear hK K0
      refine tkH 4 3 ?_
      refine wpAnyH_done (by kernel_rfl) ?_ _
      (try simp only [Act.put,List.setIfInBounds_toArray,List.set_cons_zero,List.set_cons_succ])
      clear y0 y1 g0 g1 hlR hHeld
      have hfin:=gq_fin (K:=K) (rest:=rest) (wr:=(K).wr) HM9.out HR9.out hgr (by rcases HC9.out with⟨_,_,e⟩ | ⟨_,_,e⟩ <;> (rw [e];have:=HRT.out;simp only [List.length_tail] at *;omega)) nm uv b59 (by
       rcases HC9.out with⟨h1,_,e⟩ | ⟨h1,_,e⟩
       ·exact .inl ⟨by rw [<- HB59.out];exact h1,by rw [e];unfold glP;rw [if_pos HK1.out,if_pos HB1.out,if_pos HU.out.1,if_pos HC.out,if_pos h1,HNM.out,HU.out.2.1,HU.out.2.2,HWR.out],by rw [e];have:=HRT.out;simp only [List.length_tail] at *;omega⟩
       ·exact .inr ⟨by rw [<- HB59.out];exact h1,by rw [e];unfold glP;rw [if_pos HK1.out,if_pos HB1.out,if_pos HU.out.1,if_pos HC.out,if_neg (by rw [h1];simp)]⟩)
      obtain⟨wz,hwz⟩ : ∃ W,(w9.setCell ⟨gR,0,none⟩ (.string (st nm))).setCell ⟨gR,1,none⟩ (.int .i64 uv)=W:=⟨_,rfl⟩
      (try rw [hwz])
      obtain⟨hd,hep⟩:=hfin wz hwz.symm
      obtain⟨d0,d1⟩:=hd.cells
      clear hfin
      go_wp2_with fail
      refine bodyPost_ret (v:=.tuple #[glv nm uv,.bool b59]) (by simp [results,Tryd.results25,go_sem,d0,d1]) rfl ?_
      exact hep
    ·have HWR:Hid (wrOf uv un K.wr=un):=Lib.hid (by
      have:=HBW.out
      simp only [Bool.and_eq_true,Bool.or_eq_true,decide_eq_true_eq,beq_iff_eq] at this
      unfold wrOf
      rw [if_pos ⟨this.1,by rw [HKW.out];exact this.2⟩])
     have HM8:=Lib.hid (HM7.out.wr un)
     have HR8:=Lib.hid (HR7.out.s1 (p:=⟨K.g,2,none⟩) (v:=.int .i64 un) (by show gR≠K.g;omega))
     have HL8:=Lib.hid (HL7.out.s1 (p:=⟨K.g,2,none⟩) (v:=.int .i64 un) (by show gs≠K.g;omega))
     go_upto_region 13 with fail
     obtain⟨w8,hw8⟩ : ∃ W,w7.setCell ⟨K.g,2,none⟩ (.int .i64 un)=W:=⟨_,rfl⟩
     rw [hw8] at HM8 HR8 HL8
     (try rw [hw8])
     clear hw8 p2 f2 hlp s0 s1 hlS t0 t1 t2 t3 hlT HM7 HR7 HL7 HT8
     go_wp2_with fail
     refine(accept_any (K.mk' un) (ap+1) rest.tail.tail.tail [93] w8 HM8.out.pat).mono ?_
     rintro e wA ⟨at5,r5,rfl,hp5,hg5,hc5⟩
     have HMA:=Lib.hid (HM8.out.call hp5 hg5)
     have HRA:=Lib.hid (HR8.out.grw hg5 (by intro e;injection e with e;have e2:K.g=gR:=e;omega))
     have HLA:=Lib.hid (HL8.out.grw hg5 (by intro e;injection e with e;have e2:K.g=gs:=e;omega))
     clear hp5 hg5
     rcases hc5 with⟨hT,ha5,hr5⟩ | ⟨hT,ha5,hr5⟩ <;> subst at5 r5
     rotate_left
     ·have HC:=Lib.hid hT
      (try rw [hT])
      clear hT
      obtain⟨s0,s1⟩:=HLA.out.cells
      have hlS:=HLA.out.lt
      obtain⟨y0,y1⟩:=HRA.out.cells
      obtain⟨g0,g1⟩:=HRA.out.froz
      have hlR:=HRA.out.lt
      go_wp2_with fail
      have hfin:=gq_fin (K:=K) (rest:=rest) (wr:=un) HMA.out HRA.out (show w.heap.size<=gR by have:=HGR.out;omega) (by have:=HRT.out;simp only [List.length_tail] at *;omega) nm uv false (.inr ⟨rfl,by unfold glP;rw [if_pos HK1.out,if_pos HB1.out,if_pos HU.out.1,if_neg (by rw [HC.out];simp)]⟩)
      obtain⟨wz,hwz⟩ : ∃ W,(wA.setCell ⟨gR,0,none⟩ (.string (st nm))).setCell ⟨gR,1,none⟩ (.int .i64 uv)=W:=⟨_,rfl⟩
      (try rw [hwz])
      obtain⟨hd,hep⟩:=hfin wz hwz.symm
      obtain⟨d0,d1⟩:=hd.cells
      clear hfin
      go_wp2_with fail
      refine bodyPost_ret (v:=.tuple #[glv nm uv,.bool false]) (by simp [results,Tryd.results25,go_sem,d0,d1]) rfl ?_
      exact hep
     ·have HC:=Lib.hid hT
      (try rw [hT])
      clear hT
      go_upto_region 15 with fail
      obtain⟨s0,s1⟩:=HLA.out.cells
      obtain⟨wd,hwd⟩ : ∃ W,wA.drew=W:=⟨_,rfl⟩
      have HMd:=Lib.hid (show MS (K.mk' un) w wd (ap+1+1) rest.tail.tail.tail.tail by rw [<- hwd];exact HMA.out.be (Below.refl _ _).drew)
      have HRd:=Lib.hid (show Lg wd gR [] 0 by rw [<- hwd];exact HRA.out)
      have HLd:=Lib.hid (show Lg wd gs nm uv by rw [<- hwd];exact HLA.out)
      refine wp_region_held_drew (S:=(fun w'=>w'.cell? ⟨gs,0,none⟩=some (.string (st nm))/\w'.cell? ⟨gs,1,none⟩=some (.int .i64 uv))) (by kernel_rfl) (by rw [hwd];exact HLd.out.cells) (fun hHeld=>?_)
      rw [hwd] at hHeld ⊢
      clear hwd s0 s1
      refine tkH 0 60 ?_
      refine tkH 1 61 ?_
      refine rdH 2 fun K0 hK=>?_
      go_simp
      refine(accept_any ((K.mk' un)) (ap+1+1) rest.tail.tail.tail.tail [59] _ HMd.out.pat).mono ?_
      rintro e w9 ⟨at9,r9,rfl,hp9,hg9,hc9⟩
      have HM9:=Lib.hid (HMd.out.call hp9 hg9)
      have HR9:=Lib.hid (HRd.out.grw hg9 (by intro e;injection e with e;have e2:K.g=gR:=e;omega))
      have HL9:=Lib.hid (HLd.out.grw hg9 (by intro e;injection e with e;have e2:K.g=gs:=e;omega))
      refine goH hK HL9.out.cells fun hHeld=>?_
      clear hK K0 hp9 hg9
      have HC9:=Lib.hid hc9
      obtain⟨b59,hb59⟩ : ∃ b,isT [59] rest.tail.tail.tail.tail=b:=⟨_,rfl⟩
      have HB59:=Lib.hid hb59
      (try rw [hb59])
      clear hb59 hc9
      obtain⟨y0,y1⟩:=HR9.out.cells
      obtain⟨g0,g1⟩:=HR9.out.froz
      have hlR:=HR9.out.lt
      refine rdH 3 fun K0 hK=>?_
      go_simp
      refine goH hK ⟨cell_setn _ (by omega) (cell_setn _ (by omega) hHeld.1),cell_setn _ (by omega) (cell_setn _ (by omega) hHeld.2)⟩ fun hHeld=>?_
      clear hK K0
      refine tkH 4 3 ?_
      refine wpAnyH_done (by kernel_rfl) ?_ _
      (try simp only [Act.put,List.setIfInBounds_toArray,List.set_cons_zero,List.set_cons_succ])
      clear y0 y1 g0 g1 hlR hHeld
      have hfin:=gq_fin (K:=K) (rest:=rest) (wr:=((K.mk' un)).wr) HM9.out HR9.out hgr (by rcases HC9.out with⟨_,_,e⟩ | ⟨_,_,e⟩ <;> (rw [e];have:=HRT.out;simp only [List.length_tail] at *;omega)) nm uv b59 (by
       rcases HC9.out with⟨h1,_,e⟩ | ⟨h1,_,e⟩
       ·exact .inl ⟨by rw [<- HB59.out];exact h1,by rw [e];unfold glP;rw [if_pos HK1.out,if_pos HB1.out,if_pos HU.out.1,if_pos HC.out,if_pos h1,HNM.out,HU.out.2.1,HU.out.2.2,HWR.out],by rw [e];have:=HRT.out;simp only [List.length_tail] at *;omega⟩
       ·exact .inr ⟨by rw [<- HB59.out];exact h1,by rw [e];unfold glP;rw [if_pos HK1.out,if_pos HB1.out,if_pos HU.out.1,if_pos HC.out,if_neg (by rw [h1];simp)]⟩)
      obtain⟨wz,hwz⟩ : ∃ W,(w9.setCell ⟨gR,0,none⟩ (.string (st nm))).setCell ⟨gR,1,none⟩ (.int .i64 uv)=W:=⟨_,rfl⟩
      (try rw [hwz])
      obtain⟨hd,hep⟩:=hfin wz hwz.symm
      obtain⟨d0,d1⟩:=hd.cells
      clear hfin
      go_wp2_with fail
      refine bodyPost_ret (v:=.tuple #[glv nm uv,.bool b59]) (by simp [results,Tryd.results25,go_sem,d0,d1]) rfl ?_
      exact hep
end Go.Proofs.YtpcdinelpfbpfaaDoor
