/-
  WALK of the implementation's parser's source. (Filled in from a template of this repo.)
-/
import Derived.Test.YtpcdinelpfbpfaaDoorPqO
namespace Go.Proofs.YtpcdinelpfbpfaaDoor
open Go.ChangeShapes Go.WideShapes Go.ChangeAt Go.RowKit
set_option linter.unusedVariables false
set_option linter.unusedSimpArgs false

theorem Tryd.infoGlb:(Tryd.prog.info? 62).map (fun i=>(i.zero,i.size,i.bytes))=some (some (.agg #[.string ⟨#[]⟩,.int .i64 0]),2,24):=by kernel_rfl
theorem Tryd.infoFun:(Tryd.prog.info? 66).map (fun i=>(i.zero,i.size,i.bytes))=some (some (.agg #[.string ⟨#[]⟩,.int .i64 0,.slice none 0 0,.slice none 0 0]),4,72):=by kernel_rfl
section
variable {K:PC} {w wx wy:World} {gR go:Nat} {wr wr2:Int} {gs:List (Bt×Int)} {fs:List Fu} {va vb:Value} {ng nf:Nat} {ys:List Value} {at2 at3:Nat} {r r3:List Tk}
theorem OD.zero (hP:PAt w K at2 r) (hg:w.heap.size+1=go) (hw:K.wr=wr):OD K w w.heap.size go wr [] [] nilS 0 nilS 0 [] at2 r ((w.alloc zsrc).alloc zsrc):=by
 subst hg hw
 refine⟨((MS.init hP).al zsrc).al zsrc,(Lo.zero w).al zsrc,?_,World.ownsRow_nil _ _ _ _,rfl,World.ownsRow_nil _ _ _ _,rfl,rfl,⟨Nat.le_refl _,by omega⟩,⟨(fun e=>nomatch e),(fun e=>nomatch e)⟩,⟨(fun e=>nomatch e),(fun e=>nomatch e)⟩,.inl rfl⟩
 have h:=Lo.zero (w.alloc zsrc)
 have e:(w.alloc zsrc).heap.size=w.heap.size+1:=by simp
 rw [e] at h
 exact h
theorem OD.al (d:OD K w gR go wr gs fs va ng vb nf ys at2 r wx) (o:Obj):OD K w gR go wr gs fs va ng vb nf ys at2 r (wx.alloc o):=d.be (below_alloc wx o)
theorem OD.pg (d:OD K w gR go wr gs fs va ng vb nf ys at2 r wx) {g9 c9:Nat} {w9:World} {x:Bt×Int} {ob:Obj} (hg9:(wx.alloc ob).grownBy w9 va.ownBlock) (h9:va.ownBlock=some g9\/g9=(wx.alloc ob).heap.size) (ho:w9.ownsRow w.heap.size 62 2 (.slice (some ⟨g9,0,none⟩) (ng+1) c9) (ng+1) (gcs gs++[.string (st x.1),.int .i64 x.2])) :
  OD K w gR go wr (gs++[x]) fs (.slice (some ⟨g9,0,none⟩) (ng+1) c9) (ng+1) vb nf ys at2 r (w9.setCell ⟨go,0,none⟩ (.slice (some ⟨g9,0,none⟩) (ng+1) c9))/\Lo w9 go va vb:=by
 have d':=d.al ob
 obtain⟨n1,n2⟩:=d.ne
 have l1:=d'.rc.lt
 have l2:=d'.oc.lt
 have q1:g9≠gR:=by rcases h9 with e | e;(intro e2;exact d.na.1 (by rw [e,e2]));omega
 have q2:g9≠go:=by rcases h9 with e | e;(intro e2;exact d.na.2 (by rw [e,e2]));omega
 have q3:vb.ownBlock≠some g9:=by
  intro e
  rcases h9 with e2 | e2
  ·rcases d.nab with h | h | h
   ·rw [h] at e2;cases e2
   ·rw [h] at e;cases e
   ·exact h (e2.trans e.symm)
  ·have:=(d'.of.lt _ e).2;omega
 have f9:=d'.oc.grw hg9 d.na.2
 refine⟨⟨(d'.ms.own hg9 (fun k2 e=>(d'.og.lt k2 e).1)).sc (p:=⟨go,0,none⟩) (by show _<=go;omega) _,(d'.rc.grw hg9 d.na.1).s1 (p:=⟨go,0,none⟩) (by show gR≠go;omega),f9.s0 _,?_,by simp [d.lg],?_,?_,d.lf,d.ne,⟨?_,?_⟩,d.nb,.inr (.inr (fun e=>q3 e.symm))⟩,f9⟩
 ·rw [gcs_snoc];exact ho.kept (grownBy_set w9 go 0 _) (.inr (by show some g9≠some go;simp;exact q2))
 ·refine(d'.of.kept hg9 ?_).kept (grownBy_set w9 go 0 _) (.inr d.nb.2)
  rcases d.nab with h | h | h
  ·rw [h]
   cases hv:vb.ownBlock with
   | none=>exact .inl rfl
   | some k=>exact .inr (fun e=>nomatch e)
  ·exact .inl h
  ·exact .inr (fun e=>h e.symm)
 ·refine d'.ff.keep (fun b hb hlt=>⟨?_,hb.1,hb.2.1,hb.2.2.1,?_,hb.2.2.2.2⟩) (Nat.le_trans hg9.size (by simp [World.setCell]))
  ·exact(heap_setCell_other _ _ _ _ (by show b≠go;exact hb.2.2.1)).trans (hg9.block b hlt hb.2.2.2.1)
  ·show some b≠some g9
   rcases h9 with e | e
   ·rw [<- e];exact hb.2.2.2.1
   ·intro e2;injection e2 with e2;omega
 ·show some g9≠some gR;simp;exact q1
 ·show some g9≠some go;simp;exact q2
theorem OD.pf (d:OD K w gR go wr gs fs va ng vb nf ys at2 r wx) {g9 c9:Nat} {w9:World} {x:Fu} {vp vq:Value} {ob:Obj} (hg9:(wx.alloc ob).grownBy w9 vb.ownBlock) (h9:vb.ownBlock=some g9\/g9=(wx.alloc ob).heap.size) (ho:w9.ownsRow w.heap.size 66 4 (.slice (some ⟨g9,0,none⟩) (nf+1) c9) (nf+1) (ys++[.string (st x.nm),.int .i64 x.ln,vp,vq]))
  (hp:PsAt wx (fun b=>w.heap.size<=b/\b≠gR/\b≠go/\some b≠va.ownBlock/\some b≠vb.ownBlock) x.ps vp) (hs:StsAt wx (fun b=>w.heap.size<=b/\b≠gR/\b≠go/\some b≠va.ownBlock/\some b≠vb.ownBlock) x.S vq) :
  OD K w gR go wr gs (fs++[x]) va ng (.slice (some ⟨g9,0,none⟩) (nf+1) c9) (nf+1) (ys++[.string (st x.nm),.int .i64 x.ln,vp,vq]) at2 r (w9.setCell ⟨go,1,none⟩ (.slice (some ⟨g9,0,none⟩) (nf+1) c9))/\Lo w9 go va vb:=by
 have d':=d.al ob
 obtain⟨n1,n2⟩:=d.ne
 have l1:=d'.rc.lt
 have l2:=d'.oc.lt
 have q1:g9≠gR:=by rcases h9 with e | e;(intro e2;exact d.nb.1 (by rw [e,e2]));omega
 have q2:g9≠go:=by rcases h9 with e | e;(intro e2;exact d.nb.2 (by rw [e,e2]));omega
 have q3:va.ownBlock≠some g9:=by
  intro e
  rcases h9 with e2 | e2
  ·rcases d.nab with h | h | h
   ·rw [h] at e;cases e
   ·rw [h] at e2;cases e2
   ·exact h (e.trans e2.symm)
  ·have:=(d'.og.lt _ e).2;omega
 have f9:=d'.oc.grw hg9 d.nb.2
 have hle:(wx.alloc ob).heap.size<=(w9.setCell ⟨go,1,none⟩ (.slice (some ⟨g9,0,none⟩) (nf+1) c9)).heap.size:=Nat.le_trans hg9.size (by simp [World.setCell])
 have key : ∀ b,(w.heap.size<=b/\b≠gR/\b≠go/\some b≠va.ownBlock/\some b≠vb.ownBlock)->b<wx.heap.size->(w9.setCell ⟨go,1,none⟩ (.slice (some ⟨g9,0,none⟩) (nf+1) c9)).heap[b]?=wx.heap[b]?/\(w.heap.size<=b/\b≠gR/\b≠go/\some b≠va.ownBlock/\some b≠(Value.slice (some ⟨g9,0,none⟩) (nf+1) c9).ownBlock):=fun b hb hlt =>
  ⟨(heap_setCell_other _ _ _ _ (by show b≠go;exact hb.2.2.1)).trans ((hg9.block b (by simp;omega) hb.2.2.2.2).trans (Below.heap_alloc wx ob b hlt)),hb.1,hb.2.1,hb.2.2.1,hb.2.2.2.1,by
   show some b≠some g9
   rcases h9 with e | e
   ·rw [<- e];exact hb.2.2.2.2
   ·intro e2;injection e2 with e2;simp at e;omega⟩
 have hsz:wx.heap.size<=(w9.setCell ⟨go,1,none⟩ (.slice (some ⟨g9,0,none⟩) (nf+1) c9)).heap.size:=Nat.le_trans (by simp) hle
 refine⟨⟨(d'.ms.own hg9 (fun k2 e=>(d'.of.lt k2 e).1)).sc (p:=⟨go,1,none⟩) (by show _<=go;omega) _,(d'.rc.grw hg9 d.nb.1).s1 (p:=⟨go,1,none⟩) (by show gR≠go;omega),f9.sf _,?_,d.lg,ho.kept (grownBy_set w9 go 1 _) (.inr (by show some g9≠some go;simp;exact q2)),(d.ff.keep key hsz).snoc (hp.keep key hsz) (hs.keep key hsz),by simp [d.lf],d.ne,d.na,⟨?_,?_⟩,.inr (.inr q3)⟩,f9⟩
 ·refine(d'.og.kept hg9 ?_).kept (grownBy_set w9 go 1 _) (.inr d.na.2)
  rcases d.nab with h | h | h
  ·exact .inl h
  ·rw [h]
   cases hv:va.ownBlock with
   | none=>exact .inl rfl
   | some k=>exact .inr (fun e=>nomatch e)
  ·exact .inr h
 ·show some g9≠some gR;simp;exact q1
 ·show some g9≠some go;simp;exact q2
theorem so_fin {ga fa:Option Addr} {gc fc:Nat} {rest:List Tk} (d:OD K w gR go wr gs fs (.slice ga ng gc) ng (.slice fa nf fc) nf ys at2 r wx) (ok:Bool) (hres:(ok=true/\So K.wr [] [] rest (.ok gs fs wr r))\/(ok=false/\So K.wr [] [] rest (.bad r))) (W:World) (hW:W=(wx.setCell ⟨gR,0,none⟩ (.slice ga ng gc)).setCell ⟨gR,1,none⟩ (.slice fa nf fc)) :
  Lo W gR (.slice ga ng gc) (.slice fa nf fc)/\SoQ K rest w (.returned (.tuple #[sov (.slice ga ng gc) (.slice fa nf fc),.bool ok])) W:=by
 subst hW
 obtain⟨n1,n2⟩:=d.ne
 have hm:=(d.ms.sc (p:=⟨gR,0,none⟩) n1 (.slice ga ng gc)).sc (p:=⟨gR,1,none⟩) n1 (.slice fa nf fc)
 refine⟨d.rc.s2 _ _,ga,ng,gc,fa,nf,fc,wr,ok,at2,r,rfl,hm.pat,hm.gr,Lib.hid ?_⟩
 rcases hres with⟨e1,e2⟩ | e
 ·refine .inl ⟨e1,gs,fs,e2,?_⟩
  have og:=(d.og.kept (grownBy_set wx gR 0 (.slice ga ng gc)) (.inr d.na.1)).kept (grownBy_set _ gR 1 (.slice fa nf fc)) (.inr d.na.1)
  have of:=(d.of.kept (grownBy_set wx gR 0 (.slice ga ng gc)) (.inr d.nb.1)).kept (grownBy_set _ gR 1 (.slice fa nf fc)) (.inr d.nb.1)
  obtain⟨a1,c1,f1,f2,f3,f4,f5,f6⟩:=Cells.of_own og
  obtain⟨a2,c2,k1,k2,k3,k4,k5,k6⟩:=Cells.of_own of
  injection f1 with p1 _ p3
  injection k1 with p4 _ p6
  subst p1 p3 p4 p6
  refine⟨ga,gc,fa,fc,ys,by rw [d.lg],by rw [d.lf],by rw [d.lg];exact f3,f4,by rw [d.lf];exact k3,k4,fun hx=>?_,fun hx=>?_,d.ff.keep (fun b hb hlt=>⟨(heap_setCell_other _ _ _ _ (by show b≠gR;exact hb.2.1)).trans (heap_setCell_other _ _ _ _ (by show b≠gR;exact hb.2.1)),hb.1⟩) (by simp [World.setCell])⟩
  ·obtain⟨b,off,e,hb,hc⟩:=f5 hx
   exact⟨b,off,e,f6 _ e,hb,hc⟩
  ·obtain⟨b,off,e,hb,hc⟩:=k5 hx
   exact⟨b,off,e,k6 _ e,hb,hc⟩
 ·exact .inr e
end
set_option maxRecDepth 100000 in
set_option maxHeartbeats 16000000 in
theorem source_any (K:PC) (at_:Nat) (rest:List Tk) (w:World) (hP:PAt w K at_ rest):Calls Tryd.prog 14 #[.pointer (some ⟨K.g,0,none⟩)] w (SoQ K rest w):=by
 obtain⟨go,hgo⟩ : ∃ x,w.heap.size+1=x:=⟨_,rfl⟩
 have HGO:Hid (w.heap.size+1=go):=Lib.hid hgo
 have HD1:Hid (OD K w w.heap.size go K.wr [] [] nilS 0 nilS 0 [] at_ rest ((w.alloc zsrc).alloc zsrc)):=Lib.hid (OD.zero hP hgo rfl)
 have HSZ:Hid ((w.alloc zsrc).heap.size=w.heap.size+1):=Lib.hid (by simp)
 clear hP hgo
 go_enter Tryd.func14,Tryd.ntmps14
 go_upto_block 0 with fail
 obtain⟨w1,hw1⟩ : ∃ W,(w.alloc zsrc).alloc zsrc=W:=⟨_,rfl⟩
 obtain⟨gR,hgR⟩ : ∃ x,w.heap.size=x:=⟨_,rfl⟩
 (try rw [show (w.alloc (.cells #[.slice none 0 0,.slice none 0 0] 32)).alloc (.cells #[.slice none 0 0,.slice none 0 0] 32)=w1 from hw1])
 rw [hw1,hgR] at HD1
 rw [hgR] at HGO
 (try rw [hgR])
 (try rw [HGO.out])
 clear hw1 hgR HSZ
 go_wp2_with fail
 go_loopw [5,6,7,8,9] (fun _ _ _ _ _ wx => ∃ (wr:Int) (gs:List (Bt×Int)) (fs:List Fu) (ga:Option Addr) (gn gc:Nat) (fa:Option Addr) (fn fc:Nat) (ys:List Value) (at3:Nat) (r3:List Tk),Hid (OD K w gR go wr gs fs (.slice ga gn gc) gn (.slice fa fn fc) fn ys at3 r3 wx/\gn+fn<=at3/\(∀ y,So wr gs fs r3 y->So K.wr [] [] rest y))) (fun _ _ _ _ _ wx=>K.ts.length - natAt wx K.g)
 case atStart=>exact⟨K.wr,[],[],none,0,0,none,0,0,[],at_,rest,Lib.hid ⟨HD1.out,by omega,fun y h=>h⟩⟩
 case round =>
  rename World=>wa
  obtain⟨wr,gs,fs,ga,gn,gc,fa,fn,fc,ys,at3,r3,HI⟩:=hrel
  obtain⟨⟨uk,un,uv,ut⟩,r1,hr1⟩:=HI.out.1.ms.pat.en.cons
  have HU:Hid (kOf r3=uk/\lnOf r3=un):=Lib.hid (by rw [hr1];exact⟨rfl,rfl⟩)
  have HR1:=Lib.hid hr1
  clear hr1
  have hfd0 : ∀ W:World,(Instr.field 56 (.agg #[.int .i64 uk,.int .i64 un,.int .i64 uv,.string (st ut)]) 0).run Tryd.prog W=.ok (.int .i64 uk) W:=fun _=>by kernel_rfl
  have hfd1 : ∀ W:World,(Instr.field 56 (.agg #[.int .i64 uk,.int .i64 un,.int .i64 uv,.string (st ut)]) 1).run Tryd.prog W=.ok (.int .i64 un) W:=fun _=>by kernel_rfl
  go_wp2_with fail
  refine(look_at (K.mk' wr) at3 uk un uv ut r1 wa (HR1.out▸HI.out.1.ms.pat)).mono ?_
  rintro e w2 ⟨rfl,hb2⟩
  have HD2:=Lib.hid (HI.out.1.be hb2)
  clear hb2
  by_cases hu:uk=0
  ·have d1:(uk==0)=true:=beq_iff_eq.2 hu
   have d2:(uk != 0)=false:=by simp [hu]
   have HU0:Hid (kOf r3=0):=Lib.hid (HU.out.1.trans hu)
   clear hu
   obtain⟨y0,y1⟩:=HD2.out.rc.cells
   obtain⟨g0,g1⟩:=HD2.out.rc.froz
   have hlR:=HD2.out.rc.lt
   obtain⟨s0,s1⟩:=HD2.out.oc.cells
   have hlS:=HD2.out.oc.lt
   go_wp2_with fail
   have hfin:=so_fin (rest:=rest) HD2.out true (.inl ⟨rfl,HI.out.2.2 _ (So.fin HU0.out)⟩)
   obtain⟨wz,hwz⟩ : ∃ W,(w2.setCell ⟨gR,0,none⟩ (.slice ga gn gc)).setCell ⟨gR,1,none⟩ (.slice fa fn fc)=W:=⟨_,rfl⟩
   (try rw [hwz])
   obtain⟨hd,hep⟩:=hfin wz hwz.symm
   obtain⟨d0,d1⟩:=hd.cells
   clear hfin
   refine bodyPost_ret (v:=.tuple #[sov (.slice ga gn gc) (.slice fa fn fc),.bool true]) (by simp [results,Tryd.results14,go_sem,d0,d1]) rfl ?_
   exact hep
  ·have d1:(uk==0)=false:=beq_eq_false_iff_ne.2 hu
   have d2:(uk != 0)=true:=bne_iff_ne.2 hu
   have HU0:Hid (kOf r3≠0):=Lib.hid (by rw [HU.out.1];exact hu)
   clear hu
   go_wp2_with fail
   refine(look_at (K.mk' wr) at3 uk un uv ut r1 w2 (HR1.out▸HD2.out.ms.pat)).mono ?_
   rintro e w3 ⟨rfl,hb3⟩
   have HD3:=Lib.hid (HD2.out.be hb3)
   clear hb3 HD2
   go_wp2_with fail
   refine(accept_any (K.mk' wr) at3 r3 glW w3 HD3.out.ms.pat).mono ?_
   rintro e w4 ⟨at4,r4,rfl,hp4,hg4,hc4⟩
   have HD4:=Lib.hid (HD3.out.gr (wr2:=wr) hp4 hg4)
   clear hp4 hg4 HD3
   rcases hc4 with⟨hT,ha4,hr4⟩ | ⟨hT,ha4,hr4⟩ <;> subst at4 r4
   ·have HT:=Lib.hid hT
    (try rw [hT])
    clear hT
    go_wp2_with fail
    refine(global_any (K.mk' wr) (at3+1) r3.tail w4 HD4.out.ms.pat).mono ?_
    rintro e w5 ⟨nm,sz,wr2,ok,at5,r5,rfl,hp5,hle5,hg5,hres5⟩
    have HD5:=Lib.hid ((HD4.out.gr (wr2:=wr2) hp5 hg5).al (.cells #[.string (st nm),.int .i64 sz] 62))
    have HS5:=Lib.hid (Lg.new w5 nm sz)
    have HLE:=Lib.hid hle5
    clear hp5 hg5 hle5 HD4
    go_upto_region 7 with fail
    obtain⟨w6,hw6⟩ : ∃ W,w5.alloc (.cells #[.string (st nm),.int .i64 sz] 62)=W:=⟨_,rfl⟩
    obtain⟨gy,hgy⟩ : ∃ x,w5.heap.size=x:=⟨_,rfl⟩
    (try rw [hw6])
    rw [hw6] at HD5 HS5
    rw [hgy] at HS5
    (try rw [hgy])
    clear hw6 hgy
    cases ok
    ·have HBD:Hid (So K.wr [] [] rest (.bad r5)):=Lib.hid (by
      rcases hres5.out with⟨h1,_⟩ | ⟨_,h1⟩
      ·cases h1
      ·exact HI.out.2.2 _ (So.glb HT.out h1))
     obtain⟨y0,y1⟩:=HD5.out.rc.cells
     obtain⟨g0,g1⟩:=HD5.out.rc.froz
     have hlR:=HD5.out.rc.lt
     obtain⟨s0,s1⟩:=HD5.out.oc.cells
     have hlS:=HD5.out.oc.lt
     go_wp2_with fail
     have hfin:=so_fin (rest:=rest) HD5.out false (.inr ⟨rfl,HBD.out⟩)
     obtain⟨wz,hwz⟩ : ∃ W,(w6.setCell ⟨gR,0,none⟩ (.slice ga gn gc)).setCell ⟨gR,1,none⟩ (.slice fa fn fc)=W:=⟨_,rfl⟩
     (try rw [hwz])
     obtain⟨hd,hep⟩:=hfin wz hwz.symm
     obtain⟨d0,d1⟩:=hd.cells
     clear hfin
     refine bodyPost_ret (v:=.tuple #[sov (.slice ga gn gc) (.slice fa fn fc),.bool false]) (by simp [results,Tryd.results14,go_sem,d0,d1]) rfl ?_
     exact hep
    ·have HGP:Hid (glP wr r3.tail=.ok nm sz wr2 r5):=Lib.hid (by
      rcases hres5.out with⟨_,h1,_⟩ | ⟨h1,_⟩
      ·exact h1
      ·cases h1)
     clear hres5
     obtain⟨s0,s1⟩:=HD5.out.oc.cells
     have hlS:=HD5.out.oc.lt
     obtain⟨x0,x1⟩:=HS5.out.cells
     have hlX:=HS5.out.lt
     have hszw:=HD5.out.ms.gr.size
     have hn3:gn<=100000:=by have:=HI.out.2.1;have h1:at3<K.ts.length:=HI.out.1.ms.pat.lt.1;have h2:K.ts.length<=100000:=HI.out.1.ms.pat.n;omega
     obtain⟨i0,hi0,hz0,hz1,hz2⟩:=info_parts Tryd.infoGlb
     have HIF:=Lib.hid hi0
     have HZ0:=Lib.hid hz0
     have HZ1:=Lib.hid hz1
     have HZ2:=Lib.hid hz2
     clear hi0 hz0 hz1 hz2
     have HOA:=Lib.hid (HD5.out.og.alloc (.cells #[.string (st nm),.int .i64 sz] 62))
     go_wp2_with (at_builtin;refine wpList_append_lies _ rfl _ _ _ rfl w.heap.size 62 i0 _ 2 24 Tryd.underlying29 HIF.out HZ0.out HZ1.out HZ2.out rfl (by omega) _ _ _ rfl HOA.out ⟨w6.heap.size,0,none⟩ 1 1 [.string (st nm),.int .i64 sz] rfl rfl (World.news_of_block (cs := #[.string (st nm),.int .i64 sz]) (t:=62) (fr:=(0,0)) (heap_alloc_new w6 _)) (by simp [Value.oneCell']) (by omega) (by unfold maxLen;omega) (by omega) (by simp;omega) _ rfl ?_;intro g9 c9 w9 hown9 hgrow9 hor9 hlt9;have HPU:=Lib.hid (HD5.out.pg (x:=(nm,sz)) hgrow9 hor9 hown9);obtain⟨q0,q1⟩:=HPU.out.2.cells;obtain⟨k0,k1⟩:=HPU.out.2.froz;have hl9:=HPU.out.2.lt;clear hown9 hgrow9 hor9 hlt9)
     have HAT:Hid (at3+1<=at5):=Lib.hid (by
      have h1:=HPU.out.1.ms.pat.lt.2
      have h2:=HI.out.1.ms.pat.lt.2
      have h3:=HLE.out
      simp only [List.length_tail] at h3
      dsimp only at h1 h2
      have h4:0<r3.length:=by rw [HR1.out];simp
      omega)
     go_roundw
     case rel=>exact⟨wr2,_,fs,some ⟨g9,0,none⟩,gn+1,c9,fa,fn,fc,ys,at5,r5,Lib.hid ⟨HPU.out.1,by have:=HI.out.2.1;have:=HAT.out;omega,fun y hy=>HI.out.2.2 _ (So.gl HT.out HGP.out hy)⟩⟩
     case measure =>
      have h1:=HPU.out.1.ms.pat.natAt
      have h2:=HI.out.1.ms.pat.natAt
      have h3:at5<K.ts.length:=HPU.out.1.ms.pat.lt.1
      have h4:=HAT.out
      dsimp only at h1 h2
      rw [h1,h2]
      omega
   ·have HG:=Lib.hid hT
    (try rw [hT])
    clear hT
    go_wp2_with fail
    refine(accept_any (K.mk' wr) at3 r3 fnW w4 HD4.out.ms.pat).mono ?_
    rintro e w5 ⟨at5,r5,rfl,hp5,hg5,hc5⟩
    have HD5:=Lib.hid (HD4.out.gr (wr2:=wr) hp5 hg5)
    clear hp5 hg5 HD4
    rcases hc5 with⟨hT,ha5,hr5⟩ | ⟨hT,ha5,hr5⟩ <;> subst at5 r5
    ·have HT:=Lib.hid hT
     (try rw [hT])
     clear hT
     go_wp2_with fail
     refine(function_any (K.mk' wr) (at3+1) r3.tail w5 HD5.out.ms.pat).mono ?_
     rintro e w6 ⟨nm,pa,pn,pc,ba,bn,bc,ok,at5,r5,rfl,hp5,hle5,hg5,hres5⟩
     have HD6:=Lib.hid (HD5.out.gr (wr2:=wr) hp5 hg5)
     have HS6:Hid (Lf (w6.alloc (.cells #[.string (st nm),.int .i64 0,.slice pa pn pc,.slice ba bn bc] 66)) w6.heap.size nm 0 (.slice pa pn pc) (.slice ba bn bc)):=Lib.hid (heap_alloc_new w6 _)
     have HLE:=Lib.hid hle5
     clear hp5 hg5 hle5
     cases ok
     ·have HBD:Hid (So K.wr [] [] rest (.bad r5)):=Lib.hid (by
       rcases hres5.out with⟨h1,_⟩ | ⟨_,h1⟩
       ·cases h1
       ·exact HI.out.2.2 _ (So.fnb HT.out h1))
      have HD7:=Lib.hid (HD6.out.al (.cells #[.string (st nm),.int .i64 0,.slice pa pn pc,.slice ba bn bc] 66))
      clear HD6 HD5
      go_upto_region 12 with fail
      obtain⟨w7,hw7⟩ : ∃ W,w6.alloc (.cells #[.string (st nm),.int .i64 0,.slice pa pn pc,.slice ba bn bc] 66)=W:=⟨_,rfl⟩
      (try rw [hw7])
      rw [hw7] at HD7
      clear hw7 HS6
      obtain⟨y0,y1⟩:=HD7.out.rc.cells
      obtain⟨g0,g1⟩:=HD7.out.rc.froz
      have hlR:=HD7.out.rc.lt
      obtain⟨s0,s1⟩:=HD7.out.oc.cells
      have hlS:=HD7.out.oc.lt
      go_wp2_with fail
      have hfin:=so_fin (rest:=rest) HD7.out false (.inr ⟨rfl,HBD.out⟩)
      obtain⟨wz,hwz⟩ : ∃ W,(w7.setCell ⟨gR,0,none⟩ (.slice ga gn gc)).setCell ⟨gR,1,none⟩ (.slice fa fn fc)=W:=⟨_,rfl⟩
      (try rw [hwz])
      obtain⟨hd,hep⟩:=hfin wz hwz.symm
      obtain⟨d0,d1⟩:=hd.cells
      clear hfin
      refine bodyPost_ret (v:=.tuple #[sov (.slice ga gn gc) (.slice fa fn fc),.bool false]) (by simp [results,Tryd.results14,go_sem,d0,d1]) rfl ?_
      exact hep
     ·obtain⟨ps,S,hfs,hps,hss⟩ : ∃ ps S,Fs r3.tail (.ok nm ps S r5)/\PsAt w6 (fun b=>w.heap.size<=b/\b≠gR/\b≠go/\some b≠(Value.slice ga gn gc).ownBlock/\some b≠(Value.slice fa fn fc).ownBlock) ps (.slice pa pn pc)/\StsAt w6 (fun b=>w.heap.size<=b/\b≠gR/\b≠go/\some b≠(Value.slice ga gn gc).ownBlock/\some b≠(Value.slice fa fn fc).ownBlock) S (.slice ba bn bc):=by
       rcases hres5.out with⟨_,ps,S,h1,h2,h3,_⟩ | ⟨h1,_⟩
       ·have key : ∀ b,w5.heap.size<=b->b<w6.heap.size->w6.heap[b]?=w6.heap[b]?/\(w.heap.size<=b/\b≠gR/\b≠go/\some b≠(Value.slice ga gn gc).ownBlock/\some b≠(Value.slice fa fn fc).ownBlock):=fun b hb _ =>
         have k1:=HD5.out.ms.gr.size
         have k2:=HD5.out.rc.lt
         have k3:=HD5.out.oc.lt
         ⟨rfl,by omega,by omega,by omega,fun e=>by have:=(HD5.out.og.lt _ e.symm).2;omega,fun e=>by have:=(HD5.out.of.lt _ e.symm).2;omega⟩
        exact⟨ps,S,h1,h2.keep key (Nat.le_refl _),h3.keep key (Nat.le_refl _)⟩
       ·cases h1
      have hB:=below_alloc w6 (.cells #[.string (st nm),.int .i64 un,.slice pa pn pc,.slice ba bn bc] 66)
      have HD7:=Lib.hid (HD6.out.be hB)
      have HS7:Hid (Lf (w6.alloc (.cells #[.string (st nm),.int .i64 un,.slice pa pn pc,.slice ba bn bc] 66)) w6.heap.size nm un (.slice pa pn pc) (.slice ba bn bc)):=Lib.hid (heap_alloc_new w6 _)
      have HFS:=Lib.hid hfs
      have HPS:=Lib.hid (hps.keep (Q:=(fun b=>w.heap.size<=b/\b≠gR/\b≠go/\some b≠(Value.slice ga gn gc).ownBlock/\some b≠(Value.slice fa fn fc).ownBlock)) (fun b hb hlt=>⟨hB.block b hlt,hb⟩) hB.size)
      have HSS:=Lib.hid (hss.keep (Q:=(fun b=>w.heap.size<=b/\b≠gR/\b≠go/\some b≠(Value.slice ga gn gc).ownBlock/\some b≠(Value.slice fa fn fc).ownBlock)) (fun b hb hlt=>⟨hB.block b hlt,hb⟩) hB.size)
      clear hfs hps hss hB HD6 HD5 hres5
      obtain⟨x0,x1,x2,x3⟩:=HS6.out.cells
      obtain⟨j0,j1,j2,j3⟩:=HS6.out.froz
      have hlX:=HS6.out.lt
      go_upto_region 15 with fail
      obtain⟨w7,hw7⟩ : ∃ W,w6.alloc (.cells #[.string (st nm),.int .i64 un,.slice pa pn pc,.slice ba bn bc] 66)=W:=⟨_,rfl⟩
      obtain⟨gy,hgy⟩ : ∃ x,w6.heap.size=x:=⟨_,rfl⟩
      clear x0 x1 x2 x3 j0 j1 j2 j3 hlX HS6
      (try rw [hw7])
      rw [hw7] at HD7 HS7 HPS HSS
      rw [hgy] at HS7
      (try rw [hgy])
      clear hw7 hgy
      obtain⟨s0,s1⟩:=HD7.out.oc.cells
      have hlS:=HD7.out.oc.lt
      obtain⟨x0,x1,x2,x3⟩:=HS7.out.cells
      have hlX:=HS7.out.lt
      have hszw:=HD7.out.ms.gr.size
      have hn3:fn<=100000:=by have:=HI.out.2.1;have h1:at3<K.ts.length:=HI.out.1.ms.pat.lt.1;have h2:K.ts.length<=100000:=HI.out.1.ms.pat.n;omega
      obtain⟨i0,hi0,hz0,hz1,hz2⟩:=info_parts Tryd.infoFun
      have HIF:=Lib.hid hi0
      have HZ0:=Lib.hid hz0
      have HZ1:=Lib.hid hz1
      have HZ2:=Lib.hid hz2
      clear hi0 hz0 hz1 hz2
      have HOA:=Lib.hid (HD7.out.of.alloc (.cells #[.string (st nm),.int .i64 un,.slice pa pn pc,.slice ba bn bc] 66))
      go_wp2_with (at_builtin;refine wpList_append_lies _ rfl _ _ _ rfl w.heap.size 66 i0 _ 4 72 Tryd.underlying30 HIF.out HZ0.out HZ1.out HZ2.out rfl (by omega) _ _ _ rfl HOA.out ⟨w7.heap.size,0,none⟩ 1 1 [.string (st nm),.int .i64 un,.slice pa pn pc,.slice ba bn bc] rfl rfl (World.news_of_block (cs := #[.string (st nm),.int .i64 un,.slice pa pn pc,.slice ba bn bc]) (t:=66) (fr:=(0,0)) (heap_alloc_new w7 _)) (by simp [Value.oneCell']) (by omega) (by unfold maxLen;omega) (by omega) (by simp;omega) _ rfl ?_;intro g9 c9 w9 hown9 hgrow9 hor9 hlt9;have HPU:=Lib.hid (HD7.out.pf (x:=⟨nm,un,ps,S⟩) hgrow9 hor9 hown9 HPS.out HSS.out);obtain⟨q0,q1⟩:=HPU.out.2.cells;obtain⟨k0,k1⟩:=HPU.out.2.froz;have hl9:=HPU.out.2.lt;clear hown9 hgrow9 hor9 hlt9)
      have HAT:Hid (at3+1<=at5):=Lib.hid (by
       have h1:=HPU.out.1.ms.pat.lt.2
       have h2:=HI.out.1.ms.pat.lt.2
       have h3:=HLE.out
       simp only [List.length_tail] at h3
       dsimp only at h1 h2
       have h4:0<r3.length:=by rw [HR1.out];simp
       omega)
      go_roundw
      case rel=>exact⟨wr,gs,_,ga,gn,gc,some ⟨g9,0,none⟩,fn+1,c9,_,at5,r5,Lib.hid ⟨HPU.out.1,by have:=HI.out.2.1;have:=HAT.out;omega,fun y hy=>HI.out.2.2 _ (So.fn HT.out HFS.out (by rw [HU.out.2];exact hy))⟩⟩
      case measure =>
       have h1:=HPU.out.1.ms.pat.natAt
       have h2:=HI.out.1.ms.pat.natAt
       have h3:at5<K.ts.length:=HPU.out.1.ms.pat.lt.1
       have h4:=HAT.out
       dsimp only at h1 h2
       rw [h1,h2]
       omega
    ·have HT:=Lib.hid hT
     (try rw [hT])
     clear hT
     obtain⟨y0,y1⟩:=HD5.out.rc.cells
     obtain⟨g0,g1⟩:=HD5.out.rc.froz
     have hlR:=HD5.out.rc.lt
     obtain⟨s0,s1⟩:=HD5.out.oc.cells
     have hlS:=HD5.out.oc.lt
     go_wp2_with fail
     have hfin:=so_fin (rest:=rest) HD5.out false (.inr ⟨rfl,HI.out.2.2 _ (So.no HU0.out HG.out HT.out)⟩)
     obtain⟨wz,hwz⟩ : ∃ W,(w5.setCell ⟨gR,0,none⟩ (.slice ga gn gc)).setCell ⟨gR,1,none⟩ (.slice fa fn fc)=W:=⟨_,rfl⟩
     (try rw [hwz])
     obtain⟨hd,hep⟩:=hfin wz hwz.symm
     obtain⟨d0,d1⟩:=hd.cells
     clear hfin
     refine bodyPost_ret (v:=.tuple #[sov (.slice ga gn gc) (.slice fa fn fc),.bool false]) (by simp [results,Tryd.results14,go_sem,d0,d1]) rfl ?_
     exact hep
end Go.Proofs.YtpcdinelpfbpfaaDoor
