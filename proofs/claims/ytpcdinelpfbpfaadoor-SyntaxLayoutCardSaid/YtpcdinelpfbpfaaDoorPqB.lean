/-
  WALK of the implementation's parser's block. (Filled in from a template of this repo.)
-/
import Derived.Test.YtpcdinelpfbpfaaDoorPqC
namespace Go.Proofs.YtpcdinelpfbpfaaDoor
open Go.ChangeShapes Go.WideShapes Go.ChangeAt Go.RowKit
set_option linter.unusedVariables false
set_option linter.unusedSimpArgs false

def CSt (m:Nat):Prop := ∀ (K:PC) (at_:Nat) (rest:List Tk) (w:World),PAt w K at_ rest->rest.length<=m->Calls Tryd.prog 53 #[.pointer (some ⟨K.g,0,none⟩)] w (StQ K rest rest.length w)
theorem Sf.app_nil (S:Sf):Sf.nil.app S=S:=rfl
structure BI (K:PC) (w:World) (rest:List Tk) (a3:Option Addr) (n3 c3:Nat) (xs:List Value) (S:Sf) (at3:Nat) (r3:List Tk) (wr:World):Prop where
 ms:MS K w wr at3 r3
 own:wr.ownsRow w.heap.size 83 6 (.slice a3 n3 c3) n3 xs
 sf:SfAt wr (fun b=>w.heap.size<=b/\some b≠(Value.slice a3 n3 c3).ownBlock) S xs
 len:S.len=n3
 n:n3<=at3
 le:r3.length<rest.length
 co : ∀ z,Qs (.bk S) r3 z->Qs .bl rest z
theorem sf_gr {w w':World} {P:Nat->Prop} {S:Sf} {xs:List Value} {g:Nat} (h:SfAt w P S xs) (hg:w.grownBy w' (some g)) (hP : ∀ b,P b->b≠g):SfAt w' P S xs:=h.keep (fun b hb hlt=>⟨hg.block b hlt (fun e=>by injection e with e;exact hP b hb e),hb⟩) hg.size
set_option maxRecDepth 100000 in
set_option maxHeartbeats 16000000 in
theorem pblock_of (m:Nat) (hS : ∀ j,j<m->CSt j):CBl m:=by
 intro K at_ rest w hP hm
 have HM1:=Lib.hid (MS.init hP)
 have HMm:=Lib.hid hm
 have HST:Hid (∀ (w2:World) (at2:Nat) (r:List Tk),PAt w2 K at2 r->r.length<rest.length->Calls Tryd.prog 53 #[.pointer (some ⟨K.g,0,none⟩)] w2 (StQ K r r.length w2)):=Lib.hid (fun w2 at2 r hp hl=>hS r.length (by omega) K at2 r w2 hp (Nat.le_refl _))
 clear hS hP hm
 go_enter Tryd.func40,Tryd.ntmps40
 go_wp2_with fail
 refine(accept_any K at_ rest [123] _ HM1.out.pat).mono ?_
 rintro e w2 ⟨at2,r2,rfl,hp2,hg2,hc2⟩
 have HM2:=Lib.hid (HM1.out.call hp2 hg2)
 clear hp2 hg2
 rcases hc2 with⟨hT,rfl,rfl⟩ | ⟨hT,rfl,rfl⟩
 rotate_left
 ·have HT:=Lib.hid hT
  (try rw [hT])
  clear hT
  go_wp2_with fail
  refine bodyPost_ret (v:=.tuple #[.slice none 0 0,.bool false]) (by simp [results,Tryd.results40,go_sem]) rfl ?_
  exact⟨none,0,0,false,_,_,rfl,HM2.out.pat,Nat.le_refl _,HM2.out.gr,Lib.hid (.inr ⟨rfl,Qs.bl_no HT.out⟩)⟩
 ·have HT:=Lib.hid hT
  (try rw [hT])
  clear hT
  have HRT:Hid (rest.tail.length<rest.length):=Lib.hid (tail_lt (by intro e;have:=HT.out;rw [e] at this;cases this))
  have HI0:Hid (BI K w rest none 0 0 [] .nil (at_+1) rest.tail w2):=Lib.hid ⟨HM2.out,World.ownsRow_nil _ _ _ _,rfl,rfl,by omega,HRT.out,fun z hz=>Qs.bl_ok HT.out hz⟩
  go_upto_block 0 with fail
  go_wp2_with fail
  go_loopw [4] (fun v4 wr => ∃ (a3:Option Addr) (n3 c3:Nat) (xs:List Value) (S:Sf) (at3:Nat) (r3:List Tk),v4=.slice a3 n3 c3/\Hid (BI K w rest a3 n3 c3 xs S at3 r3 wr)) (fun _ wr=>K.ts.length - natAt wr K.g)
  case atStart=>exact⟨none,0,0,[],.nil,at_+1,rest.tail,rfl,HI0⟩
  case round =>
   rename World=>wa
   obtain⟨a3,n3,c3,xs,S,at3,r3,rfl,HI⟩:=hrel
   go_wp2_with fail
   refine(accept_any K at3 r3 [125] _ HI.out.ms.pat).mono ?_
   rintro e w4 ⟨at4,r4,rfl,hp4,hg4,hc4⟩
   have hgl:=HI.out.ms.gl
   have HM4:=Lib.hid (HI.out.ms.call hp4 hg4)
   have HO4:=Lib.hid (own_grown HI.out.own hg4 hgl)
   have HF4:=Lib.hid (sf_gr HI.out.sf hg4 (fun b hb=>by have:=hb.1;omega))
   clear hp4 hg4
   rcases hc4 with⟨hT3,rfl,rfl⟩ | ⟨hT3,rfl,rfl⟩
   ·have HT3:=Lib.hid hT3
    (try rw [hT3])
    clear hT3
    have HRT3:Hid (r3.tail.length<=r3.length):=Lib.hid (by simp)
    go_wp2_with fail
    refine bodyPost_ret (v:=.tuple #[.slice a3 n3 c3,.bool true]) (by simp [results,Tryd.results40,go_sem]) rfl ?_
    refine⟨a3,n3,c3,true,_,_,rfl,HM4.out.pat,by have:=HRT3.out;have:=HI.out.le;omega,HM4.out.gr,Lib.hid (.inl ⟨rfl,S,HI.out.co _ (Qs.bk_end HT3.out),?_⟩)⟩
    exact StsAt.of_own (e:=83) (size:=6) (base:=w.heap.size) (by rw [HI.out.len];exact HO4.out) (HF4.out.keep (fun b hb _=>⟨rfl,hb.1⟩) (Nat.le_refl _)) (fun b hb=>(HO4.out.lt b hb).1)
   ·have HT3:=Lib.hid hT3
    (try rw [hT3])
    clear hT3
    go_wp2_with fail
    refine(HST.out w4 at4 r4 HM4.out.pat HI.out.le).mono ?_
    rintro e w5 ⟨k,ln,nm,ax,nx,cx,ta,tn,tc,ea,en,ec,ok,at5,r5,rfl,hp5,hle5,hg5,hres5⟩
    have HM5:=Lib.hid ((HM4.out.call hp5 hg5).al (.cells (scs k ln nm (.slice ax nx cx) (.slice ta tn tc) (.slice ea en ec)) 83))
    have HS5:=Lib.hid (Ls.new w5 k ln nm (.slice ax nx cx) (.slice ta tn tc) (.slice ea en ec))
    have HO5:=Lib.hid ((own_grown HO4.out hg5 hgl).alloc (.cells (scs k ln nm (.slice ax nx cx) (.slice ta tn tc) (.slice ea en ec)) 83))
    have HF5:=Lib.hid ((sf_gr HF4.out hg5 (fun b hb=>by have:=hb.1;omega)).keep (Q:=fun b=>w.heap.size<=b/\some b≠(Value.slice a3 n3 c3).ownBlock) (fun b hb hlt=>⟨Below.heap_alloc w5 (.cells (scs k ln nm (.slice ax nx cx) (.slice ta tn tc) (.slice ea en ec)) 83) b hlt,hb⟩) (by simp))
    have HRS5:Hid ((ok=true /\ ∃ xs th el,Qs .st r4 (.ok (oneS k ln nm xs th el) r5)/\SfAt (w5.alloc (.cells (scs k ln nm (.slice ax nx cx) (.slice ta tn tc) (.slice ea en ec)) 83)) (fun b=>w.heap.size<=b/\some b≠(Value.slice a3 n3 c3).ownBlock) (oneS k ln nm xs th el) (stc k ln nm (.slice ax nx cx) (.slice ta tn tc) (.slice ea en ec))/\r5.length<r4.length)\/(ok=false/\Qs .st r4 (.bad r5))):=Lib.hid (by
     rcases hres5.out with⟨e1,xs,th,el,e2,e3,e4,e5,e6⟩ | hr
     ·refine .inl ⟨e1,xs,th,el,e2,(SfAt.one e3 e4 e5).keep (fun b hb hlt=>⟨Below.heap_alloc w5 _ b hlt,by have:=HM4.out.gr.size;omega,fun e=>by have:=(HO4.out.lt b e.symm).2;omega⟩) (by simp),e6⟩
     ·exact .inr hr)
    have HLE5:=Lib.hid hle5
    clear hres5 hp5 hg5 hle5 HO4 HF4
    go_upto_region 6 with fail
    obtain⟨w6,hw6⟩ : ∃ W,w5.alloc (.cells (scs k ln nm (.slice ax nx cx) (.slice ta tn tc) (.slice ea en ec)) 83)=W:=⟨_,rfl⟩
    obtain⟨gy,hgy⟩ : ∃ x,w5.heap.size=x:=⟨_,rfl⟩
    (try rw [show w5.alloc (.cells #[.int .i64 k,.int .i64 ln,.string (st nm),.slice ax nx cx,.slice ta tn tc,.slice ea en ec] 83)=w6 from hw6])
    rw [hw6] at HM5 HS5 HO5 HF5 HRS5
    rw [hgy] at HS5
    (try rw [hgy])
    clear hw6 hgy
    cases ok
    ·have HBD:Hid (Qs .bl rest (.bad r5)):=Lib.hid (by
      rcases HRS5.out with⟨h1,_⟩ | ⟨_,h1⟩
      ·cases h1
      ·exact HI.out.co _ (Qs.bk_bad HT3.out h1))
     go_wp2_with fail
     refine bodyPost_ret (v:=.tuple #[.slice none 0 0,.bool false]) (by simp [results,Tryd.results40,go_sem]) rfl ?_
     exact⟨none,0,0,false,_,_,rfl,HM5.out.pat,by have:=HLE5.out;have:=HI.out.le;omega,HM5.out.gr,Lib.hid (.inr ⟨rfl,HBD.out⟩)⟩
    ·obtain⟨x1,t1,e1,hps,hsf,hlt⟩ : ∃ xs th el,Qs .st r4 (.ok (oneS k ln nm xs th el) r5)/\SfAt w6 (fun b=>w.heap.size<=b/\some b≠(Value.slice a3 n3 c3).ownBlock) (oneS k ln nm xs th el) (stc k ln nm (.slice ax nx cx) (.slice ta tn tc) (.slice ea en ec))/\r5.length<r4.length:=by
      rcases HRS5.out with⟨_,h1⟩ | ⟨h1,_⟩
      ·exact h1
      ·cases h1
     have HPS:=Lib.hid hps
     have HSF:=Lib.hid hsf
     have HLT:=Lib.hid hlt
     clear hps hsf hlt HRS5
     obtain⟨s0,s1,s2,s3,s4,s5⟩:=HS5.out.cells
     have hlS:=HS5.out.lt
     have hszw:=HM5.out.gr.size
     have hn3:n3<=100000:=by have:=HI.out.n;have:=HI.out.ms.pat.lt;have:=HI.out.ms.pat.n;omega
     obtain⟨i0,hi0,hz0,hz1,hz2⟩:=info_parts Tryd.infoStmt
     have HIF:=Lib.hid hi0
     have HZ0:=Lib.hid hz0
     have HZ1:=Lib.hid hz1
     have HZ2:=Lib.hid hz2
     clear hi0 hz0 hz1 hz2
     have HOA:=Lib.hid (HO5.out.alloc (.cells (scs k ln nm (.slice ax nx cx) (.slice ta tn tc) (.slice ea en ec)) 83))
     go_wp2_with (at_builtin;refine wpList_append_lies _ rfl _ _ _ rfl w.heap.size 83 i0 _ 6 104 Tryd.underlying64 HIF.out HZ0.out HZ1.out HZ2.out rfl (by omega) _ _ _ rfl HOA.out ⟨w6.heap.size,0,none⟩ 1 1 (stc k ln nm (.slice ax nx cx) (.slice ta tn tc) (.slice ea en ec)) rfl rfl (World.news_of_block (cs:=(stc k ln nm (.slice ax nx cx) (.slice ta tn tc) (.slice ea en ec)).toArray) (t:=83) (fr:=(0,0)) (heap_alloc_new w6 _)) (by simp [Value.oneCell']) (by omega) (by unfold maxLen;omega) (by omega) (by simp;omega) _ rfl ?_;intro g9 c9 w9 hown9 hgrow9 hor9 hlt9;have HO9:=Lib.hid hown9;have HG9:=Lib.hid hgrow9;have HR9:=Lib.hid hor9;clear hown9 hgrow9 hor9 hlt9)
     have HN9:Hid (BI K w rest (some ⟨g9,0,none⟩) (n3+1) c9 (xs++stc k ln nm (.slice ax nx cx) (.slice ta tn tc) (.slice ea en ec)) (S.app (oneS k ln nm x1 t1 e1)) at5 r5 w9):=Lib.hid (by
      have hsA : ∀ o:Obj,(w6.alloc o).heap.size=w6.heap.size+1:=fun o=>by simp
      have hs9:=HG9.out.size
      rw [hsA] at hs9
      have key : ∀ b,(w.heap.size<=b/\some b≠(Value.slice a3 n3 c3).ownBlock)->b<w6.heap.size->w9.heap[b]?=w6.heap[b]?/\(w.heap.size<=b/\some b≠(Value.slice (some ⟨g9,0,none⟩) (n3+1) c9).ownBlock):=fun b hb hlt =>
       ⟨(HG9.out.block b (by rw [hsA];omega) hb.2).trans (Below.heap_alloc w6 _ b hlt),hb.1,by
        show some b≠some g9
        rcases HR9.out with e | e
        ·rw [<- e];exact hb.2
        ·rw [hsA] at e;simp;omega⟩
      refine⟨(HM5.out.al _).own HG9.out (fun k2 e=>(HO5.out.lt k2 e).1),HO9.out,SfAt.app (HF5.out.keep key (by omega)) (HSF.out.keep key (by omega)),by rw [Sf.len_app,HI.out.len];rfl,?_,?_,fun z hz=>HI.out.co z (Qs.bk_ok HT3.out HPS.out hz)⟩
      ·have h1:=HM5.out.pat.lt.2
       have h2:=HM4.out.pat.lt.2
       have h3:=HLT.out
       have h4:=HI.out.n
       omega
      ·have:=HLT.out;have:=HI.out.le;omega)
     go_roundw
     case rel=>exact⟨some ⟨g9,0,none⟩,n3+1,c9,_,_,at5,r5,rfl,HN9⟩
     case measure =>
      have h1:=HN9.out.ms.pat.natAt
      have h2:=HI.out.ms.pat.natAt
      have h3:=HN9.out.ms.pat.lt
      have h4:=HM4.out.pat.lt.2
      have h5:=HLT.out
      rw [h1,h2]
      omega
end Go.Proofs.YtpcdinelpfbpfaaDoor
