/-
  WALK of the reference's comparison of statements. (Filled in from a template of this repo, printed by mk_qus.py.)
-/
import Derived.Test.YtpcdinelpfbpfaaDoorQsL
import Derived.Test.YtpcdinelpfbpfaaDoorPpQ
namespace Go.Proofs.YtpcdinelpfbpfaaDoor
open Go.ChangeShapes Go.WideShapes Go.ChangeAt Go.RowKit
set_option linter.unusedVariables false
set_option linter.unusedSimpArgs false

structure Sx1 where
 k:Int
 ln:Int
 nm:Bt
 xs:Fo
 th:Sf
 el:Sf
def Sf.gt1:Sf->Nat->Option Sx1
 | .nil,_=>none
 | .cons k ln nm xs th el _,0=>some ⟨k,ln,nm,xs,th,el⟩
 | .cons _ _ _ _ _ _ r,i+1=>r.gt1 i
def Sf.drop:Sf->Nat->Sf
 | S,0=>S
 | .nil,_+1=>.nil
 | .cons _ _ _ _ _ _ r,i+1=>r.drop i
theorem Sf.drop_zero (S:Sf):S.drop 0=S:=by cases S <;> rfl
theorem Sf.drop_get {S:Sf} {i:Nat} {x:Sx1} (h:S.gt1 i=some x):S.drop i=.cons x.k x.ln x.nm x.xs x.th x.el (S.drop (i+1)):=by
 induction S generalizing i with
 | nil=>cases h
 | cons k ln nm xs th el r _ _ ih =>
  cases i with
  | zero=>injection h with h;subst h;cases r <;> rfl
  | succ i =>
   have:=ih (i:=i) h
   show r.drop i=_
   rw [this]
   rfl
theorem Sf.drop_len (S:Sf):S.drop S.len=.nil:=by
 induction S with
 | nil=>rfl
 | cons k ln nm xs th el r _ _ ih=>exact ih
theorem Sf.got_lt {S:Sf} {i:Nat} (h:i<S.len) : ∃ x,S.gt1 i=some x:=by
 induction S generalizing i with
 | nil=>exact absurd h (Nat.not_lt_zero _)
 | cons k ln nm xs th el r _ _ ih =>
  cases i with
  | zero=>exact⟨_,rfl⟩
  | succ i=>exact ih (i:=i) (by have h:i+1<r.len+1:=h;omega)
theorem SfAt.got {w:World} {P:Nat->Prop} {S:Sf} {cs:List Value} (h:SfAt w P S cs) {j:Nat} {x:Sx1} (hj:S.gt1 j=some x) : ∃ sl vt ve,ArgsAt w P x.xs sl/\StsAt w P x.th vt/\StsAt w P x.el ve /\ ∀ i u,(stc x.k x.ln x.nm sl vt ve)[i]?=some u->cs[j * 6+i]?=some u:=by
 induction S generalizing cs j with
 | nil=>cases hj
 | cons k ln nm xs th el r _ _ ih =>
  obtain⟨slx,at_,ct,rt,ae,ce,re,cs',rfl,h1,h2,h3,h4,h5,h6,h7,h8,h9,h10,h11,h12⟩:=h
  cases j with
  | zero =>
   have e:(⟨k,ln,nm,xs,th,el⟩:Sx1)=x:=by injection hj
   subst e
   refine⟨_,_,_,h1,⟨at_,ct,rt,rfl,h2,h3,h4,h5,h6⟩,⟨ae,ce,re,rfl,h7,h8,h9,h10,h11⟩,fun i u hi=>?_⟩
   have:i<6:=(List.getElem?_eq_some_iff.1 hi).1
   rw [Nat.zero_mul,Nat.zero_add,List.getElem?_append_left (by simpa using this)]
   exact hi
  | succ j =>
   obtain⟨sl,vt,ve,k1,k2,k3,k4⟩:=ih h12 hj
   refine⟨sl,vt,ve,k1,k2,k3,fun i u hi=>?_⟩
   rw [List.getElem?_append_right (by show 6<=_;omega)]
   have e:(j+1) * 6+i - 6=j * 6+i:=by omega
   show cs'[(j+1) * 6+i - 6]?=_
   rw [e]
   exact k4 i u hi
theorem StsAt.le {w:World} {P:Nat->Prop} {S:Sf} {v:Value} (h:StsAt w P S v) : ∃ a c,v=.slice a S.len c/\S.len<=maxLen:=by
 obtain⟨a,c,_,e,h1,h2,_⟩:=h
 exact⟨a,c,e,Nat.le_trans h1 h2⟩
theorem StsAt.got {w:World} {P:Nat->Prop} {S:Sf} {a:Option Addr} {n c:Nat} (h:StsAt w P S (.slice a n c)) {j:Nat} {x:Sx1} (hj:S.gt1 j=some x) :
  ∃ b off axs cxs ath cth ael cel,a=some ⟨b,off,none⟩/\b<w.heap.size/\ArgsAt w P x.xs (.slice axs x.xs.len cxs)/\StsAt w P x.th (.slice ath x.th.len cth)/\StsAt w P x.el (.slice ael x.el.len cel)/\w.cell? ⟨b,off+j * 6,none⟩=some (.int .i64 x.k)/\w.cell? ⟨b,off+j * 6+1,none⟩=some (.int .i64 x.ln)/\w.cell? ⟨b,off+j * 6+2,none⟩=some (.string (st x.nm)) /\
   w.cell? ⟨b,off+j * 6+3,none⟩=some (.slice axs x.xs.len cxs)/\w.cell? ⟨b,off+j * 6+4,none⟩=some (.slice ath x.th.len cth)/\w.cell? ⟨b,off+j * 6+5,none⟩=some (.slice ael x.el.len cel):=by
 obtain⟨a',cap,rws,e,h1,h2,h3,h4,h5⟩:=h
 injection e with e1 e2 e3
 subst e1
 obtain⟨sl,vt,ve,hx,ht,he,hc⟩:=h5.got hj
 have hc0:=hc 0 _ rfl
 obtain⟨b,off,ea,_,hb,hcell⟩:=h4 (fun e=>by rw [e] at hc0;cases hc0)
 have hk : ∀ i u,(stc x.k x.ln x.nm sl vt ve)[i]?=some u->w.cell? ⟨b,off+(j * 6+i),none⟩=some u:=fun i u hi=>hcell _ _ (hc i u hi)
 obtain⟨axs,cxs,rfl,_⟩:=hx.le
 obtain⟨ath,cth,rfl,_⟩:=ht.le
 obtain⟨ael,cel,rfl,_⟩:=he.le
 refine⟨b,off,axs,cxs,ath,cth,ael,cel,ea,hb,hx,ht,he,hk 0 _ rfl,?_,?_,?_,?_,?_⟩ <;> rw [Nat.add_assoc]
 ·exact hk 1 _ rfl
 ·exact hk 2 _ rfl
 ·exact hk 3 _ rfl
 ·exact hk 4 _ rfl
 ·exact hk 5 _ rfl
def YC (S:Sf):Prop := ∀ (lines:Bool) (P Q:Nat->Prop) (G:Sf) (va vb:Value) (w:World),StsAt w P S va->StsAt w Q G vb ->
 Calls Tryd.prog 27 #[va,vb,.bool lines] w fun e w'=>e=.returned (.bool (eqS lines S G))/\Below w.heap.size w w'
set_option maxRecDepth 100000 in
set_option maxHeartbeats 16000000 in
theorem stmts_step (F:Sf) (hE : ∀ j x,F.gt1 j=some x->YC x.th/\YC x.el):YC F:=by
 intro lines P Q G va vb w hF hG
 obtain⟨a,ca,rfl,hFm⟩:=hF.le
 obtain⟨b,cb,rfl,hGm⟩:=hG.le
 have HF:=Lib.hid hF
 have HG:=Lib.hid hG
 have HE:=Lib.hid hE
 obtain⟨n,hn⟩ : ∃ n,F.len=n:=⟨_,rfl⟩
 obtain⟨m,hm⟩ : ∃ n,G.len=n:=⟨_,rfl⟩
 have HN:=Lib.hid (And.intro hn hm)
 have hFm2:n<=9223372036854775807:=by rw [<- hn];unfold maxLen at hFm;omega
 rw [hn] at HF ⊢
 rw [hm] at HG ⊢
 clear hF hG hE hn hm hFm hGm
 go_enter Tryd.func27,Tryd.ntmps27
 by_cases hnm:n=m
 rotate_left
 ·have d1:(n==m)=false:=by rw [beq_eq_false_iff_ne];exact hnm
  have d2:((n:Int)==(m:Int))=false:=by rw [beq_eq_false_iff_ne];omega
  have d3:((n:Int) != (m:Int))=true:=by rw [bne_iff_ne];omega
  have HX:Hid (eqS lines F G=false):=Lib.hid (eqS_len (by rw [HN.out.1,HN.out.2];exact hnm))
  clear hnm
  go_wp2_with fail
  refine bodyPost_ret (v:=.bool false) (by simp [results,Tryd.results27,go_sem]) rfl ?_
  exact⟨by rw [HX.out],Below.refl _ _⟩
 ·subst hnm
  go_upto_block 0 with fail
  go_wp2_with fail
  go_loopw [7] (fun v7 wr => ∃ i:Nat,v7=.int .i64 (i:Int)/\i<=n/\Hid (Below w.heap.size w wr/\eqS lines F G=eqS lines (F.drop i) (G.drop i))) (fun v7 _=>n - natOf v7)
  case atStart=>exact⟨0,rfl,Nat.zero_le _,Lib.hid ⟨Below.refl _ _,by rw [Sf.drop_zero,Sf.drop_zero]⟩⟩
  case round =>
   rename World=>wa
   obtain⟨i,rfl,hin,HL⟩:=hrel
   by_cases hlt:i<n
   ·obtain⟨⟨k1,l1,n1,xs1,th1,el1⟩,hx⟩:=Sf.got_lt (S:=F) (i:=i) (by rw [HN.out.1];exact hlt)
    obtain⟨⟨k2,l2,n2,xs2,th2,el2⟩,hy⟩:=Sf.got_lt (S:=G) (i:=i) (by rw [HN.out.2];exact hlt)
    obtain⟨b1,of1,ax1,cx1,at1,ct1,ae1,ce1,rfl,hb1,hX1,hT1,hE1,p0,p1,p2,p3,p4,p5⟩:=(HF.out.keep (Q:=P) (fun b hb hlt=>⟨HL.out.1.block b hlt,hb⟩) HL.out.1.size).got hx
    obtain⟨b2,of2,ax2,cx2,at2,ct2,ae2,ce2,rfl,hb2,hX2,hT2,hE2,q0,q1,q2,q3,q4,q5⟩:=(HG.out.keep (Q:=Q) (fun b hb hlt=>⟨HL.out.1.block b hlt,hb⟩) HL.out.1.size).got hy
    have HCX:Hid (∀ W,Below wa.heap.size wa W->Calls Tryd.prog 41 #[.slice ax1 xs1.len cx1,.slice ax2 xs2.len cx2,.bool lines] W fun e w'=>e=.returned (.bool (eqF lines xs1 xs2))/\Below W.heap.size W w'):=Lib.hid (fun W hW=>exprs_any xs1 lines P Q xs2 _ _ W (hX1.keep (fun b hb hlt=>⟨hW.block b hlt,hb⟩) hW.size) (hX2.keep (fun b hb hlt=>⟨hW.block b hlt,hb⟩) hW.size))
    have HCT:Hid (∀ W,Below wa.heap.size wa W->Calls Tryd.prog 27 #[.slice at1 th1.len ct1,.slice at2 th2.len ct2,.bool lines] W fun e w'=>e=.returned (.bool (eqS lines th1 th2))/\Below W.heap.size W w'):=Lib.hid (fun W hW=>(HE.out i _ hx).1 lines P Q th2 _ _ W (hT1.keep (fun b hb hlt=>⟨hW.block b hlt,hb⟩) hW.size) (hT2.keep (fun b hb hlt=>⟨hW.block b hlt,hb⟩) hW.size))
    have HCE:Hid (∀ W,Below wa.heap.size wa W->Calls Tryd.prog 27 #[.slice ae1 el1.len ce1,.slice ae2 el2.len ce2,.bool lines] W fun e w'=>e=.returned (.bool (eqS lines el1 el2))/\Below W.heap.size W w'):=Lib.hid (fun W hW=>(HE.out i _ hx).2 lines P Q el2 _ _ W (hE1.keep (fun b hb hlt=>⟨hW.block b hlt,hb⟩) hW.size) (hE2.keep (fun b hb hlt=>⟨hW.block b hlt,hb⟩) hW.size))
    have HQ:Hid (eqS lines F G=((k1==k2&&(n1==n2&&((!lines||l1==l2)&&(eqF lines xs1 xs2&&(eqS lines th1 th2&&eqS lines el1 el2)))))&&eqS lines (F.drop (i+1)) (G.drop (i+1)))):=Lib.hid (by
     rw [HL.out.2,Sf.drop_get hx,Sf.drop_get hy]
     rfl)
    have hlt2:(i:Int)<(n:Int):=by omega
    have hi0:(0:Int)<=(i:Int):=by omega
    (try dsimp only at p0 p1 p2 p3 p4 p5 q0 q1 q2 q3 q4 q5)
    obtain⟨nx1,hnx1⟩ : ∃ x,xs1.len=x:=⟨_,rfl⟩
    obtain⟨nx2,hnx2⟩ : ∃ x,xs2.len=x:=⟨_,rfl⟩
    obtain⟨nt1,hnt1⟩ : ∃ x,th1.len=x:=⟨_,rfl⟩
    obtain⟨nt2,hnt2⟩ : ∃ x,th2.len=x:=⟨_,rfl⟩
    obtain⟨ne1,hne1⟩ : ∃ x,el1.len=x:=⟨_,rfl⟩
    obtain⟨ne2,hne2⟩ : ∃ x,el2.len=x:=⟨_,rfl⟩
    rw [hnx1,hnx2] at HCX
    rw [hnt1,hnt2] at HCT
    rw [hne1,hne2] at HCE
    rw [hnx1] at p3
    rw [hnx2] at q3
    rw [hnt1] at p4
    rw [hnt2] at q4
    rw [hne1] at p5
    rw [hne2] at q5
    clear hx hy hX1 hX2 hT1 hT2 hE1 hE2 hnx1 hnx2 hnt1 hnt2 hne1 hne2
    have HEND:Hid (eqS lines F G=false -> ∀ (e:Ending) (wz:World),e=.returned (.bool false)->Below wa.heap.size wa wz->e=.returned (.bool (eqS lines F G))/\Below w.heap.size w wz):=Lib.hid (fun h1 e wz he hb=>⟨by rw [h1];exact he,HL.out.1.trans (hb.mono HL.out.1.size)⟩)
    have y0 : ∀ x:Since wa,x.val.cell? ⟨b1,of1+i * 6,none⟩=some (.int .i64 k1):=fun x=>x.cell p0
    have y1 : ∀ x:Since wa,x.val.cell? ⟨b1,of1+i * 6+1,none⟩=some (.int .i64 l1):=fun x=>x.cell p1
    have y2 : ∀ x:Since wa,x.val.cell? ⟨b1,of1+i * 6+2,none⟩=some (.string (st n1)):=fun x=>x.cell p2
    have y3 : ∀ x:Since wa,x.val.cell? ⟨b1,of1+i * 6+3,none⟩=some (.slice ax1 nx1 cx1):=fun x=>x.cell p3
    have y4 : ∀ x:Since wa,x.val.cell? ⟨b1,of1+i * 6+4,none⟩=some (.slice at1 nt1 ct1):=fun x=>x.cell p4
    have y5 : ∀ x:Since wa,x.val.cell? ⟨b1,of1+i * 6+5,none⟩=some (.slice ae1 ne1 ce1):=fun x=>x.cell p5
    have z0 : ∀ x:Since wa,x.val.cell? ⟨b2,of2+i * 6,none⟩=some (.int .i64 k2):=fun x=>x.cell q0
    have z1 : ∀ x:Since wa,x.val.cell? ⟨b2,of2+i * 6+1,none⟩=some (.int .i64 l2):=fun x=>x.cell q1
    have z2 : ∀ x:Since wa,x.val.cell? ⟨b2,of2+i * 6+2,none⟩=some (.string (st n2)):=fun x=>x.cell q2
    have z3 : ∀ x:Since wa,x.val.cell? ⟨b2,of2+i * 6+3,none⟩=some (.slice ax2 nx2 cx2):=fun x=>x.cell q3
    have z4 : ∀ x:Since wa,x.val.cell? ⟨b2,of2+i * 6+4,none⟩=some (.slice at2 nt2 ct2):=fun x=>x.cell q4
    have z5 : ∀ x:Since wa,x.val.cell? ⟨b2,of2+i * 6+5,none⟩=some (.slice ae2 ne2 ce2):=fun x=>x.cell q5
    clear p0 p1 p2 p3 p4 p5 q0 q1 q2 q3 q4 q5
    by_cases ek:k1=k2
    rotate_left
    ·have d1:(k1==k2)=false:=beq_eq_false_iff_ne.2 ek
     have d2:(k1 != k2)=true:=bne_iff_ne.2 ek
     have HX:Hid (eqS lines F G=false):=Lib.hid (by rw [HQ.out,d1];rfl)
     clear ek
     go_upto_region 6 with fail
     dsimp only [List.append]
     refine wp_region_below (by kernel_rfl) (by kernel_rfl) ?_
     repeat (go_big_quiet_step ((first | fail)))
     refine wpQuiet_nil ?_
     intro wb hbb
     have HBB:=Lib.hid hbb
     clear hbb y0 y1 y2 y3 y4 y5 z0 z1 z2 z3 z4 z5
     go_wp2_with fail
     refine bodyPost_ret (v:=.bool false) (by simp [results,Tryd.results27,go_sem]) rfl ?_
     exact HEND.out HX.out _ _ rfl HBB.out
    subst ek
    by_cases en:n1=n2
    rotate_left
    ·have d1:(n1==n2)=false:=beq_eq_false_iff_ne.2 en
     have d2:(n1 != n2)=true:=bne_iff_ne.2 en
     have HX:Hid (eqS lines F G=false):=Lib.hid (by rw [HQ.out,d1];simp)
     clear en
     go_upto_region 6 with fail
     dsimp only [List.append]
     refine wp_region_below (by kernel_rfl) (by kernel_rfl) ?_
     repeat (go_big_quiet_step ((first | fail)))
     refine wpQuiet_nil ?_
     intro wb hbb
     have HBB:=Lib.hid hbb
     clear hbb y0 y1 y2 y3 y4 y5 z0 z1 z2 z3 z4 z5
     go_wp2_with fail
     refine bodyPost_ret (v:=.bool false) (by simp [results,Tryd.results27,go_sem]) rfl ?_
     exact HEND.out HX.out _ _ rfl HBB.out
    subst en
    obtain⟨bl,hbl⟩ : ∃ b,(!lines||l1==l2)=b:=⟨_,rfl⟩
    have HBL:=Lib.hid hbl
    cases bl
    ·have HX:Hid (eqS lines F G=false):=Lib.hid (by rw [HQ.out,HBL.out];simp)
     obtain⟨rfl,el⟩:lines=true/\l1≠l2:=by
      cases lines
      ·simp at hbl
      ·simp at hbl;exact⟨rfl,hbl⟩
     have d1:(l1==l2)=false:=beq_eq_false_iff_ne.2 el
     have d2:(l1 != l2)=true:=bne_iff_ne.2 el
     clear el hbl
     go_upto_region 6 with fail
     dsimp only [List.append]
     refine wp_region_below (by kernel_rfl) (by kernel_rfl) ?_
     repeat (go_big_quiet_step ((first | fail)))
     refine wpQuiet_nil ?_
     intro wb hbb
     have HBB:=Lib.hid hbb
     clear hbb y0 y1 y2 y3 y4 y5 z0 z1 z2 z3 z4 z5
     go_wp2_with fail
     refine bodyPost_ret (v:=.bool false) (by simp [results,Tryd.results27,go_sem]) rfl ?_
     exact HEND.out HX.out _ _ rfl HBB.out
    have hll:lines=false\/(lines=true/\l1=l2):=by
     cases lines
     ·exact .inl rfl
     ·simp at hbl;exact .inr ⟨rfl,hbl⟩
    clear hbl
    have HS:Hid (eqS lines F G=((eqF lines xs1 xs2&&(eqS lines th1 th2&&eqS lines el1 el2))&&eqS lines (F.drop (i+1)) (G.drop (i+1)))):=Lib.hid (by rw [HQ.out,HBL.out];simp)
    rcases hll with rfl | ⟨rfl,rfl⟩
    ·cases hx:eqF false xs1 xs2
     ·have HX:Hid (eqS false F G=false):=Lib.hid (by rw [HS.out,hx];simp)
      rw [hx] at HCX
      clear hx
      go_upto_region 6 with fail
      dsimp only [List.append]
      refine wp_region_below (by kernel_rfl) (by kernel_rfl) ?_
      repeat (go_big_quiet_step ((first | (go_at_call 41;exact calls_since _ (HCX.out _ (Since.property _))))))
      refine wpQuiet_nil ?_
      intro wb hbb
      have HBB:=Lib.hid hbb
      clear hbb y0 y1 y2 y3 y4 y5 z0 z1 z2 z3 z4 z5
      go_wp2_with fail
      refine bodyPost_ret (v:=.bool false) (by simp [results,Tryd.results27,go_sem]) rfl ?_
      exact HEND.out HX.out _ _ rfl HBB.out
     rw [hx] at HCX HS
     clear hx
     cases ht:eqS false th1 th2
     ·have HX:Hid (eqS false F G=false):=Lib.hid (by rw [HS.out,ht];simp)
      rw [ht] at HCT
      clear ht
      go_upto_region 6 with fail
      dsimp only [List.append]
      refine wp_region_below (by kernel_rfl) (by kernel_rfl) ?_
      repeat (go_big_quiet_step ((first | (go_at_call 41;exact calls_since _ (HCX.out _ (Since.property _))) | (go_at_call 27;first | with_reducible exact calls_since _ (HCT.out _ (Since.property _))))))
      refine wpQuiet_nil ?_
      intro wb hbb
      have HBB:=Lib.hid hbb
      clear hbb y0 y1 y2 y3 y4 y5 z0 z1 z2 z3 z4 z5
      go_wp2_with fail
      refine bodyPost_ret (v:=.bool false) (by simp [results,Tryd.results27,go_sem]) rfl ?_
      exact HEND.out HX.out _ _ rfl HBB.out
     rw [ht] at HCT HS
     clear ht
     cases he:eqS false el1 el2
     ·have HX:Hid (eqS false F G=false):=Lib.hid (by rw [HS.out,he];simp)
      rw [he] at HCE
      clear he
      go_upto_region 6 with fail
      dsimp only [List.append]
      refine wp_region_below (by kernel_rfl) (by kernel_rfl) ?_
      repeat (go_big_quiet_step ((first | (go_at_call 41;exact calls_since _ (HCX.out _ (Since.property _))) | (go_at_call 27;first | with_reducible exact calls_since _ (HCT.out _ (Since.property _)) | with_reducible exact calls_since _ (HCE.out _ (Since.property _))))))
      refine wpQuiet_nil ?_
      intro wb hbb
      have HBB:=Lib.hid hbb
      clear hbb y0 y1 y2 y3 y4 y5 z0 z1 z2 z3 z4 z5
      go_wp2_with fail
      refine bodyPost_ret (v:=.bool false) (by simp [results,Tryd.results27,go_sem]) rfl ?_
      exact HEND.out HX.out _ _ rfl HBB.out
     have HX:Hid (eqS false F G=eqS false (F.drop (i+1)) (G.drop (i+1))):=Lib.hid (by rw [HS.out,he];simp)
     rw [he] at HCE
     clear he
     go_upto_region 6 with fail
     dsimp only [List.append]
     refine wp_region_below (by kernel_rfl) (by kernel_rfl) ?_
     repeat (go_big_quiet_step ((first | (go_at_call 41;exact calls_since _ (HCX.out _ (Since.property _))) | (go_at_call 27;first | with_reducible exact calls_since _ (HCT.out _ (Since.property _)) | with_reducible exact calls_since _ (HCE.out _ (Since.property _))))))
     refine wpQuiet_nil ?_
     intro wb hbb
     have HBB:=Lib.hid hbb
     clear hbb y0 y1 y2 y3 y4 y5 z0 z1 z2 z3 z4 z5
     go_wp2_with fail
     go_roundw
     case rel=>exact⟨i+1,by go_num,by omega,Lib.hid ⟨HL.out.1.trans (HBB.out.mono HL.out.1.size),HX.out⟩⟩
     case measure=>simp [natOf];omega
    ·cases hx:eqF true xs1 xs2
     ·have HX:Hid (eqS true F G=false):=Lib.hid (by rw [HS.out,hx];simp)
      rw [hx] at HCX
      clear hx
      go_upto_region 6 with fail
      dsimp only [List.append]
      refine wp_region_below (by kernel_rfl) (by kernel_rfl) ?_
      repeat (go_big_quiet_step ((first | (go_at_call 41;exact calls_since _ (HCX.out _ (Since.property _))))))
      refine wpQuiet_nil ?_
      intro wb hbb
      have HBB:=Lib.hid hbb
      clear hbb y0 y1 y2 y3 y4 y5 z0 z1 z2 z3 z4 z5
      go_wp2_with fail
      refine bodyPost_ret (v:=.bool false) (by simp [results,Tryd.results27,go_sem]) rfl ?_
      exact HEND.out HX.out _ _ rfl HBB.out
     rw [hx] at HCX HS
     clear hx
     cases ht:eqS true th1 th2
     ·have HX:Hid (eqS true F G=false):=Lib.hid (by rw [HS.out,ht];simp)
      rw [ht] at HCT
      clear ht
      go_upto_region 6 with fail
      dsimp only [List.append]
      refine wp_region_below (by kernel_rfl) (by kernel_rfl) ?_
      repeat (go_big_quiet_step ((first | (go_at_call 41;exact calls_since _ (HCX.out _ (Since.property _))) | (go_at_call 27;first | with_reducible exact calls_since _ (HCT.out _ (Since.property _))))))
      refine wpQuiet_nil ?_
      intro wb hbb
      have HBB:=Lib.hid hbb
      clear hbb y0 y1 y2 y3 y4 y5 z0 z1 z2 z3 z4 z5
      go_wp2_with fail
      refine bodyPost_ret (v:=.bool false) (by simp [results,Tryd.results27,go_sem]) rfl ?_
      exact HEND.out HX.out _ _ rfl HBB.out
     rw [ht] at HCT HS
     clear ht
     cases he:eqS true el1 el2
     ·have HX:Hid (eqS true F G=false):=Lib.hid (by rw [HS.out,he];simp)
      rw [he] at HCE
      clear he
      go_upto_region 6 with fail
      dsimp only [List.append]
      refine wp_region_below (by kernel_rfl) (by kernel_rfl) ?_
      repeat (go_big_quiet_step ((first | (go_at_call 41;exact calls_since _ (HCX.out _ (Since.property _))) | (go_at_call 27;first | with_reducible exact calls_since _ (HCT.out _ (Since.property _)) | with_reducible exact calls_since _ (HCE.out _ (Since.property _))))))
      refine wpQuiet_nil ?_
      intro wb hbb
      have HBB:=Lib.hid hbb
      clear hbb y0 y1 y2 y3 y4 y5 z0 z1 z2 z3 z4 z5
      go_wp2_with fail
      refine bodyPost_ret (v:=.bool false) (by simp [results,Tryd.results27,go_sem]) rfl ?_
      exact HEND.out HX.out _ _ rfl HBB.out
     have HX:Hid (eqS true F G=eqS true (F.drop (i+1)) (G.drop (i+1))):=Lib.hid (by rw [HS.out,he];simp)
     rw [he] at HCE
     clear he
     go_upto_region 6 with fail
     dsimp only [List.append]
     refine wp_region_below (by kernel_rfl) (by kernel_rfl) ?_
     repeat (go_big_quiet_step ((first | (go_at_call 41;exact calls_since _ (HCX.out _ (Since.property _))) | (go_at_call 27;first | with_reducible exact calls_since _ (HCT.out _ (Since.property _)) | with_reducible exact calls_since _ (HCE.out _ (Since.property _))))))
     refine wpQuiet_nil ?_
     intro wb hbb
     have HBB:=Lib.hid hbb
     clear hbb y0 y1 y2 y3 y4 y5 z0 z1 z2 z3 z4 z5
     go_wp2_with fail
     go_roundw
     case rel=>exact⟨i+1,by go_num,by omega,Lib.hid ⟨HL.out.1.trans (HBB.out.mono HL.out.1.size),HX.out⟩⟩
     case measure=>simp [natOf];omega
   ·obtain rfl:i=n:=by omega
    have HX:Hid (eqS lines F G=true):=Lib.hid (by
     have e1:=Sf.drop_len F
     have e2:=Sf.drop_len G
     rw [HN.out.1] at e1
     rw [HN.out.2] at e2
     rw [HL.out.2,e1,e2]
     rfl)
    go_wp2_with fail
    refine bodyPost_ret (v:=.bool true) (by simp [results,Tryd.results27,go_sem]) rfl ?_
    exact⟨by rw [HX.out],HL.out.1⟩
theorem stmts_sub (F:Sf) : ∀ j x,F.gt1 j=some x->YC x.th/\YC x.el:=by
 induction F with
 | nil=>intro j x hx;cases hx
 | cons k ln nm xs th el r i1 i2 i3 =>
  intro j x hx
  cases j with
  | zero =>
   have e:(⟨k,ln,nm,xs,th,el⟩:Sx1)=x:=by injection hx
   subst e
   exact⟨stmts_step th i1,stmts_step el i2⟩
  | succ j=>exact i3 j x hx
theorem stmts_any (F:Sf):YC F:=stmts_step F (stmts_sub F)
end Go.Proofs.YtpcdinelpfbpfaaDoor
