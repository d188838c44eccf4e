/-
  WORDS, PLAIN LAWS and WALKS (QuS QuE SyX), pressed. (Filled in from templates of this repo.)
-/
import Derived.Test.YtldgghnjminhiaaGreatDoorG5
import Derived.Test.YtldgghnjminhiaaGreatDoorG11
import Derived.Laws.StructEq
namespace Go.Proofs.YtldgghnjminhiaaGreatDoor
open Go Go.ChangeAt Go.ChangeShapes Go.RowKit Go.WideShapes
set_option linter.unusedVariables false
set_option linter.unusedSimpArgs false
set_option maxRecDepth 100000
set_option maxHeartbeats 16000000
structure Sx1 where
 k:Int
 ln:Int
 nm:Bt
 xs:Fo
 th:Sf
 el:Sf
def Sf.gt1:Sf->Nat->Option Sx1
 | .nil,_=>none
 | .cons k ln nm xs th el _,0=>some ⟨k,ln,nm,xs,th,el⟩
 | .cons _ _ _ _ _ _ r,i+1=>r.gt1 i
def Sf.drop:Sf->Nat->Sf
 | S,0=>S
 | .nil,_+1=>.nil
 | .cons _ _ _ _ _ _ r,i+1=>r.drop i
theorem Sf.drop_zero (S:Sf):S.drop 0=S:=by cases S<;>rfl
theorem Sf.drop_get {S:Sf} {i:Nat} {x:Sx1} (h:S.gt1 i=some x):S.drop i=.cons x.k x.ln x.nm x.xs x.th x.el (S.drop (i+1)):=by
 induction S generalizing i with
 | nil=>cases h
 | cons k ln nm xs th el r _ _ ih =>
  cases i with
  | zero=>injection h with h;subst h;cases r<;>rfl
  | succ i =>
   have:=ih (i:=i) h
   show r.drop i=_
   rw[this]
   rfl
theorem Sf.drop_len (S:Sf):S.drop S.len=.nil:=by
 induction S with
 | nil=>rfl
 | cons k ln nm xs th el r _ _ ih=>exact ih
theorem Sf.got_lt {S:Sf} {i:Nat} (h:i<S.len):∃ x,S.gt1 i=some x:=by
 induction S generalizing i with
 | nil=>exact absurd h (Nat.not_lt_zero _)
 | cons k ln nm xs th el r _ _ ih =>
  cases i with
  | zero=>exact⟨_,rfl⟩
  | succ i=>exact ih (i:=i) (by have h:i+1<r.len+1:=h;omega)
theorem Zz.got {w:World} {P:Nat->Prop} {S:Sf} {cs:List Value} (h:Zz w P S cs) {j:Nat} {x:Sx1} (hj:S.gt1 j=some x):∃ sl vt ve,Xk w P x.xs sl/\Xl w P x.th vt/\Xl w P x.el ve/\∀ i u,(stc x.k x.ln x.nm sl vt ve)[i]?=some u->cs[j*6+i]?=some u:=by
 induction S generalizing cs j with
 | nil=>cases hj
 | cons k ln nm xs th el r _ _ ih =>
  obtain⟨slx,at_,ct,rt,ae,ce,re,cs',rfl,h1,h2,h3,h4,h5,h6,h7,h8,h9,h10,h11,h12⟩:=h
  cases j with
  | zero =>
   have e:(⟨k,ln,nm,xs,th,el⟩:Sx1)=x:=by injection hj
   subst e
   refine⟨_,_,_,h1,⟨at_,ct,rt,rfl,h2,h3,h4,h5,h6⟩,⟨ae,ce,re,rfl,h7,h8,h9,h10,h11⟩,λ i u hi=>?_⟩
   have:i<6:=(List.getElem?_eq_some_iff.1 hi).1
   rw[Nat.zero_mul,Nat.zero_add,List.getElem?_append_left (by simpa using this)]
   exact hi
  | succ j =>
   obtain⟨sl,vt,ve,k1,k2,k3,k4⟩:=ih h12 hj
   refine⟨sl,vt,ve,k1,k2,k3,λ i u hi=>?_⟩
   rw[List.getElem?_append_right (by show 6<=_;omega)]
   have e:(j+1)*6+i-6=j*6+i:=by omega
   show cs'[(j+1)*6+i-6]?=_
   rw[e]
   exact k4 i u hi
theorem Xl.le {w:World} {P:Nat->Prop} {S:Sf} {v:Value} (h:Xl w P S v):∃ a c,v=.slice a S.len c/\S.len<=maxLen:=by
 obtain⟨a,c,_,e,h1,h2,_⟩:=h
 exact⟨a,c,e,Nat.le_trans h1 h2⟩
theorem Xl.got {w:World} {P:Nat->Prop} {S:Sf} {a:Option Addr} {n c:Nat} (h:Xl w P S (.slice a n c)) {j:Nat} {x:Sx1} (hj:S.gt1 j=some x) :
  ∃ b off axs cxs ath cth ael cel,a=some ⟨b,off,none⟩/\b<w.heap.size/\Xk w P x.xs (.slice axs x.xs.len cxs)/\Xl w P x.th (.slice ath x.th.len cth)/\Xl w P x.el (.slice ael x.el.len cel)/\w.cell? ⟨b,off+j*6,none⟩=some (.int .i64 x.k)/\w.cell? ⟨b,off+j*6+1,none⟩=some (.int .i64 x.ln)/\w.cell? ⟨b,off+j*6+2,none⟩=some (.string (st x.nm)) /\
   w.cell? ⟨b,off+j*6+3,none⟩=some (.slice axs x.xs.len cxs)/\w.cell? ⟨b,off+j*6+4,none⟩=some (.slice ath x.th.len cth)/\w.cell? ⟨b,off+j*6+5,none⟩=some (.slice ael x.el.len cel):=by
 obtain⟨a',cap,rws,e,h1,h2,h3,h4,h5⟩:=h
 injection e with e1 e2 e3
 subst e1
 obtain⟨sl,vt,ve,hx,ht,he,hc⟩:=h5.got hj
 have hc0:=hc 0 _ rfl
 obtain⟨b,off,ea,_,hb,hjx⟩:=h4 (λ e=>by rw[e] at hc0;cases hc0)
 have hk:∀ i u,(stc x.k x.ln x.nm sl vt ve)[i]?=some u->w.cell? ⟨b,off+(j*6+i),none⟩=some u:=λ i u hi=>hjx _ _ (hc i u hi)
 obtain⟨axs,cxs,rfl,_⟩:=hx.le
 obtain⟨ath,cth,rfl,_⟩:=ht.le
 obtain⟨ael,cel,rfl,_⟩:=he.le
 refine⟨b,off,axs,cxs,ath,cth,ael,cel,ea,hb,hx,ht,he,hk 0 _ rfl,?_,?_,?_,?_,?_⟩<;>rw[Nat.add_assoc]
 ·exact hk 1 _ rfl
 ·exact hk 2 _ rfl
 ·exact hk 3 _ rfl
 ·exact hk 4 _ rfl
 exact hk 5 _ rfl
def YC (S:Sf):Prop:=∀ (lines:Bool) (P Q:Nat->Prop) (G:Sf) (va vb:Value) (w:World),Xl w P S va->Xl w Q G vb ->
 Calls Tryz.prog 61 #[va,vb,.bool lines] w λ e w'=>e=.returned (.bool (eqS lines S G))/\Below w.heap.size w w'
theorem Kf (F:Sf) (hE:∀ j x,F.gt1 j=some x->YC x.th/\YC x.el):YC F:=by
 intro lines P Q G va vb w hF hG
 obtain⟨a,ca,rfl,hFm⟩:=hF.le
 obtain⟨b,cb,rfl,hGm⟩:=hG.le
 have HF:=Xj hF
 have HG:=Xj hG
 have HE:=Xj hE
 obtain⟨n,hn⟩:∃ n,F.len=n:=⟨_,rfl⟩
 obtain⟨m,hm⟩:∃ n,G.len=n:=⟨_,rfl⟩
 have HN:=Xj (And.intro hn hm)
 have hFm2:n<=9223372036854775807:=by rw[<- hn];unfold maxLen at hFm;omega
 rw[hn] at HF ⊢
 rw[hm] at HG ⊢
 clear hF hG hE hn hm hFm hGm
 go_enter Tryz.func61,Tryz.ntmps61
 by_cases hnm:n=m
 rotate_left
 ·have d1:(n==m)=false:=by rw[beq_eq_false_iff_ne];exact hnm
  have d2:((n:Int)==(m:Int))=false:=by rw[beq_eq_false_iff_ne];omega
  have d3:((n:Int) != (m:Int))=true:=by rw[bne_iff_ne];omega
  have HX:Xq (eqS lines F G=false):=Xj (Oz (by rw[HN.o.1,HN.o.2];exact hnm))
  clear hnm
  go_wp2_with fail
  refine bodyPost_ret (v:=.bool false) (by simp[results,Tryz.results61,go_sem]) rfl ?_
  exact⟨by rw[HX.o],Below.refl _ _⟩
 subst hnm
 go_upto_block 0 with fail
 go_wp2_with fail
 go_loopw [7] (λ v7 wr=>∃ i:Nat,v7=.int .i64 (i:Int)/\i<=n/\Xq (Below w.heap.size w wr/\eqS lines F G=eqS lines (F.drop i) (G.drop i))) (λ v7 _=>n-Jt v7)
 case atStart=>exact⟨0,rfl,Nat.zero_le _,Xj ⟨Below.refl _ _,by rw[Sf.drop_zero,Sf.drop_zero]⟩⟩
 rename World=>wa
 obtain⟨i,rfl,hin,HL⟩:=hrel
 by_cases hlt:i<n
 ·obtain⟨⟨k1,l1,n1,xs1,th1,el1⟩,hx⟩:=Sf.got_lt (S:=F) (i:=i) (by rw[HN.o.1];exact hlt)
  obtain⟨⟨k2,l2,n2,xs2,th2,el2⟩,hy⟩:=Sf.got_lt (S:=G) (i:=i) (by rw[HN.o.2];exact hlt)
  obtain⟨b1,of1,ax1,cx1,at1,ct1,ae1,ce1,rfl,hb1,hX1,hT1,hE1,p0,p1,p2,p3,p4,p5⟩:=(HF.o.keep (Q:=P) (λ b hb hlt=>⟨HL.o.1.block b hlt,hb⟩) HL.o.1.size).got hx
  obtain⟨b2,of2,ax2,cx2,at2,ct2,ae2,ce2,rfl,hb2,hX2,hT2,hE2,q0,q1,q2,q3,q4,q5⟩:=(HG.o.keep (Q:=Q) (λ b hb hlt=>⟨HL.o.1.block b hlt,hb⟩) HL.o.1.size).got hy
  have HCX:Xq (∀ W,Below wa.heap.size wa W->Calls Tryz.prog 106 #[.slice ax1 xs1.len cx1,.slice ax2 xs2.len cx2,.bool lines] W λ e w'=>e=.returned (.bool (eqF lines xs1 xs2))/\Below W.heap.size W w'):=Xj (λ W hW=>Tg xs1 lines P Q xs2 _ _ W (hX1.keep (λ b hb hlt=>⟨hW.block b hlt,hb⟩) hW.size) (hX2.keep (λ b hb hlt=>⟨hW.block b hlt,hb⟩) hW.size))
  have HCT:Xq (∀ W,Below wa.heap.size wa W->Calls Tryz.prog 61 #[.slice at1 th1.len ct1,.slice at2 th2.len ct2,.bool lines] W λ e w'=>e=.returned (.bool (eqS lines th1 th2))/\Below W.heap.size W w'):=Xj (λ W hW=>(HE.o i _ hx).1 lines P Q th2 _ _ W (hT1.keep (λ b hb hlt=>⟨hW.block b hlt,hb⟩) hW.size) (hT2.keep (λ b hb hlt=>⟨hW.block b hlt,hb⟩) hW.size))
  have HCE:Xq (∀ W,Below wa.heap.size wa W->Calls Tryz.prog 61 #[.slice ae1 el1.len ce1,.slice ae2 el2.len ce2,.bool lines] W λ e w'=>e=.returned (.bool (eqS lines el1 el2))/\Below W.heap.size W w'):=Xj (λ W hW=>(HE.o i _ hx).2 lines P Q el2 _ _ W (hE1.keep (λ b hb hlt=>⟨hW.block b hlt,hb⟩) hW.size) (hE2.keep (λ b hb hlt=>⟨hW.block b hlt,hb⟩) hW.size))
  have HQ:Xq (eqS lines F G=((k1==k2&&(n1==n2&&((!lines||l1==l2)&&(eqF lines xs1 xs2&&(eqS lines th1 th2&&eqS lines el1 el2)))))&&eqS lines (F.drop (i+1)) (G.drop (i+1)))):=Xj (by
   rw[HL.o.2,Sf.drop_get hx,Sf.drop_get hy]
   rfl)
  have hqt:(i:Int)<(n:Int):=by omega
  have hi0:(0:Int)<=(i:Int):=by omega
  (try dsimp only at p0 p1 p2 p3 p4 p5 q0 q1 q2 q3 q4 q5)
  obtain⟨nx1,hcn⟩:∃ x,xs1.len=x:=⟨_,rfl⟩
  obtain⟨nx2,hqs⟩:∃ x,xs2.len=x:=⟨_,rfl⟩
  obtain⟨nt1,hcr⟩:∃ x,th1.len=x:=⟨_,rfl⟩
  obtain⟨nt2,hct⟩:∃ x,th2.len=x:=⟨_,rfl⟩
  obtain⟨ne1,hfj⟩:∃ x,el1.len=x:=⟨_,rfl⟩
  obtain⟨ne2,hfq⟩:∃ x,el2.len=x:=⟨_,rfl⟩
  rw[hcn,hqs] at HCX
  rw[hcr,hct] at HCT
  rw[hfj,hfq] at HCE
  rw[hcn] at p3
  rw[hqs] at q3
  rw[hcr] at p4
  rw[hct] at q4
  rw[hfj] at p5
  rw[hfq] at q5
  clear hx hy hX1 hX2 hT1 hT2 hE1 hE2 hcn hqs hcr hct hfj hfq
  have hjw:Xq (eqS lines F G=false->∀ (e:Ending) (wz:World),e=.returned (.bool false)->Below wa.heap.size wa wz->e=.returned (.bool (eqS lines F G))/\Below w.heap.size w wz):=Xj (λ h1 e wz he hb=>⟨by rw[h1];exact he,HL.o.1.trans (hb.mono HL.o.1.size)⟩)
  have y0:∀ x:Xy wa,x.val.cell? ⟨b1,of1+i*6,none⟩=some (.int .i64 k1):=λ x=>x.cell p0
  have y1:∀ x:Xy wa,x.val.cell? ⟨b1,of1+i*6+1,none⟩=some (.int .i64 l1):=λ x=>x.cell p1
  have y2:∀ x:Xy wa,x.val.cell? ⟨b1,of1+i*6+2,none⟩=some (.string (st n1)):=λ x=>x.cell p2
  have y3:∀ x:Xy wa,x.val.cell? ⟨b1,of1+i*6+3,none⟩=some (.slice ax1 nx1 cx1):=λ x=>x.cell p3
  have y4:∀ x:Xy wa,x.val.cell? ⟨b1,of1+i*6+4,none⟩=some (.slice at1 nt1 ct1):=λ x=>x.cell p4
  have y5:∀ x:Xy wa,x.val.cell? ⟨b1,of1+i*6+5,none⟩=some (.slice ae1 ne1 ce1):=λ x=>x.cell p5
  have z0:∀ x:Xy wa,x.val.cell? ⟨b2,of2+i*6,none⟩=some (.int .i64 k2):=λ x=>x.cell q0
  have z1:∀ x:Xy wa,x.val.cell? ⟨b2,of2+i*6+1,none⟩=some (.int .i64 l2):=λ x=>x.cell q1
  have z2:∀ x:Xy wa,x.val.cell? ⟨b2,of2+i*6+2,none⟩=some (.string (st n2)):=λ x=>x.cell q2
  have z3:∀ x:Xy wa,x.val.cell? ⟨b2,of2+i*6+3,none⟩=some (.slice ax2 nx2 cx2):=λ x=>x.cell q3
  have z4:∀ x:Xy wa,x.val.cell? ⟨b2,of2+i*6+4,none⟩=some (.slice at2 nt2 ct2):=λ x=>x.cell q4
  have z5:∀ x:Xy wa,x.val.cell? ⟨b2,of2+i*6+5,none⟩=some (.slice ae2 ne2 ce2):=λ x=>x.cell q5
  clear p0 p1 p2 p3 p4 p5 q0 q1 q2 q3 q4 q5
  by_cases ek:k1=k2
  rotate_left
  ·have d1:(k1==k2)=false:=beq_eq_false_iff_ne.2 ek
   have d2:(k1 != k2)=true:=bne_iff_ne.2 ek
   have HX:Xq (eqS lines F G=false):=Xj (by rw[HQ.o,d1];rfl)
   clear ek
   go_upto_region 6 with fail
   dsimp only[List.append]
   refine Xn (by kernel_rfl) (by kernel_rfl) ?_
   repeat (go_big_quiet_step ((first|fail)))
   refine wpQuiet_nil ?_
   intro wb hbb
   have HBB:=Xj hbb
   clear hbb y0 y1 y2 y3 y4 y5 z0 z1 z2 z3 z4 z5
   go_wp2_with fail
   refine bodyPost_ret (v:=.bool false) (by simp[results,Tryz.results61,go_sem]) rfl ?_
   exact hjw.o HX.o _ _ rfl HBB.o
  subst ek
  by_cases en:n1=n2
  rotate_left
  ·have d1:(n1==n2)=false:=beq_eq_false_iff_ne.2 en
   have d2:(n1 != n2)=true:=bne_iff_ne.2 en
   have HX:Xq (eqS lines F G=false):=Xj (by rw[HQ.o,d1];simp)
   clear en
   go_upto_region 6 with fail
   dsimp only[List.append]
   refine Xn (by kernel_rfl) (by kernel_rfl) ?_
   repeat (go_big_quiet_step ((first|fail)))
   refine wpQuiet_nil ?_
   intro wb hbb
   have HBB:=Xj hbb
   clear hbb y0 y1 y2 y3 y4 y5 z0 z1 z2 z3 z4 z5
   go_wp2_with fail
   refine bodyPost_ret (v:=.bool false) (by simp[results,Tryz.results61,go_sem]) rfl ?_
   exact hjw.o HX.o _ _ rfl HBB.o
  subst en
  obtain⟨bl,hbl⟩:∃ b,(!lines||l1==l2)=b:=⟨_,rfl⟩
  have HBL:=Xj hbl
  cases bl
  ·have HX:Xq (eqS lines F G=false):=Xj (by rw[HQ.o,HBL.o];simp)
   obtain⟨rfl,el⟩:lines=true/\l1≠l2:=by
    cases lines
    ·simp at hbl
    simp at hbl;exact⟨rfl,hbl⟩
   have d1:(l1==l2)=false:=beq_eq_false_iff_ne.2 el
   have d2:(l1 != l2)=true:=bne_iff_ne.2 el
   clear el hbl
   go_upto_region 6 with fail
   dsimp only[List.append]
   refine Xn (by kernel_rfl) (by kernel_rfl) ?_
   repeat (go_big_quiet_step ((first|fail)))
   refine wpQuiet_nil ?_
   intro wb hbb
   have HBB:=Xj hbb
   clear hbb y0 y1 y2 y3 y4 y5 z0 z1 z2 z3 z4 z5
   go_wp2_with fail
   refine bodyPost_ret (v:=.bool false) (by simp[results,Tryz.results61,go_sem]) rfl ?_
   exact hjw.o HX.o _ _ rfl HBB.o
  have hll:lines=false\/(lines=true/\l1=l2):=by
   cases lines
   ·exact .inl rfl
   simp at hbl;exact .inr ⟨rfl,hbl⟩
  clear hbl
  have HS:Xq (eqS lines F G=((eqF lines xs1 xs2&&(eqS lines th1 th2&&eqS lines el1 el2))&&eqS lines (F.drop (i+1)) (G.drop (i+1)))):=Xj (by rw[HQ.o,HBL.o];simp)
  rcases hll with rfl|⟨rfl,rfl⟩
  ·cases hx:eqF false xs1 xs2
   ·have HX:Xq (eqS false F G=false):=Xj (by rw[HS.o,hx];simp)
    rw[hx] at HCX
    clear hx
    go_upto_region 6 with fail
    dsimp only[List.append]
    refine Xn (by kernel_rfl) (by kernel_rfl) ?_
    repeat (go_big_quiet_step ((first|(go_at_call 106;exact Xd _ (HCX.o _ (Xy.property _))))))
    refine wpQuiet_nil ?_
    intro wb hbb
    have HBB:=Xj hbb
    clear hbb y0 y1 y2 y3 y4 y5 z0 z1 z2 z3 z4 z5
    go_wp2_with fail
    refine bodyPost_ret (v:=.bool false) (by simp[results,Tryz.results61,go_sem]) rfl ?_
    exact hjw.o HX.o _ _ rfl HBB.o
   rw[hx] at HCX HS
   clear hx
   cases ht:eqS false th1 th2
   ·have HX:Xq (eqS false F G=false):=Xj (by rw[HS.o,ht];simp)
    rw[ht] at HCT
    clear ht
    go_upto_region 6 with fail
    dsimp only[List.append]
    refine Xn (by kernel_rfl) (by kernel_rfl) ?_
    repeat (go_big_quiet_step ((first|(go_at_call 106;exact Xd _ (HCX.o _ (Xy.property _)))|(go_at_call 61;first|with_reducible exact Xd _ (HCT.o _ (Xy.property _))))))
    refine wpQuiet_nil ?_
    intro wb hbb
    have HBB:=Xj hbb
    clear hbb y0 y1 y2 y3 y4 y5 z0 z1 z2 z3 z4 z5
    go_wp2_with fail
    refine bodyPost_ret (v:=.bool false) (by simp[results,Tryz.results61,go_sem]) rfl ?_
    exact hjw.o HX.o _ _ rfl HBB.o
   rw[ht] at HCT HS
   clear ht
   cases he:eqS false el1 el2
   ·have HX:Xq (eqS false F G=false):=Xj (by rw[HS.o,he];simp)
    rw[he] at HCE
    clear he
    go_upto_region 6 with fail
    dsimp only[List.append]
    refine Xn (by kernel_rfl) (by kernel_rfl) ?_
    repeat (go_big_quiet_step ((first|(go_at_call 106;exact Xd _ (HCX.o _ (Xy.property _)))|(go_at_call 61;first|with_reducible exact Xd _ (HCT.o _ (Xy.property _))|with_reducible exact Xd _ (HCE.o _ (Xy.property _))))))
    refine wpQuiet_nil ?_
    intro wb hbb
    have HBB:=Xj hbb
    clear hbb y0 y1 y2 y3 y4 y5 z0 z1 z2 z3 z4 z5
    go_wp2_with fail
    refine bodyPost_ret (v:=.bool false) (by simp[results,Tryz.results61,go_sem]) rfl ?_
    exact hjw.o HX.o _ _ rfl HBB.o
   have HX:Xq (eqS false F G=eqS false (F.drop (i+1)) (G.drop (i+1))):=Xj (by rw[HS.o,he];simp)
   rw[he] at HCE
   clear he
   go_upto_region 6 with fail
   dsimp only[List.append]
   refine Xn (by kernel_rfl) (by kernel_rfl) ?_
   repeat (go_big_quiet_step ((first|(go_at_call 106;exact Xd _ (HCX.o _ (Xy.property _)))|(go_at_call 61;first|with_reducible exact Xd _ (HCT.o _ (Xy.property _))|with_reducible exact Xd _ (HCE.o _ (Xy.property _))))))
   refine wpQuiet_nil ?_
   intro wb hbb
   have HBB:=Xj hbb
   clear hbb y0 y1 y2 y3 y4 y5 z0 z1 z2 z3 z4 z5
   go_wp2_with fail
   go_roundw
   case rel=>exact⟨i+1,by go_num,by omega,Xj ⟨HL.o.1.trans (HBB.o.mono HL.o.1.size),HX.o⟩⟩
   simp[Jt];omega
  cases hx:eqF true xs1 xs2
  ·have HX:Xq (eqS true F G=false):=Xj (by rw[HS.o,hx];simp)
   rw[hx] at HCX
   clear hx
   go_upto_region 6 with fail
   dsimp only[List.append]
   refine Xn (by kernel_rfl) (by kernel_rfl) ?_
   repeat (go_big_quiet_step ((first|(go_at_call 106;exact Xd _ (HCX.o _ (Xy.property _))))))
   refine wpQuiet_nil ?_
   intro wb hbb
   have HBB:=Xj hbb
   clear hbb y0 y1 y2 y3 y4 y5 z0 z1 z2 z3 z4 z5
   go_wp2_with fail
   refine bodyPost_ret (v:=.bool false) (by simp[results,Tryz.results61,go_sem]) rfl ?_
   exact hjw.o HX.o _ _ rfl HBB.o
  rw[hx] at HCX HS
  clear hx
  cases ht:eqS true th1 th2
  ·have HX:Xq (eqS true F G=false):=Xj (by rw[HS.o,ht];simp)
   rw[ht] at HCT
   clear ht
   go_upto_region 6 with fail
   dsimp only[List.append]
   refine Xn (by kernel_rfl) (by kernel_rfl) ?_
   repeat (go_big_quiet_step ((first|(go_at_call 106;exact Xd _ (HCX.o _ (Xy.property _)))|(go_at_call 61;first|with_reducible exact Xd _ (HCT.o _ (Xy.property _))))))
   refine wpQuiet_nil ?_
   intro wb hbb
   have HBB:=Xj hbb
   clear hbb y0 y1 y2 y3 y4 y5 z0 z1 z2 z3 z4 z5
   go_wp2_with fail
   refine bodyPost_ret (v:=.bool false) (by simp[results,Tryz.results61,go_sem]) rfl ?_
   exact hjw.o HX.o _ _ rfl HBB.o
  rw[ht] at HCT HS
  clear ht
  cases he:eqS true el1 el2
  ·have HX:Xq (eqS true F G=false):=Xj (by rw[HS.o,he];simp)
   rw[he] at HCE
   clear he
   go_upto_region 6 with fail
   dsimp only[List.append]
   refine Xn (by kernel_rfl) (by kernel_rfl) ?_
   repeat (go_big_quiet_step ((first|(go_at_call 106;exact Xd _ (HCX.o _ (Xy.property _)))|(go_at_call 61;first|with_reducible exact Xd _ (HCT.o _ (Xy.property _))|with_reducible exact Xd _ (HCE.o _ (Xy.property _))))))
   refine wpQuiet_nil ?_
   intro wb hbb
   have HBB:=Xj hbb
   clear hbb y0 y1 y2 y3 y4 y5 z0 z1 z2 z3 z4 z5
   go_wp2_with fail
   refine bodyPost_ret (v:=.bool false) (by simp[results,Tryz.results61,go_sem]) rfl ?_
   exact hjw.o HX.o _ _ rfl HBB.o
  have HX:Xq (eqS true F G=eqS true (F.drop (i+1)) (G.drop (i+1))):=Xj (by rw[HS.o,he];simp)
  rw[he] at HCE
  clear he
  go_upto_region 6 with fail
  dsimp only[List.append]
  refine Xn (by kernel_rfl) (by kernel_rfl) ?_
  repeat (go_big_quiet_step ((first|(go_at_call 106;exact Xd _ (HCX.o _ (Xy.property _)))|(go_at_call 61;first|with_reducible exact Xd _ (HCT.o _ (Xy.property _))|with_reducible exact Xd _ (HCE.o _ (Xy.property _))))))
  refine wpQuiet_nil ?_
  intro wb hbb
  have HBB:=Xj hbb
  clear hbb y0 y1 y2 y3 y4 y5 z0 z1 z2 z3 z4 z5
  go_wp2_with fail
  go_roundw
  case rel=>exact⟨i+1,by go_num,by omega,Xj ⟨HL.o.1.trans (HBB.o.mono HL.o.1.size),HX.o⟩⟩
  simp[Jt];omega
 obtain rfl:i=n:=by omega
 have HX:Xq (eqS lines F G=true):=Xj (by
  have e1:=Sf.drop_len F
  have e2:=Sf.drop_len G
  rw[HN.o.1] at e1
  rw[HN.o.2] at e2
  rw[HL.o.2,e1,e2]
  rfl)
 go_wp2_with fail
 refine bodyPost_ret (v:=.bool true) (by simp[results,Tryz.results61,go_sem]) rfl ?_
 exact⟨by rw[HX.o],HL.o.1⟩
theorem Sb (F:Sf):∀ j x,F.gt1 j=some x->YC x.th/\YC x.el:=by
 induction F with
 | nil=>intro j x hx;cases hx
 | cons k ln nm xs th el r i1 i2 i3 =>
  intro j x hx
  cases j with
  | zero =>
   have e:(⟨k,ln,nm,xs,th,el⟩:Sx1)=x:=by injection hx
   subst e
   exact⟨Kf th i1,Kf el i2⟩
  | succ j=>exact i3 j x hx
theorem Sp (F:Sf):YC F:=Kf F (Sb F)
theorem Nl (a b:Bt) (x y:Int) (W:World):(binOp .neq 60 (.agg #[.string (st a),.int .i64 x]) (.agg #[.string (st b),.int .i64 y])).run Tryz.prog W=.ok (.bool (!(a==b&&x==y))) W:=by
 have h1:(st a).toList=a:=by simp
 have h2:(st b).toList=b:=by simp
 rw[run_neq_struct]
 go_simp
 by_cases h:a=b<;>by_cases k:x=y<;>simp[h,k]
theorem Cg {l:Bool} {fs gs:List Fu} (h:fs.length≠gs.length):Um l fs gs=false:=by
 induction fs generalizing gs with
 | nil =>
  cases gs with
  | nil=>exact absurd rfl h
  | cons _ _=>rfl
 | cons f fs ih =>
  cases gs with
  | nil=>rfl
  | cons g gs =>
   have:=ih (gs:=gs) (λ e=>h (by simp[e]))
   simp[Um,this]
theorem xjb (gs:List (Bt×Int)) (j:Nat) (x:Bt×Int) (h:gs[j]?=some x):(gcs gs)[j*2]?=some (.string (st x.1))/\(gcs gs)[j*2+1]?=some (.int .i64 x.2):=by
 induction gs generalizing j with
 | nil=>cases h
 | cons g gs ih =>
  cases j with
  | zero =>
   have e:g=x:=by simpa using h
   subst e
   exact⟨rfl,rfl⟩
  | succ j =>
   have:=ih j (by simpa using h)
   rw[show (j+1)*2=j*2+1+1 by omega]
   exact this
theorem Zh.gg {w:World} {P:Nat->Prop} {gs:List (Bt×Int)} {fs:List Fu} {ga:Option Addr} {n c:Nat} {vb:Value} (h:Zh w P gs fs (.slice ga n c) vb) {j:Nat} {x:Bt×Int} (hj:gs[j]?=some x) :
  ∃ b off,ga=some ⟨b,off,none⟩/\b<w.heap.size/\w.cell? ⟨b,off+j*2,none⟩=some (.string (st x.1))/\w.cell? ⟨b,off+j*2+1,none⟩=some (.int .i64 x.2):=by
 obtain⟨ga',gc,fa,fc,ys,h1,h2,h3,h4,h5,h6,h7,h8,h9⟩:=h
 injection h1 with e1 e2 e3
 subst e1
 obtain⟨k1,k2⟩:=xjb gs j x hj
 obtain⟨b,off,e,_,hb,hc⟩:=h7 (λ e=>by rw[e] at k1;cases k1)
 exact⟨b,off,e,hb,hc _ _ k1,by rw[Nat.add_assoc];exact hc _ _ k2⟩
theorem Jz.got {w:World} {P:Nat->Prop} {fs:List Fu} {cs:List Value} (h:Jz w P fs cs) {j:Nat} {x:Fu} (hj:fs[j]?=some x):∃ vp vb,Ux w P x.ps vp/\Xl w P x.S vb/\∀ i u,([.string (st x.nm),.int .i64 x.ln,vp,vb]:List Value)[i]?=some u->cs[j*4+i]?=some u:=by
 induction fs generalizing cs j with
 | nil=>cases hj
 | cons f fs ih =>
  obtain⟨vp,vb,cs',e,h1,h2,h3⟩:=h
  cases j with
  | zero =>
   have ef:f=x:=by simpa using hj
   subst ef
   refine⟨vp,vb,h1,h2,λ i u hi=>?_⟩
   have:i<4:=(List.getElem?_eq_some_iff.1 hi).1
   rw[e,Nat.zero_mul,Nat.zero_add,List.getElem?_append_left (by simpa using this)]
   exact hi
  | succ j =>
   obtain⟨vp2,vb2,k1,k2,k3⟩:=ih h3 (by simpa using hj)
   refine⟨vp2,vb2,k1,k2,λ i u hi=>?_⟩
   rw[e,List.getElem?_append_right (by show 4<=_;omega)]
   have e2:(j+1)*4+i-4=j*4+i:=by omega
   show cs'[(j+1)*4+i-4]?=_
   rw[e2]
   exact k3 i u hi
theorem Zh.gf {w:World} {P:Nat->Prop} {gs:List (Bt×Int)} {fs:List Fu} {fa:Option Addr} {n c:Nat} {va:Value} (h:Zh w P gs fs va (.slice fa n c)) {j:Nat} {x:Fu} (hj:fs[j]?=some x) :
  ∃ b off ap cp ab cb,fa=some ⟨b,off,none⟩/\b<w.heap.size/\Ux w P x.ps (.slice ap x.ps.length cp)/\Xl w P x.S (.slice ab x.S.len cb)/\w.cell? ⟨b,off+j*4,none⟩=some (.string (st x.nm))/\w.cell? ⟨b,off+j*4+1,none⟩=some (.int .i64 x.ln)/\w.cell? ⟨b,off+j*4+2,none⟩=some (.slice ap x.ps.length cp)/\w.cell? ⟨b,off+j*4+3,none⟩=some (.slice ab x.S.len cb):=by
 obtain⟨ga,gc,fa',fc,ys,h1,h2,h3,h4,h5,h6,h7,h8,h9⟩:=h
 injection h2 with e1 e2 e3
 subst e1
 obtain⟨vp,vb,k1,k2,k3⟩:=h9.got hj
 have k0:=k3 0 _ rfl
 obtain⟨b,off,e,_,hb,hc⟩:=h8 (λ e=>by rw[e] at k0;cases k0)
 obtain⟨ap,cp,rfl,_⟩:=id k1
 obtain⟨ab,cb,rfl,_⟩:=k2.le
 refine⟨b,off,ap,cp,ab,cb,e,hb,k1,k2,hc _ _ k0,?_,?_,?_⟩<;>rw[Nat.add_assoc]
 ·exact hc _ _ (k3 1 _ rfl)
 ·exact hc _ _ (k3 2 _ rfl)
 exact hc _ _ (k3 3 _ rfl)
theorem Ux.got {w:World} {P:Nat->Prop} {ps:List Bt} {a:Option Addr} {n c:Nat} (h:Ux w P ps (.slice a n c)) {j:Nat} {x:Bt} (hj:ps[j]?=some x):∃ b off,a=some ⟨b,off,none⟩/\b<w.heap.size/\w.cell? ⟨b,off+j,none⟩=some (.string (st x)):=by
 obtain⟨a',c',e,h1,h2,h3⟩:=h
 injection e with e1 e2 e3
 subst e1
 have hc:(ps.map λ x=>Value.string (st x))[j]?=some (.string (st x)):=by simp[hj]
 obtain⟨b,off,ea,_,hb,hk⟩:=h3 (λ e=>by rw[e] at hc;cases hc)
 exact⟨b,off,ea,hb,hk _ _ hc⟩
theorem Th {l:Bool} {fs gs:List Fu} {i:Nat} {f g:Fu} (hf:fs[i]?=some f) (hg:gs[i]?=some g):Um l (fs.drop i) (gs.drop i)=(Gl l f g&&Um l (fs.drop (i+1)) (gs.drop (i+1))):=by
 have h1:fs.drop i=f::fs.drop (i+1):=by
  obtain⟨hl,e⟩:=List.getElem?_eq_some_iff.1 hf
  rw[List.drop_eq_getElem_cons hl,e]
 have h2:gs.drop i=g::gs.drop (i+1):=by
  obtain⟨hl,e⟩:=List.getElem?_eq_some_iff.1 hg
  rw[List.drop_eq_getElem_cons hl,e]
 rw[h1,h2]
 rfl
def Gv (l:Bool) (gs:List (Bt×Int)) (fs:List Fu) (gs2:List (Bt×Int)) (fs2:List Fu):Bool:=decide (gs=gs2)&&Um l fs fs2
theorem Hr {w:World} {P:Nat->Prop} {gs:List (Bt×Int)} {fs:List Fu} {va vb:Value} (h:Zh w P gs fs va vb):∃ ga gc fa fc,va=.slice ga gs.length gc/\vb=.slice fa fs.length fc/\gs.length<=maxLen/\fs.length<=maxLen:=by
 obtain⟨ga,gc,fa,fc,ys,h1,h2,h3,h4,h5,h6,h7,h8,h9⟩:=h
 exact⟨ga,gc,fa,fc,h1,h2,by omega,by omega⟩
theorem Kz (w:World) {b k:Nat} {v0 v1 v2 v3:Value} (h:b≠k):(set4 w b v0 v1 v2 v3).heap[k]?=w.heap[k]? :=
 (heap_setCell_other _ ⟨b,3,none⟩ k _ (λ e=>h e.symm)).trans ((heap_setCell_other _ ⟨b,2,none⟩ k _ (λ e=>h e.symm)).trans ((heap_setCell_other _ ⟨b,1,none⟩ k _ (λ e=>h e.symm)).trans (heap_setCell_other _ ⟨b,0,none⟩ k _ (λ e=>h e.symm))))
theorem Ap (lines:Bool) (P Q:Nat->Prop) (gs:List (Bt×Int)) (fs:List Fu) (gs2:List (Bt×Int)) (fs2:List Fu) (va vb va2 vb2:Value) (w:World) (hA:Zh w P gs fs va vb) (hB:Zh w Q gs2 fs2 va2 vb2) :
  Calls Tryz.prog 26 #[sov va vb,sov va2 vb2,.bool lines] w λ e w'=>e=.returned (.bool (Gv lines gs fs gs2 fs2))/\Below w.heap.size w w':=by
 obtain⟨ga,gc,fa,fc,rfl,rfl,hl1,hl2⟩:=Hr hA
 obtain⟨ga2,gc2,fa2,fc2,rfl,rfl,hl3,hl4⟩:=Hr hB
 have hn1:gs.length<=9223372036854775807:=by unfold maxLen at hl1;omega
 have hn2:fs.length<=9223372036854775807:=by unfold maxLen at hl2;omega
 have HA:=Xj hA
 have HB:=Xj hB
 have HO3:Xq (Lo ((w.alloc (.cells #[.slice ga gs.length gc,.slice fa fs.length fc] 29)).alloc (.cells #[.slice ga2 gs2.length gc2,.slice fa2 fs2.length fc2] 29)) w.heap.size (.slice ga gs.length gc) (.slice fa fs.length fc)):=Xj (Lo.al (heap_alloc_new w _) _)
 have HO4:Xq (Lo ((w.alloc (.cells #[.slice ga gs.length gc,.slice fa fs.length fc] 29)).alloc (.cells #[.slice ga2 gs2.length gc2,.slice fa2 fs2.length fc2] 29)) (w.heap.size+1) (.slice ga2 gs2.length gc2) (.slice fa2 fs2.length fc2)):=Xj (by
  have h:=heap_alloc_new (w.alloc (.cells #[.slice ga gs.length gc,.slice fa fs.length fc] 29)) (.cells #[.slice ga2 gs2.length gc2,.slice fa2 fs2.length fc2] 29)
  rw[show (w.alloc (.cells #[.slice ga gs.length gc,.slice fa fs.length fc] 29)).heap.size=w.heap.size+1 by simp] at h
  exact h)
 have HB1:Xq (Below w.heap.size w ((w.alloc (.cells #[.slice ga gs.length gc,.slice fa fs.length fc] 29)).alloc (.cells #[.slice ga2 gs2.length gc2,.slice fa2 fs2.length fc2] 29))):=Xj ((Xw w _).alloc (by simp) _)
 obtain⟨n1,hyd⟩:∃ x,gs.length=x:=⟨_,rfl⟩
 obtain⟨m1,hyh⟩:∃ x,fs.length=x:=⟨_,rfl⟩
 obtain⟨n2,hut⟩:∃ x,gs2.length=x:=⟨_,rfl⟩
 obtain⟨m2,hbj⟩:∃ x,fs2.length=x:=⟨_,rfl⟩
 have HN:=Xj (And.intro hyd (And.intro hyh (And.intro hut hbj)))
 rw[hyd,hyh] at HA
 rw[hut,hbj] at HB
 rw[hyd,hyh,hut,hbj] at HO3 HO4 HB1 ⊢
 rw[hyd] at hn1
 rw[hyh] at hn2
 clear hA hB hl1 hl2 hl3 hl4 hyd hyh hut hbj
 go_enter Tryz.func26,Tryz.ntmps26
 go_upto_region 1 with fail
 obtain⟨w1,hw1⟩:∃ W,(w.alloc (.cells #[.slice ga n1 gc,.slice fa m1 fc] 29)).alloc (.cells #[.slice ga2 n2 gc2,.slice fa2 m2 fc2] 29)=W:=⟨_,rfl⟩
 obtain⟨g3,hg3⟩:∃ x,w.heap.size=x:=⟨_,rfl⟩
 (try rw[hw1])
 have HBW:Xq (∀ W,Below w1.heap.size w1 W->Below w.heap.size w W):=Xj (λ W h=>by
  have h1:=HB1.o
  rw[hw1] at h1
  exact h1.trans (h.mono h1.size))
 have HA1:Xq (∀ W,Below w1.heap.size w1 W->Zh W P gs fs (.slice ga n1 gc) (.slice fa m1 fc)):=Xj (λ W h=>by
  have hb:=HBW.o W h
  exact HA.o.keep (λ b hP hlt=>⟨hb.block b hlt,hP⟩) hb.size)
 have HB2:Xq (∀ W,Below w1.heap.size w1 W->Zh W Q gs2 fs2 (.slice ga2 n2 gc2) (.slice fa2 m2 fc2)):=Xj (λ W h=>by
  have hb:=HBW.o W h
  exact HB.o.keep (λ b hP hlt=>⟨hb.block b hlt,hP⟩) hb.size)
 rw[hw1,hg3] at HO3 HO4
 (try rw[hg3])
 obtain⟨g4,hg4⟩:∃ x,g3+1=x:=⟨_,rfl⟩
 rw[hg4] at HO4
 (try rw[hg4])
 clear hw1 hg3 hg4 HB1 HA HB
 obtain⟨o0,o1⟩:=HO3.o.cells
 obtain⟨u0,u1⟩:=HO4.o.cells
 have hl3:=HO3.o.lt
 have hl4:=HO4.o.lt
 by_cases hnn:n1=n2
 rotate_left
 ·have d2:((n1:Int)==(n2:Int))=false:=by rw[beq_eq_false_iff_ne];omega
  have d3:((n1:Int) != (n2:Int))=true:=by rw[bne_iff_ne];omega
  have d4:(n1==n2)=false:=by rw[beq_eq_false_iff_ne];exact hnn
  have HX:Xq (Gv lines gs fs gs2 fs2=false):=Xj (by
   unfold Gv
   have:gs≠gs2:=λ e=>hnn (by rw[<- HN.o.1,<- HN.o.2.2.1,e])
   simp[this])
  clear hnn
  go_wp2_with fail
  refine bodyPost_ret (v:=.bool false) (by simp[results,Tryz.results26,go_sem]) rfl ?_
  exact⟨by rw[HX.o],HBW.o _ (Below.refl _ _)⟩
 subst hnn
 by_cases hmm:m1=m2
 rotate_left
 ·have d2:((m1:Int)==(m2:Int))=false:=by rw[beq_eq_false_iff_ne];omega
  have d3:((m1:Int) != (m2:Int))=true:=by rw[bne_iff_ne];omega
  have d4:(m1==m2)=false:=by rw[beq_eq_false_iff_ne];exact hmm
  have HX:Xq (Gv lines gs fs gs2 fs2=false):=Xj (by
   unfold Gv
   rw[Cg (by rw[HN.o.2.1,HN.o.2.2.2];exact hmm)]
   simp)
  clear hmm
  go_wp2_with fail
  refine bodyPost_ret (v:=.bool false) (by simp[results,Tryz.results26,go_sem]) rfl ?_
  exact⟨by rw[HX.o],HBW.o _ (Below.refl _ _)⟩
 subst hmm
 go_upto_block 0 with fail
 clear o0 o1 u0 u1 hl3 hl4
 go_wp2_with fail
 go_loopw [7] (λ v7 wr=>∃ i:Nat,v7=.int .i64 (i:Int)/\i<=n1/\Xq (Below w1.heap.size w1 wr/\∀ j,j<i->gs[j]?=gs2[j]?)) (λ v7 _=>n1-Jt v7)
 case atStart=>exact⟨0,rfl,Nat.zero_le _,Xj ⟨Below.refl _ _,λ j h=>absurd h (Nat.not_lt_zero _)⟩⟩
 rename World=>wa
 obtain⟨i,rfl,hin,HL⟩:=hrel
 obtain⟨o0,o1⟩:=(HO3.o.be HL.o.1).cells
 obtain⟨u0,u1⟩:=(HO4.o.be HL.o.1).cells
 have hl3:=(HO3.o.be HL.o.1).lt
 have hl4:=(HO4.o.be HL.o.1).lt
 by_cases hlt:i<n1
 ·obtain⟨⟨xn,xz⟩,hx⟩:∃ x,gs[i]?=some x:=⟨_,List.getElem?_eq_getElem (by rw[HN.o.1];exact hlt)⟩
  obtain⟨⟨yn,yz⟩,hy⟩:∃ x,gs2[i]?=some x:=⟨_,List.getElem?_eq_getElem (by rw[HN.o.2.2.1];exact hlt)⟩
  obtain⟨b1,of1,rfl,hb1,p0,p1⟩:=(HA1.o wa HL.o.1).gg hx
  obtain⟨b2,of2,rfl,hb2,q0,q1⟩:=(HB2.o wa HL.o.1).gg hy
  have HXY:=Xj (And.intro hx hy)
  (try dsimp only at p0 p1 q0 q1)
  have hqt:(i:Int)<(n1:Int):=by omega
  have hi0:(0:Int)<=(i:Int):=by omega
  clear hx hy
  by_cases he:xn=yn/\xz=yz
  rotate_left
  ·have HX:Xq (Gv lines gs fs gs2 fs2=false):=Xj (by
    unfold Gv
    have:gs≠gs2:=λ e=>he (by have h:=HXY.o;rw[e,h.2] at h;have h2:=h.1;injection h2 with h2;injection h2 with h3 h4;exact⟨h3.symm,h4.symm⟩)
    simp[this])
   have hq:∀ W:World,(binOp .neq 60 (.agg #[.string (st xn),.int .i64 xz]) (.agg #[.string (st yn),.int .i64 yz])).run Tryz.prog W=.ok (.bool true) W:=λ W=>by
    rw[Nl]
    have:(xn==yn&&xz==yz)=false:=by
     cases h:(xn==yn&&xz==yz)
     ·rfl
     simp at h;exact absurd h he
    rw[this];rfl
   clear he
   go_upto_region 6 with fail
   refine Xn (by kernel_rfl) (by kernel_rfl) ?_
   have r0:∀ x:Xy wa,x.val.cell? ⟨g3,0,none⟩=some (.slice (some ⟨b1,of1,none⟩) n1 gc):=λ x=>x.cell o0
   have r1:∀ x:Xy wa,x.val.cell? ⟨g4,0,none⟩=some (.slice (some ⟨b2,of2,none⟩) n1 gc2):=λ x=>x.cell u0
   have y0:∀ x:Xy wa,x.val.cell? ⟨b1,of1+i*2,none⟩=some (.string (st xn)):=λ x=>x.cell p0
   have y1:∀ x:Xy wa,x.val.cell? ⟨b1,of1+i*2+1,none⟩=some (.int .i64 xz):=λ x=>x.cell p1
   have z0:∀ x:Xy wa,x.val.cell? ⟨b2,of2+i*2,none⟩=some (.string (st yn)):=λ x=>x.cell q0
   have z1:∀ x:Xy wa,x.val.cell? ⟨b2,of2+i*2+1,none⟩=some (.int .i64 yz):=λ x=>x.cell q1
   repeat (go_big_quiet_step (fail))
   refine wpQuiet_nil ?_
   intro wb hbb
   have HBB:=Xj hbb
   clear hbb r0 r1 y0 y1 z0 z1 hq
   go_wp2_with fail
   refine bodyPost_ret (v:=.bool false) (by simp[results,Tryz.results26,go_sem]) rfl ?_
   exact⟨by rw[HX.o],HBW.o _ (HL.o.1.trans (HBB.o.mono HL.o.1.size))⟩
  obtain⟨rfl,rfl⟩:=he
  have hq:∀ W:World,(binOp .neq 60 (.agg #[.string (st xn),.int .i64 xz]) (.agg #[.string (st xn),.int .i64 xz])).run Tryz.prog W=.ok (.bool false) W:=λ W=>by
   rw[Nl];simp
  go_upto_region 6 with fail
  refine Xn (by kernel_rfl) (by kernel_rfl) ?_
  have r0:∀ x:Xy wa,x.val.cell? ⟨g3,0,none⟩=some (.slice (some ⟨b1,of1,none⟩) n1 gc):=λ x=>x.cell o0
  have r1:∀ x:Xy wa,x.val.cell? ⟨g4,0,none⟩=some (.slice (some ⟨b2,of2,none⟩) n1 gc2):=λ x=>x.cell u0
  have y0:∀ x:Xy wa,x.val.cell? ⟨b1,of1+i*2,none⟩=some (.string (st xn)):=λ x=>x.cell p0
  have y1:∀ x:Xy wa,x.val.cell? ⟨b1,of1+i*2+1,none⟩=some (.int .i64 xz):=λ x=>x.cell p1
  have z0:∀ x:Xy wa,x.val.cell? ⟨b2,of2+i*2,none⟩=some (.string (st xn)):=λ x=>x.cell q0
  have z1:∀ x:Xy wa,x.val.cell? ⟨b2,of2+i*2+1,none⟩=some (.int .i64 xz):=λ x=>x.cell q1
  repeat (go_big_quiet_step (fail))
  refine wpQuiet_nil ?_
  intro wb hbb
  have HBB:=Xj hbb
  clear hbb r0 r1 y0 y1 z0 z1 hq
  go_wp2_with fail
  go_roundw
  case rel=>exact⟨i+1,by go_num,by omega,Xj ⟨HL.o.1.trans (HBB.o.mono HL.o.1.size),λ j hj=>by
   by_cases e:j=i
   ·rw[e,HXY.o.1,HXY.o.2]
   exact HL.o.2 j (by omega)⟩⟩
  simp[Jt];omega
 have HGG:Xq (gs=gs2):=Xj (List.ext_getElem? (λ j=>by
  by_cases h:j<n1
  ·exact HL.o.2 j (by omega)
  rw[List.getElem?_eq_none (by rw[HN.o.1];omega),List.getElem?_eq_none (by rw[HN.o.2.2.1];omega)]))
 have HEQ:Xq (∀ b,Um lines fs fs2=b->Gv lines gs fs gs2 fs2=b):=Xj (λ b h=>by unfold Gv;rw[h];simp[HGG.o])
 have HB0:=Xj HL.o.1
 have dl:decide (i<n1)=false:=decide_eq_false hlt
 have dl2:decide ((i:Int)<(n1:Int))=false:=decide_eq_false (by omega)
 clear HL HGG hin hlt
 go_upto_block 2 with fail
 clear o0 o1 u0 u1 hl3 hl4 dl dl2
 go_wp2_with fail
 go_loopw [8,9,10,11] (λ v8 _ _ _ wr=>∃ i:Nat,v8=.int .i64 (i:Int)/\i<=m1/\Xq (Below w1.heap.size w1 wr/\Um lines fs fs2=Um lines (fs.drop i) (fs2.drop i))) (λ v8 _ _ _ _=>m1-Jt v8)
 case atStart=>exact⟨0,rfl,Nat.zero_le _,Xj ⟨HB0.o,rfl⟩⟩
 rename World=>wc
 obtain⟨i2,rfl,hin,HL⟩:=hrel
 obtain⟨o0,o1⟩:=(HO3.o.be HL.o.1).cells
 obtain⟨u0,u1⟩:=(HO4.o.be HL.o.1).cells
 have hl3:=(HO3.o.be HL.o.1).lt
 have hl4:=(HO4.o.be HL.o.1).lt
 by_cases hlt:i2<m1
 ·obtain⟨⟨fn1,fl1,fp1,fS1⟩,hx⟩:∃ x,fs[i2]?=some x:=⟨_,List.getElem?_eq_getElem (by rw[HN.o.2.1];exact hlt)⟩
  obtain⟨⟨fn2,fl2,fp2,fS2⟩,hy⟩:∃ x,fs2[i2]?=some x:=⟨_,List.getElem?_eq_getElem (by rw[HN.o.2.2.2];exact hlt)⟩
  have HQ:Xq (Um lines fs fs2=(Gl lines ⟨fn1,fl1,fp1,fS1⟩ ⟨fn2,fl2,fp2,fS2⟩&&Um lines (fs.drop (i2+1)) (fs2.drop (i2+1)))):=Xj (by rw[HL.o.2,Th hx hy])
  obtain⟨b1,of1,ap1,cp1,ab1,cb1,rfl,hb1,hP1,hS1,p0,p1,p2,p3⟩:=(HA1.o wc HL.o.1).gf hx
  obtain⟨b2,of2,ap2,cp2,ab2,cb2,rfl,hb2,hP2,hS2,q0,q1,q2,q3⟩:=(HB2.o wc HL.o.1).gf hy
  (try dsimp only at p0 p1 p2 p3 q0 q1 q2 q3 hP1 hS1 hP2 hS2)
  obtain⟨np1,hfx⟩:∃ x,fp1.length=x:=⟨_,rfl⟩
  obtain⟨np2,hfv⟩:∃ x,fp2.length=x:=⟨_,rfl⟩
  obtain⟨nb1,hnb1⟩:∃ x,fS1.len=x:=⟨_,rfl⟩
  obtain⟨nb2,hnb2⟩:∃ x,fS2.len=x:=⟨_,rfl⟩
  have HNP:=Xj (And.intro hfx hfv)
  have HNL:Xq (np1<=9223372036854775807):=Xj (by obtain⟨_,_,_,h1,h2,_⟩:=hP1;unfold maxLen at h2;omega)
  rw[hfx] at p2 hP1
  rw[hfv] at q2 hP2
  rw[hnb1] at p3 hS1
  rw[hnb2] at q3 hS2
  have HP:=Xj (And.intro hP1 hP2)
  have HSS:=Xj (And.intro hS1 hS2)
  have HBK:=Xj (And.intro hb1 hb2)
  have hqt:(i2:Int)<(m1:Int):=by omega
  have hi0:(0:Int)<=(i2:Int):=by omega
  clear hx hy hP1 hP2 hS1 hS2 hfx hfv hnb1 hnb2 hb1 hb2
  go_upto_region 11 with fail
  go_cut [9,10] from 53 to 62 (λ v9 v10 wx=>∃ g8 g9:Nat,v9=.pointer (some ⟨g8,0,none⟩)/\v10=.pointer (some ⟨g9,0,none⟩)/\Xq (Below wc.heap.size wc wx/\Lf wx g8 fn1 fl1 (.slice ap1 np1 cp1) (.slice ab1 nb1 cb1)/\Lf wx g9 fn2 fl2 (.slice ap2 np2 cp2) (.slice ab2 nb2 cb2)))
  case first =>
   obtain⟨wd,hwd⟩:∃ W,wc.drew=W:=⟨_,rfl⟩
   have hbd:Below wc.heap.size wc wd:=by rw[<- hwd];exact(Below.refl _ _).drew
   have HBD:=Xj hbd
   have HSZ:Xq (g3<wd.heap.size/\g4<wd.heap.size/\b1<wd.heap.size/\b2<wd.heap.size/\wc.heap.size<=wd.heap.size):=Xj (by have:=hbd.size;have:=HBK.o;exact⟨by omega,by omega,by omega,by omega,by omega⟩)
   refine wp_region_held_drew (S:=(λ w'=>w'.cell? ⟨g3,1,none⟩=some (.slice (some ⟨b1,of1,none⟩) m1 fc)/\w'.cell? ⟨g4,1,none⟩=some (.slice (some ⟨b2,of2,none⟩) m1 fc2)/\w'.cell? ⟨b1,of1+i2*4,none⟩=some (.string (st fn1))/\w'.cell? ⟨b1,of1+i2*4+1,none⟩=some (.int .i64 fl1)/\w'.cell? ⟨b1,of1+i2*4+2,none⟩=some (.slice ap1 np1 cp1)/\w'.cell? ⟨b1,of1+i2*4+3,none⟩=some (.slice ab1 nb1 cb1)/\w'.cell? ⟨b2,of2+i2*4,none⟩=some (.string (st fn2))/\w'.cell? ⟨b2,of2+i2*4+1,none⟩=some (.int .i64 fl2)/\w'.cell? ⟨b2,of2+i2*4+2,none⟩=some (.slice ap2 np2 cp2)/\w'.cell? ⟨b2,of2+i2*4+3,none⟩=some (.slice ab2 nb2 cb2))) (by kernel_rfl) (by rw[hwd];exact⟨by rw[<- hwd];exact o1,by rw[<- hwd];exact u1,by rw[<- hwd];exact p0,by rw[<- hwd];exact p1,by rw[<- hwd];exact p2,by rw[<- hwd];exact p3,by rw[<- hwd];exact q0,by rw[<- hwd];exact q1,by rw[<- hwd];exact q2,by rw[<- hwd];exact q3⟩) (λ hJ=>?_)
   rw[hwd] at hJ ⊢
   clear hwd hbd o0 o1 u0 u1 p0 p1 p2 p3 q0 q1 q2 q3 hl3 hl4
   refine tkH 0 53 ?_
   refine tkH 1 54 ?_
   refine tkH 2 55 ?_
   refine tkH 3 56 ?_
   refine tkH 4 57 ?_
   refine tkH 5 58 ?_
   refine tkH 6 59 ?_
   refine tkH 7 60 ?_
   refine tkH 8 61 ?_
   refine tkH 9 62 ?_
   refine wpAnyH_ready (rs:=[10,11]) (by kernel_rfl) (by simp) ?_
   refine AllReadyH.cons rfl (λ K hK=>?_) (AllReadyH.cons rfl (λ K hK=>?_) AllReadyH.nil)
   ·go_simp
    refine goH hK ⟨Xu _ hJ.1,Xu _ hJ.2.1,Xu _ hJ.2.2.1,Xu _ hJ.2.2.2.1,Xu _ hJ.2.2.2.2.1,Xu _ hJ.2.2.2.2.2.1,Xu _ hJ.2.2.2.2.2.2.1,Xu _ hJ.2.2.2.2.2.2.2.1,Xu _ hJ.2.2.2.2.2.2.2.2.1,Xu _ hJ.2.2.2.2.2.2.2.2.2⟩ λ hJ=>?_
    clear hK K
    obtain⟨wA,hw2⟩:∃ W,wd.alloc (.cells #[.string { data := #[] },.int .i64 0,.slice none 0 0,.slice none 0 0] 63)=W:=⟨_,rfl⟩
    obtain⟨g8,hg⟩:∃ x,wd.heap.size=x:=⟨_,rfl⟩
    have hzd:=heap_alloc_new wd (.cells #[.string { data := #[] },.int .i64 0,.slice none 0 0,.slice none 0 0] 63)
    have hzr:=Xw wd (.cells #[.string { data := #[] },.int .i64 0,.slice none 0 0,.slice none 0 0] 63)
    rw[hw2] at hzd hzr hJ ⊢
    rw[hg] at hzd
    have hlg8:wd.heap.size<=g8:=by omega
    (try rw[hg])
    have hsg8:=hzr.size
    clear hw2 hg
    refine rdH 11 λ K hK=>?_
    go_simp
    refine goH hK ⟨Xu _ hJ.1,Xu _ hJ.2.1,Xu _ hJ.2.2.1,Xu _ hJ.2.2.2.1,Xu _ hJ.2.2.2.2.1,Xu _ hJ.2.2.2.2.2.1,Xu _ hJ.2.2.2.2.2.2.1,Xu _ hJ.2.2.2.2.2.2.2.1,Xu _ hJ.2.2.2.2.2.2.2.2.1,Xu _ hJ.2.2.2.2.2.2.2.2.2⟩ λ hJ=>?_
    clear hK K
    obtain⟨wB,hw2⟩:∃ W,wA.alloc (.cells #[.string { data := #[] },.int .i64 0,.slice none 0 0,.slice none 0 0] 63)=W:=⟨_,rfl⟩
    obtain⟨g9,hg⟩:∃ x,wA.heap.size=x:=⟨_,rfl⟩
    have hzh:=heap_alloc_new wA (.cells #[.string { data := #[] },.int .i64 0,.slice none 0 0,.slice none 0 0] 63)
    have hzt:=Xw wA (.cells #[.string { data := #[] },.int .i64 0,.slice none 0 0,.slice none 0 0] 63)
    rw[hw2] at hzh hzt hJ ⊢
    rw[hg] at hzh
    have hlg9:wA.heap.size<=g9:=by omega
    (try rw[hg])
    have hsg9:=hzt.size
    clear hw2 hg
    have hsz:=HSZ.o
    have H_g8:=(hzt.block g8 (Xv hzd)).trans hzd
    have H_g9:=hzh
    have HBB:=(HBD.o.trans (hzr.mono HBD.o.size)).trans (hzt.mono (by omega))
    have N89:g8≠g9:=by have:=Xv hzd;omega
    have hw8:wc.heap.size<=g8:=by omega
    have hw9:wc.heap.size<=g9:=by omega
    have Ng8g3:g8≠g3:=by omega
    have Ng8g4:g8≠g4:=by omega
    have Ng8b1:g8≠b1:=by omega
    have Ng8b2:g8≠b2:=by omega
    have Ng9g3:g9≠g3:=by omega
    have Ng9g4:g9≠g4:=by omega
    have Ng9b1:g9≠b1:=by omega
    have Ng9b2:g9≠b2:=by omega
    clear hzd hzh hzr hzt
    refine rdH 12 λ K hK=>?_
    have c0:=cell_of_row _ _ 0 _ _ _ H_g8
    have c1:=cell_of_row _ _ 1 _ _ _ H_g8
    have c2:=cell_of_row _ _ 2 _ _ _ H_g8
    have c3:=cell_of_row _ _ 3 _ _ _ H_g8
    have f0:=frozen_of_row _ g8 0 _ _ H_g8
    have f1:=frozen_of_row _ g8 1 _ _ H_g8
    have f2:=frozen_of_row _ g8 2 _ _ H_g8
    have f3:=frozen_of_row _ g8 3 _ _ H_g8
    have jl8:=Xv H_g8
    go_simp
    refine goH hK ⟨Xf (Ng8g3) hJ.1,Xf (Ng8g4) hJ.2.1,Xf (Ng8b1) hJ.2.2.1,Xf (Ng8b1) hJ.2.2.2.1,Xf (Ng8b1) hJ.2.2.2.2.1,Xf (Ng8b1) hJ.2.2.2.2.2.1,Xf (Ng8b2) hJ.2.2.2.2.2.2.1,Xf (Ng8b2) hJ.2.2.2.2.2.2.2.1,Xf (Ng8b2) hJ.2.2.2.2.2.2.2.2.1,Xf (Ng8b2) hJ.2.2.2.2.2.2.2.2.2⟩ λ hJ=>?_
    clear hK K
    have e8:=Yd (v0:=.string (st fn1)) (v1:=.int .i64 fl1) (v2:=.slice ap1 np1 cp1) (v3:=.slice ab1 nb1 cb1) H_g8
    have e9:=(Kz wB (v0:=.string (st fn1)) (v1:=.int .i64 fl1) (v2:=.slice ap1 np1 cp1) (v3:=.slice ab1 nb1 cb1) N89).trans H_g9
    have eb:=Yh (v0:=.string (st fn1)) (v1:=.int .i64 fl1) (v2:=.slice ap1 np1 cp1) (v3:=.slice ab1 nb1 cb1) HBB (show wc.heap.size<=g8 from hw8)
    obtain⟨wF,hwF⟩:∃ W,set4 wB g8 (.string (st fn1)) (.int .i64 fl1) (.slice ap1 np1 cp1) (.slice ab1 nb1 cb1)=W:=⟨_,rfl⟩
    have hvc:=hwF
    unfold set4 at hvc
    rw[hvc] at hJ ⊢
    rw[hwF] at e8 e9 eb
    clear hwF hvc c0 c1 c2 c3 f0 f1 f2 f3 jl8 H_g8 H_g9 HBB
    refine rdH 13 λ K hK=>?_
    have c0:=cell_of_row _ _ 0 _ _ _ e9
    have c1:=cell_of_row _ _ 1 _ _ _ e9
    have c2:=cell_of_row _ _ 2 _ _ _ e9
    have c3:=cell_of_row _ _ 3 _ _ _ e9
    have f0:=frozen_of_row _ g9 0 _ _ e9
    have f1:=frozen_of_row _ g9 1 _ _ e9
    have f2:=frozen_of_row _ g9 2 _ _ e9
    have f3:=frozen_of_row _ g9 3 _ _ e9
    have jl8:=Xv e9
    go_simp
    refine goH hK ⟨Xf (Ng9g3) hJ.1,Xf (Ng9g4) hJ.2.1,Xf (Ng9b1) hJ.2.2.1,Xf (Ng9b1) hJ.2.2.2.1,Xf (Ng9b1) hJ.2.2.2.2.1,Xf (Ng9b1) hJ.2.2.2.2.2.1,Xf (Ng9b2) hJ.2.2.2.2.2.2.1,Xf (Ng9b2) hJ.2.2.2.2.2.2.2.1,Xf (Ng9b2) hJ.2.2.2.2.2.2.2.2.1,Xf (Ng9b2) hJ.2.2.2.2.2.2.2.2.2⟩ λ hJ=>?_
    clear hK K
    refine wpAnyH_done (by kernel_rfl) ?_ _
    refine Xz ?_
    have s9:=Yd (v0:=.string (st fn2)) (v1:=.int .i64 fl2) (v2:=.slice ap2 np2 cp2) (v3:=.slice ab2 nb2 cb2) e9
    have s8:=(Kz wF (v0:=.string (st fn2)) (v1:=.int .i64 fl2) (v2:=.slice ap2 np2 cp2) (v3:=.slice ab2 nb2 cb2) (Ne.symm N89)).trans e8
    have sb:=Yh (v0:=.string (st fn2)) (v1:=.int .i64 fl2) (v2:=.slice ap2 np2 cp2) (v3:=.slice ab2 nb2 cb2) eb (show wc.heap.size<=g9 from hw9)
    obtain⟨wG,hwG⟩:∃ W,set4 wF g9 (.string (st fn2)) (.int .i64 fl2) (.slice ap2 np2 cp2) (.slice ab2 nb2 cb2)=W:=⟨_,rfl⟩
    have hvf:=hwG
    unfold set4 at hvf
    rw[hvf]
    rw[hwG] at s8 s9 sb
    clear hwG hvf c0 c1 c2 c3 f0 f1 f2 f3 jl8 e8 e9 eb hJ
    go_wp2_with fail
    go_meet
    exact⟨g8,g9,rfl,rfl,Xj ⟨sb,s8,s9⟩⟩
   go_simp
   refine goH hK ⟨Xu _ hJ.1,Xu _ hJ.2.1,Xu _ hJ.2.2.1,Xu _ hJ.2.2.2.1,Xu _ hJ.2.2.2.2.1,Xu _ hJ.2.2.2.2.2.1,Xu _ hJ.2.2.2.2.2.2.1,Xu _ hJ.2.2.2.2.2.2.2.1,Xu _ hJ.2.2.2.2.2.2.2.2.1,Xu _ hJ.2.2.2.2.2.2.2.2.2⟩ λ hJ=>?_
   clear hK K
   obtain⟨wA,hw2⟩:∃ W,wd.alloc (.cells #[.string { data := #[] },.int .i64 0,.slice none 0 0,.slice none 0 0] 63)=W:=⟨_,rfl⟩
   obtain⟨g9,hg⟩:∃ x,wd.heap.size=x:=⟨_,rfl⟩
   have hzh:=heap_alloc_new wd (.cells #[.string { data := #[] },.int .i64 0,.slice none 0 0,.slice none 0 0] 63)
   have hzt:=Xw wd (.cells #[.string { data := #[] },.int .i64 0,.slice none 0 0,.slice none 0 0] 63)
   rw[hw2] at hzh hzt hJ ⊢
   rw[hg] at hzh
   have hlg9:wd.heap.size<=g9:=by omega
   (try rw[hg])
   have hsg9:=hzt.size
   clear hw2 hg
   refine rdH 10 λ K hK=>?_
   go_simp
   refine goH hK ⟨Xu _ hJ.1,Xu _ hJ.2.1,Xu _ hJ.2.2.1,Xu _ hJ.2.2.2.1,Xu _ hJ.2.2.2.2.1,Xu _ hJ.2.2.2.2.2.1,Xu _ hJ.2.2.2.2.2.2.1,Xu _ hJ.2.2.2.2.2.2.2.1,Xu _ hJ.2.2.2.2.2.2.2.2.1,Xu _ hJ.2.2.2.2.2.2.2.2.2⟩ λ hJ=>?_
   clear hK K
   obtain⟨wB,hw2⟩:∃ W,wA.alloc (.cells #[.string { data := #[] },.int .i64 0,.slice none 0 0,.slice none 0 0] 63)=W:=⟨_,rfl⟩
   obtain⟨g8,hg⟩:∃ x,wA.heap.size=x:=⟨_,rfl⟩
   have hzd:=heap_alloc_new wA (.cells #[.string { data := #[] },.int .i64 0,.slice none 0 0,.slice none 0 0] 63)
   have hzr:=Xw wA (.cells #[.string { data := #[] },.int .i64 0,.slice none 0 0,.slice none 0 0] 63)
   rw[hw2] at hzd hzr hJ ⊢
   rw[hg] at hzd
   have hlg8:wA.heap.size<=g8:=by omega
   (try rw[hg])
   have hsg8:=hzr.size
   clear hw2 hg
   have hsz:=HSZ.o
   have H_g9:=(hzr.block g9 (Xv hzh)).trans hzh
   have H_g8:=hzd
   have HBB:=(HBD.o.trans (hzt.mono HBD.o.size)).trans (hzr.mono (by omega))
   have N89:g8≠g9:=by have:=Xv hzh;omega
   have hw8:wc.heap.size<=g8:=by omega
   have hw9:wc.heap.size<=g9:=by omega
   have Ng8g3:g8≠g3:=by omega
   have Ng8g4:g8≠g4:=by omega
   have Ng8b1:g8≠b1:=by omega
   have Ng8b2:g8≠b2:=by omega
   have Ng9g3:g9≠g3:=by omega
   have Ng9g4:g9≠g4:=by omega
   have Ng9b1:g9≠b1:=by omega
   have Ng9b2:g9≠b2:=by omega
   clear hzh hzd hzt hzr
   refine rdH 12 λ K hK=>?_
   have c0:=cell_of_row _ _ 0 _ _ _ H_g8
   have c1:=cell_of_row _ _ 1 _ _ _ H_g8
   have c2:=cell_of_row _ _ 2 _ _ _ H_g8
   have c3:=cell_of_row _ _ 3 _ _ _ H_g8
   have f0:=frozen_of_row _ g8 0 _ _ H_g8
   have f1:=frozen_of_row _ g8 1 _ _ H_g8
   have f2:=frozen_of_row _ g8 2 _ _ H_g8
   have f3:=frozen_of_row _ g8 3 _ _ H_g8
   have jl8:=Xv H_g8
   go_simp
   refine goH hK ⟨Xf (Ng8g3) hJ.1,Xf (Ng8g4) hJ.2.1,Xf (Ng8b1) hJ.2.2.1,Xf (Ng8b1) hJ.2.2.2.1,Xf (Ng8b1) hJ.2.2.2.2.1,Xf (Ng8b1) hJ.2.2.2.2.2.1,Xf (Ng8b2) hJ.2.2.2.2.2.2.1,Xf (Ng8b2) hJ.2.2.2.2.2.2.2.1,Xf (Ng8b2) hJ.2.2.2.2.2.2.2.2.1,Xf (Ng8b2) hJ.2.2.2.2.2.2.2.2.2⟩ λ hJ=>?_
   clear hK K
   have e8:=Yd (v0:=.string (st fn1)) (v1:=.int .i64 fl1) (v2:=.slice ap1 np1 cp1) (v3:=.slice ab1 nb1 cb1) H_g8
   have e9:=(Kz wB (v0:=.string (st fn1)) (v1:=.int .i64 fl1) (v2:=.slice ap1 np1 cp1) (v3:=.slice ab1 nb1 cb1) N89).trans H_g9
   have eb:=Yh (v0:=.string (st fn1)) (v1:=.int .i64 fl1) (v2:=.slice ap1 np1 cp1) (v3:=.slice ab1 nb1 cb1) HBB (show wc.heap.size<=g8 from hw8)
   obtain⟨wF,hwF⟩:∃ W,set4 wB g8 (.string (st fn1)) (.int .i64 fl1) (.slice ap1 np1 cp1) (.slice ab1 nb1 cb1)=W:=⟨_,rfl⟩
   have hvc:=hwF
   unfold set4 at hvc
   rw[hvc] at hJ ⊢
   rw[hwF] at e8 e9 eb
   clear hwF hvc c0 c1 c2 c3 f0 f1 f2 f3 jl8 H_g8 H_g9 HBB
   refine rdH 13 λ K hK=>?_
   have c0:=cell_of_row _ _ 0 _ _ _ e9
   have c1:=cell_of_row _ _ 1 _ _ _ e9
   have c2:=cell_of_row _ _ 2 _ _ _ e9
   have c3:=cell_of_row _ _ 3 _ _ _ e9
   have f0:=frozen_of_row _ g9 0 _ _ e9
   have f1:=frozen_of_row _ g9 1 _ _ e9
   have f2:=frozen_of_row _ g9 2 _ _ e9
   have f3:=frozen_of_row _ g9 3 _ _ e9
   have jl8:=Xv e9
   go_simp
   refine goH hK ⟨Xf (Ng9g3) hJ.1,Xf (Ng9g4) hJ.2.1,Xf (Ng9b1) hJ.2.2.1,Xf (Ng9b1) hJ.2.2.2.1,Xf (Ng9b1) hJ.2.2.2.2.1,Xf (Ng9b1) hJ.2.2.2.2.2.1,Xf (Ng9b2) hJ.2.2.2.2.2.2.1,Xf (Ng9b2) hJ.2.2.2.2.2.2.2.1,Xf (Ng9b2) hJ.2.2.2.2.2.2.2.2.1,Xf (Ng9b2) hJ.2.2.2.2.2.2.2.2.2⟩ λ hJ=>?_
   clear hK K
   refine wpAnyH_done (by kernel_rfl) ?_ _
   refine Xz ?_
   have s9:=Yd (v0:=.string (st fn2)) (v1:=.int .i64 fl2) (v2:=.slice ap2 np2 cp2) (v3:=.slice ab2 nb2 cb2) e9
   have s8:=(Kz wF (v0:=.string (st fn2)) (v1:=.int .i64 fl2) (v2:=.slice ap2 np2 cp2) (v3:=.slice ab2 nb2 cb2) (Ne.symm N89)).trans e8
   have sb:=Yh (v0:=.string (st fn2)) (v1:=.int .i64 fl2) (v2:=.slice ap2 np2 cp2) (v3:=.slice ab2 nb2 cb2) eb (show wc.heap.size<=g9 from hw9)
   obtain⟨wG,hwG⟩:∃ W,set4 wF g9 (.string (st fn2)) (.int .i64 fl2) (.slice ap2 np2 cp2) (.slice ab2 nb2 cb2)=W:=⟨_,rfl⟩
   have hvf:=hwG
   unfold set4 at hvf
   rw[hvf]
   rw[hwG] at s8 s9 sb
   clear hwG hvf c0 c1 c2 c3 f0 f1 f2 f3 jl8 e8 e9 eb hJ
   go_wp2_with fail
   go_meet
   exact⟨g8,g9,rfl,rfl,Xj ⟨sb,s8,s9⟩⟩
  case rest =>
  rename World=>wq
  obtain⟨g8,g9,rfl,rfl,HC⟩:=hcut
  clear o0 o1 u0 u1 p0 p1 p2 p3 q0 q1 q2 q3 hl3 hl4
  have HBX:Xq (∀ W,Below wq.heap.size wq W->Below w1.heap.size w1 W):=Xj (λ W h=>by
   have h1:=HC.o.1.trans (h.mono HC.o.1.size)
   exact HL.o.1.trans (h1.mono HL.o.1.size))
  obtain⟨p0,p1,p2,p3⟩:=HC.o.2.1.cells
  obtain⟨q0,q1,q2,q3⟩:=HC.o.2.2.cells
  have hl8:=HC.o.2.1.lt
  have hl9:=HC.o.2.2.lt
  have HQ2:Xq (Gl lines ⟨fn1,fl1,fp1,fS1⟩ ⟨fn2,fl2,fp2,fS2⟩=false->Um lines fs fs2=false):=Xj (λ h=>by rw[HQ.o,h];rfl)
  by_cases en:fn1=fn2
  rotate_left
  ·have d1:(fn1==fn2)=false:=beq_eq_false_iff_ne.2 en
   have d2:(fn1 != fn2)=true:=bne_iff_ne.2 en
   have HX:Xq (Um lines fs fs2=false):=Xj (HQ2.o (by unfold Gl;rw[d1];rfl))
   clear en
   go_wp2_with fail
   refine bodyPost_ret (v:=.bool false) (by simp[results,Tryz.results26,go_sem]) rfl ?_
   exact⟨by rw[HEQ.o _ HX.o],HBW.o _ (HBX.o _ (Below.refl _ _))⟩
  subst en
  obtain⟨bl,hbl⟩:∃ b,(!lines||fl1==fl2)=b:=⟨_,rfl⟩
  have HBL:=Xj hbl
  cases bl
  ·have HX:Xq (Um lines fs fs2=false):=Xj (HQ2.o (by unfold Gl;simp only[HBL.o];simp))
   obtain⟨rfl,el⟩:lines=true/\fl1≠fl2:=by
    cases lines
    ·simp at hbl
    simp at hbl;exact⟨rfl,hbl⟩
   have d1:(fl1==fl2)=false:=beq_eq_false_iff_ne.2 el
   have d2:(fl1 != fl2)=true:=bne_iff_ne.2 el
   clear el hbl
   go_wp2_with fail
   refine bodyPost_ret (v:=.bool false) (by simp[results,Tryz.results26,go_sem]) rfl ?_
   exact⟨by rw[HEQ.o _ HX.o],HBW.o _ (HBX.o _ (Below.refl _ _))⟩
  have hll:lines=false\/(lines=true/\fl1=fl2):=by
   cases lines
   ·exact .inl rfl
   simp at hbl;exact .inr ⟨rfl,hbl⟩
  clear hbl
  have HQ3:Xq (Gl lines ⟨fn1,fl1,fp1,fS1⟩ ⟨fn1,fl2,fp2,fS2⟩=(fp1==fp2&&eqS lines fS1 fS2)):=Xj (by unfold Gl;simp only[HBL.o];simp)
  by_cases enp:np1=np2
  rotate_left
  ·have d2:((np1:Int)==(np2:Int))=false:=by rw[beq_eq_false_iff_ne];omega
   have d3:((np1:Int) != (np2:Int))=true:=by rw[bne_iff_ne];omega
   have d4:(np1==np2)=false:=by rw[beq_eq_false_iff_ne];exact enp
   have HX:Xq (Um lines fs fs2=false):=Xj (HQ2.o (by
    rw[HQ3.o]
    have:(fp1==fp2)=false:=by
     rw[beq_eq_false_iff_ne]
     intro e
     exact enp (by rw[<- HNP.o.1,<- HNP.o.2,e])
    rw[this];rfl))
   clear enp
   rcases hll with rfl|⟨rfl,rfl⟩
   ·go_wp2_with fail
    refine bodyPost_ret (v:=.bool false) (by simp[results,Tryz.results26,go_sem]) rfl ?_
    exact⟨by rw[HEQ.o _ HX.o],HBW.o _ (HBX.o _ (Below.refl _ _))⟩
   go_wp2_with fail
   refine bodyPost_ret (v:=.bool false) (by simp[results,Tryz.results26,go_sem]) rfl ?_
   exact⟨by rw[HEQ.o _ HX.o],HBW.o _ (HBX.o _ (Below.refl _ _))⟩
  subst enp
  have HPQ:Xq (∀ W,Below wq.heap.size wq W->Ux W P fp1 (.slice ap1 np1 cp1)/\Ux W Q fp2 (.slice ap2 np1 cp2)):=Xj (λ W h=>by
   have h1:=HC.o.1.trans (h.mono HC.o.1.size)
   exact⟨HP.o.1.keep (λ b hP hlt=>⟨h1.block b hlt,hP⟩) h1.size,HP.o.2.keep (λ b hP hlt=>⟨h1.block b hlt,hP⟩) h1.size⟩)
  have HCS:Xq (Calls Tryz.prog 61 #[.slice ab1 nb1 cb1,.slice ab2 nb2 cb2,.bool lines] wq λ e w'=>e=.returned (.bool (eqS lines fS1 fS2))/\Below wq.heap.size wq w'):=Xj (by
   have h1:=HC.o.1
   exact Sp fS1 lines P Q fS2 _ _ wq (HSS.o.1.keep (λ b hP hlt=>⟨h1.block b hlt,hP⟩) h1.size) (HSS.o.2.keep (λ b hP hlt=>⟨h1.block b hlt,hP⟩) h1.size))
  obtain⟨bs,hbs⟩:∃ b,eqS lines fS1 fS2=b:=⟨_,rfl⟩
  have HBS:=Xj hbs
  rw[hbs] at HCS
  clear hbs
  go_upto_region 12 with fail
  go_cut [95] from 63 to 95 (λ v95 wx=>v95=.bool (!bs)/\Xq (Below wq.heap.size wq wx))
  case first =>
   rcases hll with rfl|⟨rfl,rfl⟩
   ·go_wp2_with fail
    refine HCS.o.mono ?_
    rintro e w5 ⟨rfl,hb5⟩
    have HB5:=Xj hb5
    clear hb5
    go_wp2_with fail
    go_meet
    exact⟨by first|rfl|simp,HB5⟩
   go_wp2_with fail
   refine HCS.o.mono ?_
   rintro e w5 ⟨rfl,hb5⟩
   have HB5:=Xj hb5
   clear hb5
   go_wp2_with fail
   go_meet
   exact⟨by first|rfl|simp,HB5⟩
  case rest =>
  rename World=>wv
  obtain⟨rfl,HB5⟩:=hcut
  cases bs
  ·have HX:Xq (Um lines fs fs2=false):=Xj (HQ2.o (by rw[HQ3.o,HBS.o];simp))
   go_wp2_with fail
   refine bodyPost_ret (v:=.bool false) (by simp[results,Tryz.results26,go_sem]) rfl ?_
   exact⟨by rw[HEQ.o _ HX.o],HBW.o _ (HBX.o _ HB5.o)⟩
  clear p0 p1 p2 p3 q0 q1 q2 q3 hl8 hl9 HCS
  go_upto_block 4 with fail
  go_wp2_with fail
  go_loopw [11] (λ v11 wr=>∃ k:Nat,v11=.int .i64 (k:Int)/\k<=np1/\Xq (Below wq.heap.size wq wr/\∀ j,j<k->fp1[j]?=fp2[j]?)) (λ v11 _=>np1-Jt v11)
  case atStart=>exact⟨0,rfl,Nat.zero_le _,Xj ⟨HB5.o,λ j h=>absurd h (Nat.not_lt_zero _)⟩⟩
  rename World=>we
  obtain⟨k,rfl,hkn,HK⟩:=hrel
  obtain⟨p0,p1,p2,p3⟩:=(HC.o.2.1.be HK.o.1).cells
  obtain⟨q0,q1,q2,q3⟩:=(HC.o.2.2.be HK.o.1).cells
  have hl8:=(HC.o.2.1.be HK.o.1).lt
  have hl9:=(HC.o.2.2.be HK.o.1).lt
  have hnl:=HNL.o
  by_cases hlk:k<np1
  ·obtain⟨x,hx⟩:∃ x,fp1[k]?=some x:=⟨_,List.getElem?_eq_getElem (by rw[HNP.o.1];exact hlk)⟩
   obtain⟨y,hy⟩:∃ x,fp2[k]?=some x:=⟨_,List.getElem?_eq_getElem (by rw[HNP.o.2];exact hlk)⟩
   obtain⟨b3,of3,rfl,hb3,s0⟩:=(HPQ.o we HK.o.1).1.got hx
   obtain⟨b4,of4,rfl,hb4,t0⟩:=(HPQ.o we HK.o.1).2.got hy
   have HXY:=Xj (And.intro hx hy)
   have hlk2:(k:Int)<(np1:Int):=by omega
   have hk0:(0:Int)<=(k:Int):=by omega
   clear hx hy
   by_cases he:x=y
   rotate_left
   ·have d1:(x==y)=false:=beq_eq_false_iff_ne.2 he
    have d2:(x != y)=true:=bne_iff_ne.2 he
    have HX:Xq (Um lines fs fs2=false):=Xj (HQ2.o (by
     rw[HQ3.o]
     have:(fp1==fp2)=false:=by
      rw[beq_eq_false_iff_ne]
      intro e
      have h:=HXY.o
      rw[e,h.2] at h
      have h2:=h.1
      injection h2 with h2
      exact he h2.symm
     rw[this];rfl))
    clear he
    go_upto_region 17 with fail
    refine Xn (by kernel_rfl) (by kernel_rfl) ?_
    have r0:∀ z:Xy we,z.val.cell? ⟨g8,2,none⟩=some (.slice (some ⟨b3,of3,none⟩) np1 cp1):=λ z=>z.cell p2
    have r1:∀ z:Xy we,z.val.cell? ⟨g9,2,none⟩=some (.slice (some ⟨b4,of4,none⟩) np1 cp2):=λ z=>z.cell q2
    have y0:∀ z:Xy we,z.val.cell? ⟨b3,of3+k,none⟩=some (.string (st x)):=λ z=>z.cell s0
    have z0:∀ z:Xy we,z.val.cell? ⟨b4,of4+k,none⟩=some (.string (st y)):=λ z=>z.cell t0
    repeat (go_big_quiet_step (fail))
    refine wpQuiet_nil ?_
    intro wb hbb
    have HBB:=Xj hbb
    clear hbb r0 r1 y0 z0
    go_wp2_with fail
    refine bodyPost_ret (v:=.bool false) (by simp[results,Tryz.results26,go_sem]) rfl ?_
    exact⟨by rw[HEQ.o _ HX.o],HBW.o _ (HBX.o _ (HK.o.1.trans (HBB.o.mono HK.o.1.size)))⟩
   subst he
   go_upto_region 17 with fail
   refine Xn (by kernel_rfl) (by kernel_rfl) ?_
   have r0:∀ z:Xy we,z.val.cell? ⟨g8,2,none⟩=some (.slice (some ⟨b3,of3,none⟩) np1 cp1):=λ z=>z.cell p2
   have r1:∀ z:Xy we,z.val.cell? ⟨g9,2,none⟩=some (.slice (some ⟨b4,of4,none⟩) np1 cp2):=λ z=>z.cell q2
   have y0:∀ z:Xy we,z.val.cell? ⟨b3,of3+k,none⟩=some (.string (st x)):=λ z=>z.cell s0
   have z0:∀ z:Xy we,z.val.cell? ⟨b4,of4+k,none⟩=some (.string (st x)):=λ z=>z.cell t0
   repeat (go_big_quiet_step (fail))
   refine wpQuiet_nil ?_
   intro wb hbb
   have HBB:=Xj hbb
   clear hbb r0 r1 y0 z0
   go_wp2_with fail
   go_roundw
   case rel=>exact⟨k+1,by go_num,by omega,Xj ⟨HK.o.1.trans (HBB.o.mono HK.o.1.size),λ j hj=>by
    by_cases e:j=k
    ·rw[e,HXY.o.1,HXY.o.2]
    exact HK.o.2 j (by omega)⟩⟩
   simp[Jt];omega
  have HX:Xq (Um lines fs fs2=Um lines (fs.drop (i2+1)) (fs2.drop (i2+1))):=Xj (by
   have hfp:fp1=fp2:=List.ext_getElem? (λ j=>by
    by_cases h:j<np1
    ·exact HK.o.2 j (by omega)
    rw[List.getElem?_eq_none (by rw[HNP.o.1];omega),List.getElem?_eq_none (by rw[HNP.o.2];omega)])
   rw[HQ.o,HQ3.o,HBS.o,hfp]
   simp)
  have HBE:=Xj (HBX.o _ HK.o.1)
  have dl:decide (k<np1)=false:=decide_eq_false hlk
  have dl2:decide ((k:Int)<(np1:Int))=false:=decide_eq_false (by omega)
  go_wp2_with fail
  go_roundw
  case rel=>exact⟨i2+1,by go_num,by omega,Xj ⟨HBE.o,HX.o⟩⟩
  simp[Jt];omega
 have dl:decide (i2<m1)=false:=decide_eq_false hlt
 have dl2:decide ((i2:Int)<(m1:Int))=false:=decide_eq_false (by omega)
 have HX:Xq (Um lines fs fs2=true):=Xj (by
  rw[HL.o.2,List.drop_eq_nil_of_le (by rw[HN.o.2.1];omega),List.drop_eq_nil_of_le (by rw[HN.o.2.2.2];omega)]
  rfl)
 go_wp2_with fail
 refine bodyPost_ret (v:=.bool true) (by simp[results,Tryz.results26,go_sem]) rfl ?_
 exact⟨by rw[HEQ.o _ HX.o],HBW.o _ HL.o.1⟩
theorem Is {T:Bt} {w w':World} {e:Ending} (h:Wj T w e w'):∃ (ga:Option Addr) (gn gc:Nat) (fa:Option Addr) (fn fc:Nat) (ln er:Int),e=.returned (.tuple #[sov (.slice ga gn gc) (.slice fa fn fc),.int .i64 ln,.int .i64 er]):=by
 rcases h.2 with⟨_,e1⟩|⟨_,_,e1⟩|⟨_,ts,y,_,h1⟩
 ·exact⟨_,_,_,_,_,_,_,_,e1⟩
 ·exact⟨_,_,_,_,_,_,_,_,e1⟩
 rcases h1.o.2 with⟨gs,fs,_,_,va,vb,_,_,h,e4⟩|⟨_,_,_,_,_,_,e4⟩|⟨_,_,e4⟩
 ·obtain⟨ga,gc,fa,fc,rfl,rfl,_,_⟩:=Hr h
  exact⟨_,_,_,_,_,_,_,_,e4⟩
 ·exact⟨_,_,_,_,_,_,_,_,e4⟩
 exact⟨_,_,_,_,_,_,_,_,e4⟩
theorem Zh.zero (w:World):Zh w (λ _=>True) [] [] Xs Xs:=⟨none,0,none,0,[],rfl,rfl,Nat.le_refl _,by unfold maxLen;omega,Nat.le_refl _,by unfold maxLen;omega,λ h=>absurd rfl h,λ h=>absurd rfl h,rfl⟩
theorem Zh.all {w:World} {P:Nat->Prop} {gs:List (Bt×Int)} {fs:List Fu} {va vb:Value} (h:Zh w P gs fs va vb):Zh w (λ _=>True) gs fs va vb:=h.keep (λ b _ _=>⟨rfl,trivial⟩) (Nat.le_refl _)
theorem In {T:Bt} {w1 w1' w2 w2':World} {e1 e2:Ending} (h:Wj T w1 e1 w1') (k:Wj T w2 e2 w2') :
  ∃ (va vb va2 vb2:Value) (ln er:Int) (gs:List (Bt×Int)) (fs:List Fu),e1=.returned (.tuple #[sov va vb,.int .i64 ln,.int .i64 er])/\e2=.returned (.tuple #[sov va2 vb2,.int .i64 ln,.int .i64 er]) /\
   Zh w1' (λ _=>True) gs fs va vb/\Zh w2' (λ _=>True) gs fs va2 vb2:=by
 rcases h.2 with⟨a1,a2⟩|⟨a1,a2,a3⟩|⟨a1,ts,y,a2,a3⟩
 ·rcases k.2 with⟨b1,b2⟩|⟨b1,b2,b3⟩|⟨b1,ts2,y2,b2,b3⟩
  ·exact⟨_,_,_,_,_,_,[],[],a2,b2,Zh.zero _,Zh.zero _⟩
  ·omega
  omega
 ·rcases k.2 with⟨b1,b2⟩|⟨b1,b2,b3⟩|⟨b1,ts2,y2,b2,b3⟩
  ·omega
  ·exact⟨_,_,_,_,_,_,[],[],a3,b3,Zh.zero _,Zh.zero _⟩
  rw[a2] at b2;cases b2
 rcases k.2 with⟨b1,b2⟩|⟨b1,b2,b3⟩|⟨b1,ts2,y2,b2,b3⟩
 ·omega
 ·rw[a2] at b2;cases b2
 rw[a2] at b2
 injection b2 with b2
 subst b2
 have hy:=a3.o.1.det b3.o.1
 subst hy
 rcases a3.o.2 with⟨gs,fs,wr,r,va,vb,p1,p2,p3,p4⟩|⟨gs,fs,wr,r,p1,p2,p4⟩|⟨r,p1,p4⟩
 ·rcases b3.o.2 with⟨gs',fs',wr',r',va',vb',q1,q2,q3,q4⟩|⟨gs',fs',wr',r',q1,q2,q4⟩|⟨r',q1,q4⟩
  ·rw[p1] at q1
   injection q1 with q5 q6 _ _
   subst q5 q6
   exact⟨va,vb,va',vb',0,0,gs,fs,p4,q4,p3.all,q3.all⟩
  ·rw[p1] at q1
   injection q1 with _ _ q5 _
   subst q5
   exact absurd q2 p2
  rw[p1] at q1;cases q1
 ·rcases b3.o.2 with⟨gs',fs',wr',r',va',vb',q1,q2,q3,q4⟩|⟨gs',fs',wr',r',q1,q2,q4⟩|⟨r',q1,q4⟩
  ·rw[p1] at q1
   injection q1 with _ _ q5 _
   subst q5
   exact absurd p2 q2
  ·rw[p1] at q1
   injection q1 with _ _ q5 _
   subst q5
   exact⟨_,_,_,_,_,_,[],[],p4,q4,Zh.zero _,Zh.zero _⟩
  rw[p1] at q1;cases q1
 rcases b3.o.2 with⟨gs',fs',wr',r',va',vb',q1,q2,q3,q4⟩|⟨gs',fs',wr',r',q1,q2,q4⟩|⟨r',q1,q4⟩
 ·rw[p1] at q1;cases q1
 ·rw[p1] at q1;cases q1
 rw[p1] at q1
 injection q1 with q1
 subst q1
 exact⟨_,_,_,_,_,_,[],[],p4,q4,Zh.zero _,Zh.zero _⟩
theorem Iv {va vb va2 vb2:Value} (e:sov va vb=sov va2 vb2):va=va2/\vb=vb2:=by
 injection e with e
 injection e with e
 simp only[List.cons.injEq,and_true] at e
 exact e
theorem Ir {T:Bt} {w1 w1' w2 w2':World} {e2:Ending} {va vb:Value} {ln er:Int} (h:Wj T w1 (.returned (.tuple #[sov va vb,.int .i64 ln,.int .i64 er])) w1') (k:Wj T w2 e2 w2') :
  ∃ (ga:Option Addr) (gn gc:Nat) (fa:Option Addr) (fn fc:Nat) (gs:List (Bt×Int)) (fs:List Fu),e2=.returned (.tuple #[sov (.slice ga gn gc) (.slice fa fn fc),.int .i64 ln,.int .i64 er])/\Zh w1' (λ _=>True) gs fs va vb/\Zh w2' (λ _=>True) gs fs (.slice ga gn gc) (.slice fa fn fc):=by
 obtain⟨xa,xb,va2,vb2,ln',er',gs,fs,e,e',p1,p2⟩:=In h k
 injection e with e
 injection e with e
 injection e with e
 simp only[List.cons.injEq,Value.int.injEq,true_and,and_true] at e
 obtain⟨q1,q2,q3⟩:=e
 obtain⟨q4,q5⟩:=Iv q1
 subst q2 q3 q4 q5
 obtain⟨ga,gc,fa,fc,rfl,rfl,_,_⟩:=Hr p2
 exact⟨_,_,_,_,_,_,gs,fs,e',p1,p2⟩
theorem Iw (l:Bool) (gs:List (Bt×Int)) (fs:List Fu):Gv l gs fs gs fs=true:=by
 unfold Gv
 rw[Td]
 simp
def Txs (w:World) (g:Nat) (l:List Bt):Prop:=g<w.heap.size/\∀ j x,l[j]?=some x->w.cell? ⟨g,j,none⟩=some (.string (st x))
theorem Txs.be {w w':World} {g:Nat} {l:List Bt} (h:Txs w g l) (hb:Below w.heap.size w w'):Txs w' g l:=⟨by have:=hb.size;have:=h.1;omega,λ j x hj=>(World.cell?_of_block (a:=⟨g,j,none⟩) (hb.block g h.1)).trans (h.2 j x hj)⟩
theorem Txs.new (w:World) (l:List Bt) (t:TypeId):Txs (w.alloc (.cells (l.map (λ x=>Value.string (st x))).toArray t)) w.heap.size l:=⟨by simp,λ j x hj=>Dg w _ t rfl (by simp[hj])⟩
def txP (S A B C:Bt):List Bt:=[S,A,B,C,[102,117,110,99,32,109,97,105,110,40,41,32,123]++(S++[125]),[103,108,111,98,97,108,32,97,91]++(S++[93,59])]
theorem Fd {S A B C:Bt} {j:Nat} {x:Bt} (h:(txP S A B C)[j]?=some x) (hS:S.length<=500) (hA:A.length<=40000) (hB:B.length<=40000) (hC:C.length<=40000):x.length<=40000:=by
 have hj:j<6:=(List.getElem?_eq_some_iff.1 h).1
 match j,hj with
 | 0,_=>injection h with h;subst h;omega
 | 1,_=>injection h with h;subst h;omega
 | 2,_=>injection h with h;subst h;omega
 | 3,_=>injection h with h;subst h;omega
 | 4,_=>injection h with h;subst h;simp;omega
 | 5,_=>injection h with h;subst h;simp;omega
end Go.Proofs.YtldgghnjminhiaaGreatDoor
