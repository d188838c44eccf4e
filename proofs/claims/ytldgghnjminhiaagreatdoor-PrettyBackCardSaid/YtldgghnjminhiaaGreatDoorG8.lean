/-
  WORDS, PLAIN LAWS and WALKS (PpQ PpS PsW PsX), pressed. (Filled in from templates of this repo.)
-/
import Derived.Test.YtldgghnjminhiaaGreatDoorG7
import Derived.Deep.CutBlock
import Derived.Deep.CutRange
namespace Go.Proofs.YtldgghnjminhiaaGreatDoor
open Go Go.ChangeAt Go.ChangeShapes Go.RowKit Go.WideShapes
set_option linter.unusedVariables false
set_option linter.unusedSimpArgs false
set_option maxRecDepth 100000
set_option maxHeartbeats 16000000
theorem Sf.app_asc (F G H:Sf):(F.app G).app H=F.app (G.app H):=by
 induction F with
 | nil=>rfl
 | cons k ln nm xs th el r _ _ ih=>show Sf.cons k ln nm xs th el _=Sf.cons k ln nm xs th el _;rw[ih]
theorem Sf.app_nil2 (F:Sf):F.app .nil=F:=by
 induction F with
 | nil=>rfl
 | cons k ln nm xs th el r _ _ ih=>show Sf.cons k ln nm xs th el _=Sf.cons k ln nm xs th el _;rw[ih]
def eqS (lines:Bool):Sf->Sf->Bool
 | .nil,.nil=>true
 | .cons k ln nm xs th el r,.cons k' ln' nm' xs' th' el' r'=>(k==k'&&(nm==nm'&&((!lines||ln==ln')&&(eqF lines xs xs'&&(eqS lines th th'&&eqS lines el el')))))&&eqS lines r r'
 | _,_=>false
theorem Tj {lines:Bool} {F G:Sf} (h:F.len≠G.len):eqS lines F G=false:=by
 induction F generalizing G with
 | nil=>cases G with
  | nil=>exact absurd rfl h
  | cons k ln nm xs th el r=>rfl
 | cons k ln nm xs th el r _ _ ih =>
  cases G with
  | nil=>rfl
  | cons k2 ln2 nm2 xs2 th2 el2 r2 =>
   have:=ih (G:=r2) (λ e=>h (by simp only[Sf.len,e]))
   simp[eqS,this]
theorem Lu {l:Bool} (F G:Fo) (h:eqF l F G=true):eqF l G F=true:=by
 induction F generalizing G with
 | nil =>
  cases G with
  | nil=>rfl
  | cons _ _ _=>cases h
 | cons h1 a1 r1 i1 i2 =>
  cases G with
  | nil=>cases h
  | cons h2 a2 r2 =>
   simp only[eqF,Bool.and_eq_true,Bool.or_eq_true,beq_iff_eq] at h ⊢
   obtain⟨⟨h1,h2,h3,h4,h5,h6⟩,h7⟩:=h
   exact⟨⟨h1.symm,h2.symm,h3.symm,h4.symm,by rcases h5 with h5|h5;exact .inl h5;exact .inr h5.symm,i1 _ h6⟩,i2 _ h7⟩
theorem Lj {l:Bool} (F G:Sf) (h:eqS l F G=true):eqS l G F=true:=by
 induction F generalizing G with
 | nil =>
  cases G with
  | nil=>rfl
  | cons _ _ _ _ _ _ _=>cases h
 | cons k ln nm xs th el r i1 i2 i3 =>
  cases G with
  | nil=>cases h
  | cons k' ln' nm' xs' th' el' r' =>
   simp only[eqS,Bool.and_eq_true,Bool.or_eq_true,beq_iff_eq] at h ⊢
   obtain⟨⟨h1,h2,h3,h4,h5,h6⟩,h7⟩:=h
   exact⟨⟨h1.symm,h2.symm,by rcases h3 with h3|h3;exact .inl h3;exact .inr h3.symm,Lu _ _ h4,i1 _ h5,i2 _ h6⟩,i3 _ h7⟩
theorem xqn {l:Bool} {F F' G G':Sf} (h:eqS l F F'=true) (k:eqS l G G'=true):eqS l (F.app G) (F'.app G')=true:=by
 induction F generalizing F' with
 | nil =>
  cases F' with
  | nil=>exact k
  | cons _ _ _ _ _ _ _=>cases h
 | cons _ _ _ _ _ _ r1 _ _ ih =>
  cases F' with
  | nil=>cases h
  | cons _ _ _ _ _ _ r2 =>
   simp only[eqS,Bool.and_eq_true] at h
   simp only[Sf.app,eqS,Bool.and_eq_true]
   exact⟨h.1,ih h.2⟩
def Ef (l:Bool) (f g:Fu):Bool:=f.nm==g.nm&&((!l||f.ln==g.ln)&&(f.ps==g.ps&&eqS l f.S g.S))
def Jq (l:Bool):List Fu->List Fu->Bool
 | [],[]=>true
 | f::fs,g::gs=>Ef l f g&&Jq l fs gs
 | _,_=>false
theorem At {l:Bool} {f g:Fu} (h:Ef l f g=true):Ef l g f=true:=by
 simp only[Ef,Bool.and_eq_true,Bool.or_eq_true,beq_iff_eq] at h ⊢
 obtain⟨h1,h2,h3,h4⟩:=h
 exact⟨h1.symm,by rcases h2 with h2|h2;exact .inl h2;exact .inr h2.symm,h3.symm,Lj _ _ h4⟩
theorem Bj {l:Bool} {fs gs:List Fu} (h:Jq l fs gs=true):Jq l gs fs=true:=by
 induction fs generalizing gs with
 | nil =>
  cases gs with
  | nil=>rfl
  | cons _ _=>cases h
 | cons f fs ih =>
  cases gs with
  | nil=>cases h
  | cons g gs =>
   simp only[Jq,Bool.and_eq_true] at h ⊢
   exact⟨At h.1,ih h.2⟩
theorem Dy {xs:Fo} (hw:xs.wf) {i:Nat} (hi:i<xs.len) {ts:List Tk} {R:List Xt} (e:unl ts=Qt xs i++R) (hs:stE R):∃ x F r,xs.get i=some x/\Ps .ex ts (.ok F r)/\unl r=R/\eqF false F (Xb x.1 x.2)=true:=by
 obtain⟨x,hg⟩:=Fo.get_lt hi
 unfold Qt at e
 rw[Nm xs i x hg] at e
 obtain⟨F,r,h1,h2,h3⟩:=(PaE.all xs hw.g i x hg).2.1 ts R e hs
 exact⟨x,F,r,hg,h1,h2,h3⟩
theorem Fh {xs:Fo} {x:Hd×Fo} (hl:xs.len=1) (hx:xs.get 0=some x):xs=Xb x.1 x.2:=by
 cases xs with
 | nil=>cases hx
 | cons h2 a2 r2 =>
  injection hx with hx
  subst hx
  cases r2 with
  | nil=>rfl
  | cons _ _ _=>simp[Fo.len] at hl
theorem xzn {xs:Fo} {x y:Hd×Fo} (hl:xs.len=2) (hx:xs.get 0=some x) (hy:xs.get 1=some y):xs=(Xb x.1 x.2).app (Xb y.1 y.2):=by
 cases xs with
 | nil=>cases hx
 | cons h2 a2 r2 =>
  cases r2 with
  | nil=>cases hy
  | cons h3 a3 r3 =>
   injection hx with hx
   injection hy with hy
   subst hx hy
   cases r3 with
   | nil=>rfl
   | cons _ _ _=>simp[Fo.len] at hl
theorem Wr {k ln ln':Int} {nm:Bt} {xs xs':Fo} {th th' el el':Sf} (h1:eqF false xs xs'=true) (h2:eqS false th th'=true) (h3:eqS false el el'=true):eqS false (Zq k ln nm xs th el) (Zq k ln' nm xs' th' el')=true:=by
 simp[eqS,h1,h2,h3]
def PaS (S:Sf):Prop:=∀ ts R (acc:Sf),unl ts=Zk S++(sgX [125]::R)->∃ S' r,Qs (.bk acc) ts (.ok (acc.app S') r)/\unl r=R/\eqS false S' S=true
theorem PaS.blk {S:Sf} (h:PaS S) {ts:List Tk} {R:List Xt} (e:unl ts=sgX [123]::(Zk S++(sgX [125]::R))):∃ S' r,Qs .bl ts (.ok S' r)/\unl r=R/\eqS false S' S=true:=by
 obtain⟨a1,a2,a3,a4,a5,a6⟩:=Xd e
 obtain⟨S',r,p1,p2,p3⟩:=h _ R .nil a4
 exact⟨S',r,Qs.bl_ok (by rw[a5];rfl) p1,p2,p3⟩
theorem PaS.more {k ln:Int} {nm:Bt} {xs:Fo} {th el S:Sf} (hS:PaS S)
  (h:∀ ts R,unl ts=Zk (Zq k ln nm xs th el)++R->(∃ x R',R=x::R'/\x.2.2≠[101,108,115,101])->isT [125] ts=false/\∃ T r,Qs .st ts (.ok T r)/\unl r=R/\eqS false T (Zq k ln nm xs th el)=true)
  (hn:∀ R,∃ x R',Zk S++(sgX [125]::R)=x::R'/\x.2.2≠[101,108,115,101]):PaS (.cons k ln nm xs th el S):=by
 intro ts R acc e
 have e2:Zk (.cons k ln nm xs th el S)=Zk (Zq k ln nm xs th el)++Zk S:=by simp[Zk]
 rw[e2,List.append_assoc] at e
 obtain⟨h1,T,r,h2,h3,h4⟩:=h ts _ e (hn R)
 obtain⟨S',r2,k1,k2,k3⟩:=hS r R (acc.app T) h3
 refine⟨T.app S',r2,?_,k2,xqn (F':=Zq k ln nm xs th el) h4 k3⟩
 rw[<- Sf.app_asc]
 exact Qs.bk_ok h1 h2 k1
theorem xjz {k ln:Int} {nm:Bt} {xs:Fo} {th el S:Sf} (hok:okS k nm xs th el):∃ x R',Zk (.cons k ln nm xs th el S)=x::R'/\x.2.2≠[101,108,115,101]/\x.2.2≠[125]:=by
 have hnm:okN nm->nm≠[101,108,115,101]/\nm≠[125]:=λ h=>by
  obtain⟨b,r,rfl,h1,h2,h3,h4⟩:=h
  refine⟨λ e=>?_,λ e=>?_⟩
  ·rw[e] at h3;exact absurd h3 (by decide)
  injection e with e _;subst e;exact absurd h1 (by decide)
 rcases hok with⟨hk,hn,hl,_⟩|⟨hk,hn,hl,_⟩|⟨hk,hn,hl⟩|⟨hk,hn,hl,_⟩|⟨hk,hn,hl,_⟩|⟨hk,hn,_⟩
 ·rcases hk with hk|hk
  ·exact⟨_,_,by simp[Zk,hk];exact⟨rfl,rfl⟩,by simp,by simp⟩
  exact⟨_,_,by simp[Zk,hk];exact⟨rfl,rfl⟩,(hnm hn).1,(hnm hn).2⟩
 ·exact⟨_,_,by simp[Zk,hk];exact⟨rfl,rfl⟩,(hnm hn).1,(hnm hn).2⟩
 ·exact⟨_,_,by simp[Zk,hk];exact⟨rfl,rfl⟩,by simp,by simp⟩
 ·exact⟨_,_,by simp[Zk,hk];exact⟨rfl,rfl⟩,by simp,by simp⟩
 ·rcases hk with hk|hk
  ·exact⟨_,_,by simp[Zk,hk];exact⟨rfl,rfl⟩,by simp,by simp⟩
  exact⟨_,_,by simp[Zk,hk];exact⟨rfl,rfl⟩,by simp,by simp⟩
 exact⟨_,_,by simp[Zk,hk];exact⟨rfl,rfl⟩,by simp,by simp⟩
theorem Sg {nm:Bt} (h:okN nm) {ts:List Tk} (hk:kOf ts=1):noW ts:=by
 have hf:∀ t,isT t ts=false:=λ t=>by
  cases hh:isT t ts with
  | false=>rfl
  | true=>exact absurd hk (Qx hh).1
 exact⟨hf _,hf _,hf _,hf _,hf _,hf _⟩
theorem PaS.one {k ln:Int} {nm:Bt} {xs:Fo} {th el:Sf} (hok:okS k nm xs th el) (hxs:xs.wf) (ht:PaS th) (he:PaS el) :
  ∀ ts R,unl ts=Zk (Zq k ln nm xs th el)++R->(∃ x R',R=x::R'/\x.2.2≠[101,108,115,101])->isT [125] ts=false/\∃ T r,Qs .st ts (.ok T r)/\unl r=R/\eqS false T (Zq k ln nm xs th el)=true:=by
 intro ts R e hR
 have hks:∀ (kk:Int) (m:Bt) (u:List Tk),hk ts=.val kk m u->xs.len=1->th=.nil->el=.nil->kk=k->m=nm->unl u=Qt xs 0++(sgX [59]::R)->∃ T r,Qs .st ts (.ok T r)/\unl r=R/\eqS false T (Zq k ln nm xs th el)=true:=by
  intro kk m u hu hl e1 e2 e3 e4 hu2
  subst e1 e2 e3 e4
  obtain⟨x,F,r,g1,g2,g3,g4⟩:=Dy hxs (i:=0) (by omega) hu2 ⟨[59],R,rfl,by decide⟩
  obtain⟨b1,b2,b3,b4,b5,b6⟩:=Xd g3
  have hq:=Qs.st_val hu g2
  unfold Dr at hq
  dsimp only at hq
  rw[if_pos (by rw[b5];rfl)] at hq
  refine⟨_,r.tail,hq,b4,Wr ?_ rfl rfl⟩
  rw[Fh hl g1]
  exact g4
 have hcr:∀ (kk:Int) (u:List Tk),hk ts=.cho kk u->kk=k->nm=[]->xs.len=1->(∃ R1,unl u=Qt xs 0++(sgX [123]::(Zk th++(sgX [125]::R1)))/\((kk≠4/\el=.nil/\R1=R)\/(kk=4/\el.len=0/\R1=R)\/(kk=4/\R1=wdX [101,108,115,101]::sgX [123]::(Zk el++(sgX [125]::R)))))->∃ T r,Qs .st ts (.ok T r)/\unl r=R/\eqS false T (Zq k ln nm xs th el)=true:=by
  intro kk u hu e3 e4 hl hx
  subst e3 e4
  obtain⟨R1,hu2,hR1⟩:=hx
  obtain⟨x,F,r,g1,g2,g3,g4⟩:=Dy hxs (i:=0) (by omega) hu2 ⟨[123],_,rfl,by decide⟩
  obtain⟨S',r2,p1,p2,p3⟩:=ht.blk g3
  have hF:eqF false F xs=true:=by rw[Fh hl g1];exact g4
  have hno:R1=R->isT elW r2=false:=λ e5=>by
   subst e5
   obtain⟨⟨k1,v1,t1⟩,R',rfl,hx2⟩:=hR
   obtain⟨b1,b2,b3,b4,b5,b6⟩:=Xd p2
   rw[b5]
   have:(t1==elW)=false:=by simpa using hx2
   rw[this];simp
  rcases hR1 with⟨h1,h2,h3⟩|⟨h1,h2,h3⟩|⟨h1,h3⟩
  ·refine⟨_,r2,Qs.cho_one hu g2 p1 (λ h=>h1 h.1),by rw[p2,h3],Wr hF p3 (by rw[h2];rfl)⟩
  ·refine⟨_,r2,Qs.cho_one hu g2 p1 (λ h=>by rw[hno h3] at h;cases h.2),by rw[p2,h3],Wr hF p3 ?_⟩
   cases el with
   | nil=>rfl
   | cons _ _ _ _ _ _ _=>simp[Sf.len] at h2
  rw[h3] at p2
  obtain⟨b1,b2,b3,b4,b5,b6⟩:=Xd p2
  obtain⟨S2,r3,q1,q2,q3⟩:=he.blk b4
  exact⟨_,r3,Qs.cho_two hu g2 p1 ⟨h1,by rw[b5];rfl⟩ q1,q2,Wr hF p3 q3⟩
 rcases hok with⟨hk,hn,hl,h1,h2⟩|⟨hk,hn,hl,h1,h2⟩|⟨hk,hn,hl⟩|⟨hk,hn,hl,h2⟩|⟨hk,hn,hl,h1,h2⟩|⟨hk,hn,h1,h2,hh,har,hxe,hkk⟩
 ·rcases hk with hk|hk
  ·have e2:Zk (Zq k ln nm xs th el)=wdX [118,97,114]::nmX nm::sgX [61]::(Qt xs 0++[sgX [59]]):=by simp[Zk,hk]
   rw[e2] at e
   simp only[List.cons_append,List.append_assoc,List.nil_append] at e
   obtain⟨a1,a2,a3,a4,a5,a6⟩:=Xd e
   obtain⟨b1,b2,b3,b4,b5,b6⟩:=Xd a4
   obtain⟨c1,c2,c3,c4,c5,c6⟩:=Xd b4
   have hh:=Dh (ts:=ts) (by rw[a5];rfl)
   rw[if_pos b1,if_pos (by rw[c5];rfl)] at hh
   exact⟨by rw[a5];rfl,hks _ _ _ hh hl h1 h2 hk.symm b3 c4⟩
  have e2:Zk (Zq k ln nm xs th el)=nmX nm::sgX [61]::(Qt xs 0++[sgX [59]]):=by simp[Zk,hk]
  rw[e2] at e
  simp only[List.cons_append,List.append_assoc,List.nil_append] at e
  obtain⟨a1,a2,a3,a4,a5,a6⟩:=Xd e
  obtain⟨b1,b2,b3,b4,b5,b6⟩:=Xd a4
  have hh:=Kd (Sg hn a1)
  rw[if_pos a1,if_neg (by rw[b5];decide),if_pos (by rw[b5];rfl)] at hh
  exact⟨by rw[a5];rfl,hks _ _ _ hh hl h1 h2 hk.symm a3 b4⟩
 ·have e2:Zk (Zq k ln nm xs th el)=nmX nm::sgX [91]::(Qt xs 0++(sgX [93]::sgX [61]::(Qt xs 1++[sgX [59]]))):=by simp[Zk,hk]
  rw[e2] at e
  simp only[List.cons_append,List.append_assoc,List.nil_append] at e
  obtain⟨a1,a2,a3,a4,a5,a6⟩:=Xd e
  obtain⟨b1,b2,b3,b4,b5,b6⟩:=Xd a4
  have hh:=Kd (Sg hn a1)
  rw[if_pos a1,if_pos (by rw[b5];rfl)] at hh
  obtain⟨x,F,r,g1,g2,g3,g4⟩:=Dy hxs (i:=0) (by omega) b4 ⟨[93],_,rfl,by decide⟩
  obtain⟨c1,c2,c3,c4,c5,c6⟩:=Xd g3
  obtain⟨d1,d2,d3,d4,d5,d6⟩:=Xd c4
  obtain⟨y,G,r2,k1,k2,k3,k4⟩:=Dy hxs (i:=1) (by omega) d4 ⟨[59],R,rfl,by decide⟩
  obtain⟨f1,f2,f3,f4,f5,f6⟩:=Xd k3
  have hq:=Qs.sto_ok hh g2 (by rw[c5];rfl) (by rw[d5];rfl) k2
  unfold Dr at hq
  dsimp only at hq
  rw[if_pos (by rw[f5];rfl)] at hq
  refine⟨by rw[a5];rfl,_,r2.tail,hq,f4,?_⟩
  subst hk h1 h2
  rw[a3]
  refine Wr ?_ rfl rfl
  rw[xzn hl g1 k1]
  exact Kh g4 k4
 ·by_cases hz:el.len=0
  ·have e2:Zk (Zq k ln nm xs th el)=wdX [105,102]::(Qt xs 0++(sgX [123]::(Zk th++[sgX [125]]))):=by simp[Zk,hk,hz]
   rw[e2] at e
   simp only[List.cons_append,List.append_assoc,List.nil_append] at e
   obtain⟨a1,a2,a3,a4,a5,a6⟩:=Xd e
   exact⟨by rw[a5];rfl,hcr _ _ (Ig (by rw[a5];rfl)) hk.symm hn hl ⟨R,a4,.inr (.inl ⟨rfl,hz,rfl⟩)⟩⟩
  have e2:Zk (Zq k ln nm xs th el)=wdX [105,102]::(Qt xs 0++(sgX [123]::(Zk th++(sgX [125]::wdX [101,108,115,101]::sgX [123]::(Zk el++[sgX [125]]))))):=by simp[Zk,hk,hz]
  rw[e2] at e
  simp only[List.cons_append,List.append_assoc,List.nil_append] at e
  obtain⟨a1,a2,a3,a4,a5,a6⟩:=Xd e
  exact⟨by rw[a5];rfl,hcr _ _ (Ig (by rw[a5];rfl)) hk.symm hn hl ⟨_,a4,.inr (.inr ⟨rfl,rfl⟩)⟩⟩
 ·have e2:Zk (Zq k ln nm xs th el)=wdX [119,104,105,108,101]::(Qt xs 0++(sgX [123]::(Zk th++[sgX [125]]))):=by simp[Zk,hk]
  rw[e2] at e
  simp only[List.cons_append,List.append_assoc,List.nil_append] at e
  obtain⟨a1,a2,a3,a4,a5,a6⟩:=Xd e
  exact⟨by rw[a5];rfl,hcr _ _ (Mv (by rw[a5];rfl)) hk.symm hn hl ⟨R,a4,.inl ⟨by decide,h2,rfl⟩⟩⟩
 ·rcases hk with hk|hk
  ·have e2:Zk (Zq k ln nm xs th el)=wdX [114,101,116,117,114,110]::(Qt xs 0++[sgX [59]]):=by simp[Zk,hk]
   rw[e2] at e
   simp only[List.cons_append,List.append_assoc,List.nil_append] at e
   obtain⟨a1,a2,a3,a4,a5,a6⟩:=Xd e
   exact⟨by rw[a5];rfl,hks _ _ _ (Dj (by rw[a5];rfl)) hl h1 h2 hk.symm hn.symm a4⟩
  have e2:Zk (Zq k ln nm xs th el)=wdX [112,114,105,110,116]::(Qt xs 0++[sgX [59]]):=by simp[Zk,hk]
  rw[e2] at e
  simp only[List.cons_append,List.append_assoc,List.nil_append] at e
  obtain⟨a1,a2,a3,a4,a5,a6⟩:=Xd e
  exact⟨by rw[a5];rfl,hks _ _ _ (Mw (by rw[a5];rfl)) hl h1 h2 hk.symm hn.symm a4⟩
 have e2:Zk (Zq k ln nm xs th el)=wdX [99,97,108,108]::(Qt xs 0++[sgX [59]]):=by simp[Zk,hk]
 rw[e2] at e
 simp only[List.cons_append,List.append_assoc,List.nil_append] at e
 obtain⟨a1,a2,a3,a4,a5,a6⟩:=Xd e
 exact⟨by rw[a5];rfl,hks _ _ _ (Sl (by rw[a5];rfl)) (by rw[hxe];rfl) h1 h2 hk.symm hn.symm a4⟩
theorem PaS.all (S:Sf) (hw:S.wf):PaS S:=by
 induction S with
 | nil =>
  intro ts R acc e
  obtain⟨a1,a2,a3,a4,a5,a6⟩:=Xd (show unl ts=sgX [125]::R from e)
  exact⟨.nil,ts.tail,by rw[Sf.app_nil2];exact Qs.bk_end (by rw[a5];rfl),a4,rfl⟩
 | cons k ln nm xs th el S i1 i2 i3 =>
  obtain⟨hok,_,hxs,ht,he,hr⟩:=hw
  refine PaS.more (i3 hr) (PaS.one hok hxs (i1 ht) (i2 he)) (λ R=>?_)
  cases S with
  | nil=>exact⟨_,_,rfl,by simp⟩
  | cons k2 ln2 nm2 xs2 th2 el2 S2 =>
   obtain⟨x,R',h1,h2,_⟩:=xjz (ln:=ln2) (S:=S2) hr.1
   exact⟨x,R'++(sgX [125]::R),by rw[h1];rfl,h2⟩
theorem xzv (qs:List Bt):∀ (ps:List Bt) ts R,ps≠[]->unl ts=tlX (qs.map λ p=>[nmX p])++(sgX [41]::R)->∃ r,Pr ps ts (.ok (ps++qs) r)/\unl r=R:=by
 induction qs with
 | nil =>
  intro ps ts R hp e
  obtain⟨a1,a2,a3,a4,a5,a6⟩:=Xd (show unl ts=sgX [41]::R from e)
  exact⟨ts.tail,by rw[List.append_nil];exact Pr.fin (by rw[a5];rfl),a4⟩
 | cons q qs ih =>
  intro ps ts R hp e
  have e:unl ts=sgX [44]::nmX q::(tlX (qs.map λ p=>[nmX p])++(sgX [41]::R)):=by rw[e];rfl
  obtain⟨a1,a2,a3,a4,a5,a6⟩:=Xd e
  obtain⟨b1,b2,b3,b4,b5,b6⟩:=Xd a4
  obtain⟨r,h1,h2⟩:=ih (ps++[q]) _ R (by simp) b4
  refine⟨r,Pr.more (u:=ts.tail) (by rw[a5];rfl) (λ _=>by rw[a5];rfl) (by unfold uP;rw[if_neg hp]) b1 ?_,h2⟩
  rw[b3]
  have:ps++q::qs=(ps++[q])++qs:=by simp
  rw[this]
  exact h1
theorem xvw (ps:List Bt) {ts:List Tk} {R:List Xt} (e:unl ts=commX (ps.map λ p=>[nmX p])++(sgX [41]::R)):∃ r,Pr [] ts (.ok ps r)/\unl r=R:=by
 cases ps with
 | nil =>
  obtain⟨a1,a2,a3,a4,a5,a6⟩:=Xd (show unl ts=sgX [41]::R from e)
  exact⟨ts.tail,Pr.fin (by rw[a5];rfl),a4⟩
 | cons q qs =>
  have e:unl ts=nmX q::(tlX (qs.map λ p=>[nmX p])++(sgX [41]::R)):=by
   rw[e]
   show commX ([nmX q]::qs.map λ p=>[nmX p])++_=_
   rw[Gn]
   rfl
  obtain⟨a1,a2,a3,a4,a5,a6⟩:=Xd e
  obtain⟨r,h1,h2⟩:=xzv qs [q] _ R (by simp) a4
  refine⟨r,Pr.more (u:=ts) (by rw[a5];rfl) (λ h=>absurd rfl h) (by unfold uP;rw[if_pos rfl]) a1 ?_,h2⟩
  rw[a3]
  exact h1
def fnU (F:Fn):Fu:=⟨F.nm,0,F.ps,F.bd⟩
theorem xvt (F:Fn) (hb:F.bd.wf) {ts:List Tk} {R:List Xt} (e:unl ts=nmX F.nm::sgX [40]::(commX (F.ps.map λ p=>[nmX p])++(sgX [41]::sgX [123]::(Zk F.bd++(sgX [125]::R))))) :
  ∃ S r,Fs ts (.ok F.nm F.ps S r)/\unl r=R/\eqS false S F.bd=true:=by
 obtain⟨a1,a2,a3,a4,a5,a6⟩:=Xd e
 obtain⟨b1,b2,b3,b4,b5,b6⟩:=Xd a4
 obtain⟨r,h1,h2⟩:=xvw F.ps b4
 obtain⟨S,r2,k1,k2,k3⟩:=(PaS.all F.bd hb).blk h2
 refine⟨S,r2,?_,k2,k3⟩
 rw[<- a3]
 exact Fs.ok a1 (by rw[b5];rfl) h1 k1
theorem xxg (x:Bt×Int) (h:0<=x.2/\x.2<=5) {ts:List Tk} {R:List Xt} (e:unl ts=nmX x.1::((if 0<x.2 then [sgX [91],(2,x.2,Lib.decDigits x.2.toNat),sgX [93]] else [])++(sgX [59]::R))) (wr:Int):∃ r,glP wr ts=.ok x.1 x.2 wr r/\unl r=R:=by
 by_cases hz:0<x.2
 ·rw[if_pos hz] at e
  simp only[List.cons_append,List.nil_append] at e
  obtain⟨a1,a2,a3,a4,a5,a6⟩:=Xd e
  obtain⟨b1,b2,b3,b4,b5,b6⟩:=Xd a4
  obtain⟨c1,c2,c3,c4,c5,c6⟩:=Xd b4
  obtain⟨d1,d2,d3,d4,d5,d6⟩:=Xd c4
  obtain⟨f1,f2,f3,f4,f5,f6⟩:=Xd d4
  refine⟨ts.tail.tail.tail.tail.tail,?_,f4⟩
  unfold glP
  rw[if_pos a1,if_pos (by rw[b5];rfl),if_pos c1,if_pos (by rw[d5];rfl),if_pos (by rw[f5];rfl),a3,c2]
  have:Pw x.2 (Yb ts.tail.tail) wr=wr:=by unfold Pw;rw[if_neg (by omega)]
  rw[this]
 rw[if_neg hz] at e
 simp only[List.cons_append,List.nil_append] at e
 obtain⟨a1,a2,a3,a4,a5,a6⟩:=Xd e
 obtain⟨b1,b2,b3,b4,b5,b6⟩:=Xd a4
 refine⟨ts.tail.tail,?_,b4⟩
 unfold glP
 rw[if_pos a1,if_neg (by rw[b5];decide),if_pos (by rw[b5];rfl),a3]
 have:x.2=0:=by omega
 rw[this]
theorem xvj (l:List Fn) (hl:∀ F∈l,F.bd.wf):∀ (gs:List (Bt×Int)) (fs:List Fu) ts ln,unl ts=l.flatMap Wq++[(0,0,[])]->∃ fs' r,So 0 gs fs ts (.ok gs (fs++fs') 0 r)/\Jq false fs' (l.map fnU)=true/\(ln:Int)=ln:=by
 induction l with
 | nil =>
  intro gs fs ts ln e
  obtain⟨a1,_⟩:=Xd (show unl ts=(0,0,[])::[] from e)
  exact⟨[],ts,by rw[List.append_nil];exact So.fin a1,rfl,rfl⟩
 | cons F l ih =>
  intro gs fs ts ln e
  have e:unl ts=wdX [102,117,110,99]::nmX F.nm::sgX [40]::(commX (F.ps.map λ p=>[nmX p])++(sgX [41]::sgX [123]::(Zk F.bd++(sgX [125]::(l.flatMap Wq++[(0,0,[])]))))):=by
   rw[e,List.flatMap_cons]
   simp[Wq]
  obtain⟨a1,a2,a3,a4,a5,a6⟩:=Xd e
  obtain⟨S,r,h1,h2,h3⟩:=xvt F (hl F (by simp)) a4
  obtain⟨fs',r2,k1,k2,_⟩:=ih (λ G hG=>hl G (by simp[hG])) gs (fs++[⟨F.nm,Yb ts,F.ps,S⟩]) r ln h2
  refine⟨⟨F.nm,Yb ts,F.ps,S⟩::fs',r2,So.fn (by rw[a5];rfl) h1 ?_,?_,rfl⟩
  ·have:fs++⟨F.nm,Yb ts,F.ps,S⟩::fs'=(fs++[⟨F.nm,Yb ts,F.ps,S⟩])++fs':=by simp
   rw[this]
   exact k1
  simp only[List.map_cons,Jq,Bool.and_eq_true]
  exact⟨by simp[Ef,fnU,h3],k2⟩
theorem xvq (l:List (Bt×Int)) (hg:∀ x∈l,0<=x.2/\x.2<=5) (Fs:List Fn) (hl:∀ F∈Fs,F.bd.wf):∀ (gs:List (Bt×Int)) ts,unl ts=(l.flatMap Hb++Fs.flatMap Wq)++[(0,0,[])]->∃ fs r,So 0 gs [] ts (.ok (gs++l) fs 0 r)/\Jq false fs (Fs.map fnU)=true:=by
 induction l with
 | nil =>
  intro gs ts e
  obtain⟨fs',r,h1,h2,_⟩:=xvj Fs hl gs [] ts 0 e
  exact⟨fs',r,by rw[List.append_nil];exact h1,h2⟩
 | cons x l ih =>
  intro gs ts e
  have e:unl ts=wdX [103,108,111,98,97,108]::nmX x.1::((if 0<x.2 then [sgX [91],(2,x.2,Lib.decDigits x.2.toNat),sgX [93]] else [])++(sgX [59]::((l.flatMap Hb++Fs.flatMap Wq)++[(0,0,[])]))):=by
   rw[e,List.flatMap_cons]
   simp[Hb]
  obtain⟨a1,a2,a3,a4,a5,a6⟩:=Xd e
  obtain⟨r,h1,h2⟩:=xxg x (hg x (by simp)) a4 0
  obtain⟨fs,r2,k1,k2⟩:=ih (λ y hy=>hg y (by simp[hy])) (gs++[x]) r h2
  refine⟨fs,r2,So.gl (by rw[a5];rfl) h1 ?_,k2⟩
  have:gs++x::l=(gs++[x])++l:=by simp
  rw[this]
  exact k1
theorem xzz (l:List (Bt×Int)) (hg:∀ x∈l,0<=x.2/\x.2<=5) (Fs:List Fn) (hl:∀ F∈Fs,F.bd.wf) {ys:List Tk} {ln:Int} (e:unl ys=Hu l Fs):∃ fs r,So 0 [] [] (ys++[⟨0,ln,0,[]⟩]) (.ok l fs 0 r)/\Jq false fs (Fs.map fnU)=true:=by
 have:=xvq l hg Fs hl [] (ys++[⟨0,ln,0,[]⟩]) (by
  unfold unl at e ⊢
  rw[List.map_append,e]
  rfl)
 simpa using this
structure PC where
 g:Nat
 al:Option Addr
 cl:Nat
 ts:List Tk
 wr:Int
structure PAt (w:World) (K:PC) (at_:Nat) (rest:List Tk):Prop where
 row:w.heap[K.g]?=some (.cells #[.slice K.al K.ts.length K.cl,.int .i64 (at_:Int),.int .i64 K.wr] 99 (0,0))
 tk:Tks w K.al K.ts
 ne:∀ x,K.al=some x->x.block≠K.g
 dr:K.ts.drop at_=rest
 en:Jd rest
 cap:K.ts.length<=K.cl/\K.cl<=maxLen
 n:K.ts.length<=100000
theorem PAt.lt {w:World} {K:PC} {at_:Nat} {rest:List Tk} (h:PAt w K at_ rest):at_<K.ts.length/\K.ts.length=at_+rest.length:=by
 obtain⟨x,r,e⟩:=h.en.cons
 have h1:=h.dr
 rw[e] at h1
 have h2:=congrArg List.length h1
 rw[List.length_drop,List.length_cons] at h2
 rw[e,List.length_cons]
 omega
theorem PAt.glt {w:World} {K:PC} {at_:Nat} {rest:List Tk} (h:PAt w K at_ rest):K.g<w.heap.size:=Xv h.row
theorem PAt.grown {w w':World} {K:PC} {at_:Nat} {rest:List Tk} {r:Option Nat} (h:PAt w K at_ rest) (hg:w.grownBy w' r) (hr:∀ k,r=some k->k≠K.g/\∀ x,K.al=some x->x.block≠k):PAt w' K at_ rest :=
 {h with
  row:=(hg.block K.g h.glt (λ e=>(hr K.g e.symm).1 rfl)).trans h.row
  tk:=λ j x hj=>by
   obtain⟨b,off,e,hb,h0,h1,h2,h3⟩:=h.tk j x hj
   have key:w'.heap[b]?=w.heap[b]?:=hg.block b hb (λ e2=>(hr b e2.symm).2 _ e rfl)
   have kc:∀ o,w'.cell? ⟨b,o,none⟩=w.cell? ⟨b,o,none⟩:=λ o=>World.cell?_of_block (a:=⟨b,o,none⟩) key
   exact⟨b,off,e,by have:=hg.size;omega,(kc _).trans h0,(kc _).trans h1,(kc _).trans h2,(kc _).trans h3⟩ }
theorem PAt.below {w w':World} {K:PC} {at_:Nat} {rest:List Tk} (h:PAt w K at_ rest) (hb:Below w.heap.size w w'):PAt w' K at_ rest:=h.grown (Xm hb none) (λ k e=>by cases e)
theorem PAt.tok {w:World} {K:PC} {at_:Nat} {rest:List Tk} (h:PAt w K at_ rest):∃ x r b off,rest=x::r/\K.al=some ⟨b,off,none⟩/\b<w.heap.size/\b≠K.g /\
  w.cell? ⟨b,off+at_*4,none⟩=some (.int .i64 x.k)/\w.cell? ⟨b,off+at_*4+1,none⟩=some (.int .i64 x.n)/\w.cell? ⟨b,off+at_*4+2,none⟩=some (.int .i64 x.v)/\w.cell? ⟨b,off+at_*4+3,none⟩=some (.string (st x.t)):=by
 obtain⟨x,r,e⟩:=h.en.cons
 have h1:=h.dr
 rw[e] at h1
 have hx:K.ts[at_]?=some x:=by
  have:=congrArg (λ l=>l[0]?) h1
  simpa using this
 obtain⟨b,off,e2,hb,h0,h2,h3,h4⟩:=h.tk at_ x hx
 exact⟨x,r,b,off,e,e2,hb,h.ne _ e2,h0,h2,h3,h4⟩
theorem PAt.step {w:World} {K:PC} {at_:Nat} {rest:List Tk} (h:PAt w K at_ rest) (hk:kOf rest≠0):PAt (w.setCell ⟨K.g,1,none⟩ (.int .i64 ((at_:Int)+1))) K (at_+1) rest.tail :=
 have hjf:=Xu w K.g 1 (.int .i64 ((at_:Int)+1))
 {row:=heap_setCell_same w K.g 1 _ _ _ h.row
  tk:=λ j x hj=>by
   obtain⟨b,off,e,hb,h0,h1,h2,h3⟩:=h.tk j x hj
   have key:(w.setCell ⟨K.g,1,none⟩ (.int .i64 ((at_:Int)+1))).heap[b]?=w.heap[b]?:=hjf.block b hb (λ e2=>by injection e2 with e2;exact h.ne _ e e2)
   have kc:∀ o,(w.setCell ⟨K.g,1,none⟩ (.int .i64 ((at_:Int)+1))).cell? ⟨b,o,none⟩=w.cell? ⟨b,o,none⟩:=λ o=>World.cell?_of_block (a:=⟨b,o,none⟩) key
   exact⟨b,off,e,by have:=hjf.size;omega,(kc _).trans h0,(kc _).trans h1,(kc _).trans h2,(kc _).trans h3⟩
  ne:=h.ne
  dr:=by rw[<- h.dr,List.tail_drop]
  en:=h.en.kOf hk
  cap:=h.cap
  n:=h.n }
theorem PAt.cells {w:World} {K:PC} {at_:Nat} {rest:List Tk} (h:PAt w K at_ rest):w.cell? ⟨K.g,0,none⟩=some (.slice K.al K.ts.length K.cl)/\w.cell? ⟨K.g,1,none⟩=some (.int .i64 (at_:Int))/\w.cell? ⟨K.g,2,none⟩=some (.int .i64 K.wr) /\
  w.frozen? ⟨K.g,1,none⟩=false/\w.frozen? ⟨K.g,2,none⟩=false/\K.g<w.heap.size :=
 ⟨cell_of_row _ _ 0 _ _ _ h.row,cell_of_row _ _ 1 _ _ _ h.row,cell_of_row _ _ 2 _ _ _ h.row,frozen_of_row _ _ 1 _ _ h.row,frozen_of_row _ _ 2 _ _ h.row,h.glt⟩
abbrev Pm (x:Tk):Value:=.agg #[.int .i64 x.k,.int .i64 x.n,.int .i64 x.v,.string (st x.t)]
def hdT:List Tk->Tk
 | x::_=>x
 | []=>⟨0,0,0,[]⟩
theorem Iw (K:PC) (at_:Nat) (rest:List Tk) (w:World) (h:PAt w K at_ rest):Calls Tryz.prog 57 #[.pointer (some ⟨K.g,0,none⟩)] w λ e w'=>e=.returned (Pm (hdT rest))/\Below w.heap.size w w':=by
 have hlt:=h.lt.1
 have hjb:=h.cap
 have hn:=h.n
 have hr:=heap_alloc_new w (.cells #[.int .i64 0,.int .i64 0,.int .i64 0,.string ⟨#[]⟩] 103)
 have hbA:=Xw w (.cells #[.int .i64 0,.int .i64 0,.int .i64 0,.string ⟨#[]⟩] 103)
 have hzn:=h.glt
 obtain⟨x,r,b,off,rfl,hal,hb,hbg,t0,t1,t2,t3⟩:=h.tok
 obtain⟨p0,p1,-,-,-,-⟩:=h.cells
 rw[hal] at p0
 have q0:=(hbA.cell (p:=⟨K.g,0,none⟩) hzn).trans p0
 have q1:=(hbA.cell (p:=⟨K.g,1,none⟩) hzn).trans p1
 have s0:=(hbA.cell (p:=⟨b,off+at_*4,none⟩) hb).trans t0
 have s1:=(hbA.cell (p:=⟨b,off+at_*4+1,none⟩) hb).trans t1
 have s2:=(hbA.cell (p:=⟨b,off+at_*4+2,none⟩) hb).trans t2
 have s3:=(hbA.cell (p:=⟨b,off+at_*4+3,none⟩) hb).trans t3
 obtain⟨k,n,v,tt⟩:=x
 dsimp only at *
 obtain⟨g,hg⟩:∃ g,K.g=g:=⟨_,rfl⟩
 obtain⟨N,hN⟩:∃ N,K.ts.length=N:=⟨_,rfl⟩
 obtain⟨cl,hcl⟩:∃ c,K.cl=c:=⟨_,rfl⟩
 rw[hN,hcl] at hjb q0
 rw[hN] at hlt hn
 rw[hg] at q0 q1 hzn hbg ⊢
 have hcl2:cl<=9223372036854775807:=by have:=hjb.2;unfold maxLen at this;omega
 have hqm:(at_:Int)<(N:Int):=by omega
 clear h hal p0 p1 t0 t1 t2 t3 hN hcl hg
 go_enter Tryz.func57,Tryz.ntmps57
 go_upto_region 1 with fail
 obtain⟨w1,hw1⟩:∃ W,w.alloc (.cells #[.int .i64 0,.int .i64 0,.int .i64 0,.string ⟨#[]⟩] 103)=W:=⟨_,rfl⟩
 obtain⟨gr,hgr⟩:∃ x,w.heap.size=x:=⟨_,rfl⟩
 rw[hw1] at hr hbA q0 q1 s0 s1 s2 s3 ⊢
 rw[hgr] at hr hzn hb
 (try rw[hgr])
 have HB:=Xj (And.intro hbA hgr)
 have HR:=Xj hr
 have n1:gr≠g:=by omega
 have n2:gr≠b:=by omega
 clear hw1 hgr hbA hr
 refine wp_region_held_drew (S:=(λ w'=>w'.cell? ⟨g,0,none⟩=some (.slice (some ⟨b,off,none⟩) N cl)/\w'.cell? ⟨g,1,none⟩=some (.int .i64 (at_:Int))/\w'.cell? ⟨b,off+at_*4,none⟩=some (.int .i64 k)/\w'.cell? ⟨b,off+at_*4+1,none⟩=some (.int .i64 n)/\w'.cell? ⟨b,off+at_*4+2,none⟩=some (.int .i64 v)/\w'.cell? ⟨b,off+at_*4+3,none⟩=some (.string (st tt)))) (by kernel_rfl) ⟨q0,q1,s0,s1,s2,s3⟩ (λ hJ=>?_)
 refine tkH 0 3 ?_
 refine tkH 1 4 ?_
 refine tkH 2 5 ?_
 refine tkH 3 6 ?_
 refine tkH 4 7 ?_
 refine tkH 5 8 ?_
 refine tkH 6 9 ?_
 refine tkH 7 10 ?_
 refine tkH 8 11 ?_
 refine tkH 9 12 ?_
 refine rdH 10 λ K0 hK=>?_
 have c0:=cell_of_row _ _ 0 _ _ _ HR.o
 have c1:=cell_of_row _ _ 1 _ _ _ HR.o
 have c2:=cell_of_row _ _ 2 _ _ _ HR.o
 have c3:=cell_of_row _ _ 3 _ _ _ HR.o
 have f0:=frozen_of_row _ gr 0 _ _ HR.o
 have f1:=frozen_of_row _ gr 1 _ _ HR.o
 have f2:=frozen_of_row _ gr 2 _ _ HR.o
 have f3:=frozen_of_row _ gr 3 _ _ HR.o
 have jl:=Xv HR.o
 go_simp
 refine goH hK ⟨Xs n1 hJ.1,Xs n1 hJ.2.1,Xs n2 hJ.2.2.1,Xs n2 hJ.2.2.2.1,Xs n2 hJ.2.2.2.2.1,Xs n2 hJ.2.2.2.2.2⟩ λ hJ=>?_
 clear hK K0
 refine wpAnyH_done (by kernel_rfl) ?_ _
 refine Xz ?_
 have hZ:=Yt (w:=w1) (v0:=.int .i64 k) (v1:=.int .i64 n) (v2:=.int .i64 v) (v3:=.string (st tt)) HR.o
 have hjw:=(Zw (w:=w1) (B:=w.heap.size) (w0:=w) (b:=gr) (v0:=.int .i64 k) (v1:=.int .i64 n) (v2:=.int .i64 v) (v3:=.string (st tt)) HB.o.1 (by rw[HB.o.2];exact Nat.le_refl _)).drew
 have hZ:(set4 w1 gr (.int .i64 k) (.int .i64 n) (.int .i64 v) (.string (st tt))).drew.heap[gr]?=some (.cells #[.int .i64 k,.int .i64 n,.int .i64 v,.string (st tt)] 103 (0,0)):=hZ
 have d0:=cell_of_row _ _ 0 _ _ _ hZ
 have d1:=cell_of_row _ _ 1 _ _ _ hZ
 have d2:=cell_of_row _ _ 2 _ _ _ hZ
 have d3:=cell_of_row _ _ 3 _ _ _ hZ
 have hju:=Xj hjw
 obtain⟨wn,hwn⟩:∃ wn,(set4 w1 gr (.int .i64 k) (.int .i64 n) (.int .i64 v) (.string (st tt))).drew=wn:=⟨_,rfl⟩
 have hjv:=hwn
 unfold set4 at hjv
 rw[hjv]
 rw[hwn] at hju d0 d1 d2 d3
 clear hwn hjv hZ hjw c0 c1 c2 c3 f0 f1 f2 f3 jl hJ q0 q1 s0 s1 s2 s3
 go_wp2_with fail
 refine bodyPost_ret (v:=.agg #[.int .i64 k,.int .i64 n,.int .i64 v,.string (st tt)]) (by simp[results,Tryz.results57,go_sem,d0,d1,d2,d3]) rfl ?_
 exact⟨rfl,hju.o⟩
theorem Zn (K:PC) (at_:Nat) (k n v:Int) (tt:Bt) (r:List Tk) (w:World) (h:PAt w K at_ (⟨k,n,v,tt⟩::r)):Calls Tryz.prog 57 #[.pointer (some ⟨K.g,0,none⟩)] w λ e w'=>e=.returned (.agg #[.int .i64 k,.int .i64 n,.int .i64 v,.string (st tt)])/\Below w.heap.size w w':=Iw K at_ _ w h
theorem Dd (K:PC) (at_:Nat) (rest:List Tk) (t:Bt) (w:World) (h:PAt w K at_ rest):Calls Tryz.prog 98 #[.pointer (some ⟨K.g,0,none⟩),.string (st t)] w λ e w'=>e=.returned (.bool (isT t rest))/\Below w.heap.size w w':=by
 obtain⟨⟨k,n,v,tt⟩,r,rfl⟩:=h.en.cons
 have HP:=Xj h
 clear h
 go_enter Tryz.func98,Tryz.ntmps98
 go_wp2_with fail
 refine(Zn K at_ k n v tt r _ HP.o).mono ?_
 rintro e w2 ⟨rfl,hb2⟩
 have hb3:=Xw w2 (.cells #[.int .i64 k,.int .i64 n,.int .i64 v,.string (st tt)] 103)
 have hr:=heap_alloc_new w2 (.cells #[.int .i64 k,.int .i64 n,.int .i64 v,.string (st tt)] 103)
 go_upto_region 2 with fail
 obtain⟨w3,hw3⟩:∃ W,w2.alloc (.cells #[.int .i64 k,.int .i64 n,.int .i64 v,.string (st tt)] 103)=W:=⟨_,rfl⟩
 obtain⟨gr,hgr⟩:∃ x,w2.heap.size=x:=⟨_,rfl⟩
 rw[hw3] at hr hb3 ⊢
 rw[hgr] at hr
 (try rw[hgr])
 have HB:=Xj (hb2.trans (hb3.mono hb2.size))
 have c0:=cell_of_row _ _ 0 _ _ _ hr
 have c3:=cell_of_row _ _ 3 _ _ _ hr
 have hl:=Xv hr
 clear hw3 hgr hr hb3 hb2
 cases h3:(k==3)
 ·cases h4:(k==4)
  ·have HE:Xq (isT t ({ k:=k,n:=n,v:=v,t:=tt }::r)=false):=Xj (by simp[isT,h3,h4])
   go_wp2_with fail
   go_ret
   exact⟨by rw[HE.o];try rfl,HB.o⟩
  have HE:Xq (isT t ({ k:=k,n:=n,v:=v,t:=tt }::r)=(tt==t)):=Xj (by simp[isT,h3,h4])
  go_wp2_with fail
  go_ret
  exact⟨by rw[HE.o];try rfl,HB.o⟩
 have HE:Xq (isT t ({ k:=k,n:=n,v:=v,t:=tt }::r)=(tt==t)):=Xj (by simp[isT,h3])
 go_wp2_with fail
 go_ret
 exact⟨by rw[HE.o];try rfl,HB.o⟩
def xvm (K:PC) (at_:Nat) (rest:List Tk) (t:Bt) (w:World) (e:Ending) (w':World):Prop :=
 ∃ at2 rest2,e=.returned (.bool (isT t rest))/\PAt w' K at2 rest2/\w.grownBy w' (some K.g)/\((isT t rest=true/\at2=at_+1/\rest2=rest.tail)\/(isT t rest=false/\at2=at_/\rest2=rest))
theorem Xn (K:PC) (at_:Nat) (rest:List Tk) (t:Bt) (w:World) (h:PAt w K at_ rest):Calls Tryz.prog 99 #[.pointer (some ⟨K.g,0,none⟩),.string (st t)] w (xvm K at_ rest t w):=by
 have HP:=Xj h
 clear h
 go_enter Tryz.func99,Tryz.ntmps99
 go_wp2_with fail
 refine(Dd K at_ rest t _ HP.o).mono ?_
 rintro e w2 ⟨rfl,hb2⟩
 have HP2:=Xj (HP.o.below hb2)
 have HG2:=Xj (Xm hb2 (some K.g))
 clear hb2
 cases hT:isT t rest
 ·have HT:=Xj hT
  clear hT
  go_wp2_with fail
  go_ret
  exact⟨at_,rest,by rw[HT.o];rfl,HP2.o,HG2.o,.inr ⟨HT.o,rfl,rfl⟩⟩
 have HT:=Xj hT
 obtain⟨-,p1,-,f1,-,hl⟩:=HP2.o.cells
 have hn:=HP2.o.n
 have hlt:=HP2.o.lt.1
 have hw1:IntKind.i64.wrap ((at_:Int)+1)=(at_:Int)+1:=by rw[IntKind.wrap_i64];omega
 have HF:=Xj (And.intro (HP2.o.step (Qx HT.o).2.2.1) (Xp HG2.o (Xu w2 K.g 1 (.int .i64 ((at_:Int)+1)))))
 clear hn hlt hT
 go_wp2_with fail
 go_ret
 exact⟨at_+1,rest.tail,by rw[HT.o];rfl,HF.o.1,HF.o.2,.inl ⟨HT.o,rfl,rfl⟩⟩
def xvb (K:PC) (at_:Nat) (rest:List Tk) (w:World) (e:Ending) (w':World):Prop :=
 ∃ at2 rest2,PAt w' K at2 rest2/\w.grownBy w' (some K.g)/\((kOf rest=1/\e=.returned (.tuple #[.string (st (tOf rest)),.bool true])/\at2=at_+1/\rest2=rest.tail)\/(kOf rest≠1/\e=.returned (.tuple #[.string ⟨#[]⟩,.bool false])/\at2=at_/\rest2=rest))
theorem Vz (K:PC) (at_:Nat) (rest:List Tk) (w:World) (h:PAt w K at_ rest):Calls Tryz.prog 146 #[.pointer (some ⟨K.g,0,none⟩)] w (xvb K at_ rest w):=by
 obtain⟨⟨k,n,v,tt⟩,r,hxr⟩:=h.en.cons
 have HX:=Xj hxr
 have HP:=Xj h
 clear h hxr
 go_enter Tryz.func146,Tryz.ntmps146
 go_wp2_with fail
 refine(Zn K at_ k n v tt r _ (HX.o▸HP.o)).mono ?_
 rintro e w2 ⟨rfl,hb2⟩
 have hb3:=Xw w2 (.cells #[.int .i64 k,.int .i64 n,.int .i64 v,.string (st tt)] 103)
 have hr:=heap_alloc_new w2 (.cells #[.int .i64 k,.int .i64 n,.int .i64 v,.string (st tt)] 103)
 go_upto_region 2 with fail
 obtain⟨w3,hw3⟩:∃ W,w2.alloc (.cells #[.int .i64 k,.int .i64 n,.int .i64 v,.string (st tt)] 103)=W:=⟨_,rfl⟩
 obtain⟨gr,hgr⟩:∃ x,w2.heap.size=x:=⟨_,rfl⟩
 rw[hw3] at hr hb3 ⊢
 rw[hgr] at hr
 (try rw[hgr])
 have HB:=Xj (hb2.trans (hb3.mono hb2.size))
 have HR:=Xj hr
 have HP3:=Xj (HP.o.below HB.o)
 have HG3:=Xj (Xm HB.o (some K.g))
 have c0:=cell_of_row _ _ 0 _ _ _ hr
 have HGN:Xq (K.g≠gr):=Xj (by have:=HP.o.glt;have:=hb2.size;omega)
 clear hw3 hgr hr hb3 hb2
 by_cases hk:k=1
 ·subst hk
  have HK:Xq (kOf rest=1/\tOf rest=tt):=Xj ⟨by rw[HX.o];rfl,by rw[HX.o];rfl⟩
  obtain⟨-,p1,-,f1,-,hl⟩:=HP3.o.cells
  have hn:=HP3.o.n
  have hlt:=HP3.o.lt.1
  have hw1:IntKind.i64.wrap ((at_:Int)+1)=(at_:Int)+1:=by rw[IntKind.wrap_i64];omega
  have HF:=Xj (And.intro (HP3.o.step (by have:=HK.o.1;omega)) (Xp HG3.o (Xu w3 K.g 1 (.int .i64 ((at_:Int)+1)))))
  have hr2:=(heap_setCell_other w3 ⟨K.g,1,none⟩ gr (.int .i64 ((at_:Int)+1)) (by have:=HGN.o;exact λ e=>this e.symm)).trans HR.o
  have c3:=cell_of_row _ _ 3 _ _ _ hr2
  have hl2:=Xv hr2
  clear hn hlt hr2
  go_wp2_with fail
  refine bodyPost_ret (v:=.tuple #[.string (st tt),.bool true]) (by simp[results,Tryz.results146,go_sem]) rfl ?_
  exact⟨at_+1,rest.tail,HF.o.1,HF.o.2,.inl ⟨HK.o.1,by rw[HK.o.2],rfl,rfl⟩⟩
 have dk:(k==1)=false:=by rw[beq_eq_false_iff_ne];exact hk
 have dk2:(k != 1)=true:=by rw[bne_iff_ne];exact hk
 have HK:Xq (kOf rest≠1):=Xj (by rw[HX.o];exact hk)
 clear hk
 go_wp2_with fail
 refine bodyPost_ret (v:=.tuple #[.string ⟨#[]⟩,.bool false]) (by simp[results,Tryz.results146,go_sem]) rfl ?_
 exact⟨at_,rest,HP3.o,HG3.o,.inr ⟨HK.o,rfl,rfl,rfl⟩⟩
theorem Rh (t:Bt) (w:World):Calls Tryz.prog 190 #[.string (st t)] w λ e w'=>e=.returned (.int .i64 (Qm t))/\w'=w:=by
 have HE:Xq (Qm t=if t=[60] then 8 else if t=[60,61] then 9 else if t=[61,61] then 10 else if t=[33,61] then 11 else if t=[43] then 3 else if t=[45] then 4 else if t=[42] then 5 else if t=[47] then 6 else if t=[37] then 7 else 0):=Xj rfl
 by_cases h:t=[60]
 ·subst h
  go_enter Tryz.func190,Tryz.ntmps190
  go_wp2_with fail
  go_ret
  exact⟨rfl,rfl⟩
 have h0:(t==[60])=false:=by rw[beq_eq_false_iff_ne];exact h
 rw[if_neg h] at HE
 clear h
 by_cases h:t=[60,61]
 ·subst h
  go_enter Tryz.func190,Tryz.ntmps190
  go_wp2_with fail
  go_ret
  exact⟨rfl,rfl⟩
 have h1:(t==[60,61])=false:=by rw[beq_eq_false_iff_ne];exact h
 rw[if_neg h] at HE
 clear h
 by_cases h:t=[61,61]
 ·subst h
  go_enter Tryz.func190,Tryz.ntmps190
  go_wp2_with fail
  go_ret
  exact⟨rfl,rfl⟩
 have h2:(t==[61,61])=false:=by rw[beq_eq_false_iff_ne];exact h
 rw[if_neg h] at HE
 clear h
 by_cases h:t=[33,61]
 ·subst h
  go_enter Tryz.func190,Tryz.ntmps190
  go_wp2_with fail
  go_ret
  exact⟨rfl,rfl⟩
 have h3:(t==[33,61])=false:=by rw[beq_eq_false_iff_ne];exact h
 rw[if_neg h] at HE
 clear h
 by_cases h:t=[43]
 ·subst h
  go_enter Tryz.func190,Tryz.ntmps190
  go_wp2_with fail
  go_ret
  exact⟨rfl,rfl⟩
 have h4:(t==[43])=false:=by rw[beq_eq_false_iff_ne];exact h
 rw[if_neg h] at HE
 clear h
 by_cases h:t=[45]
 ·subst h
  go_enter Tryz.func190,Tryz.ntmps190
  go_wp2_with fail
  go_ret
  exact⟨rfl,rfl⟩
 have h5:(t==[45])=false:=by rw[beq_eq_false_iff_ne];exact h
 rw[if_neg h] at HE
 clear h
 by_cases h:t=[42]
 ·subst h
  go_enter Tryz.func190,Tryz.ntmps190
  go_wp2_with fail
  go_ret
  exact⟨rfl,rfl⟩
 have h6:(t==[42])=false:=by rw[beq_eq_false_iff_ne];exact h
 rw[if_neg h] at HE
 clear h
 by_cases h:t=[47]
 ·subst h
  go_enter Tryz.func190,Tryz.ntmps190
  go_wp2_with fail
  go_ret
  exact⟨rfl,rfl⟩
 have h7:(t==[47])=false:=by rw[beq_eq_false_iff_ne];exact h
 rw[if_neg h] at HE
 clear h
 by_cases h:t=[37]
 ·subst h
  go_enter Tryz.func190,Tryz.ntmps190
  go_wp2_with fail
  go_ret
  exact⟨rfl,rfl⟩
 have h8:(t==[37])=false:=by rw[beq_eq_false_iff_ne];exact h
 rw[if_neg h] at HE
 clear h
 go_enter Tryz.func190,Tryz.ntmps190
 go_wp2_with fail
 go_ret
 exact⟨by rw[HE.o];try rfl,rfl⟩
def xvu (K:PC) (lo hi:Int) (at_:Nat) (rest:List Tk) (w:World) (e:Ending) (w':World):Prop :=
 ∃ at2 rest2,PAt w' K at2 rest2/\w.grownBy w' (some K.g)/\((Zv lo hi rest≠0/\e=.returned (.tuple #[.int .i64 (Zv lo hi rest),.int .i64 (Yb rest)])/\at2=at_+1/\rest2=rest.tail)\/(Zv lo hi rest=0/\e=.returned (.tuple #[.int .i64 0,.int .i64 0])/\at2=at_/\rest2=rest))
theorem Vg (K:PC) (lo hi:Int) (hlo:0<lo) (at_:Nat) (rest:List Tk) (w:World) (h:PAt w K at_ rest):Calls Tryz.prog 170 #[.pointer (some ⟨K.g,0,none⟩),.int .i64 lo,.int .i64 hi] w (xvu K lo hi at_ rest w):=by
 obtain⟨⟨k,n,v,tt⟩,r,hxr⟩:=h.en.cons
 have HX:=Xj hxr
 have HP:=Xj h
 have HLO:=Xj hlo
 clear h hxr hlo
 go_enter Tryz.func170,Tryz.ntmps170
 go_wp2_with fail
 refine(Zn K at_ k n v tt r _ (HX.o▸HP.o)).mono ?_
 rintro e w2 ⟨rfl,hb2⟩
 have hb3:=Xw w2 (.cells #[.int .i64 k,.int .i64 n,.int .i64 v,.string (st tt)] 103)
 have hr:=heap_alloc_new w2 (.cells #[.int .i64 k,.int .i64 n,.int .i64 v,.string (st tt)] 103)
 go_upto_region 2 with fail
 obtain⟨w3,hw3⟩:∃ W,w2.alloc (.cells #[.int .i64 k,.int .i64 n,.int .i64 v,.string (st tt)] 103)=W:=⟨_,rfl⟩
 obtain⟨gr,hgr⟩:∃ x,w2.heap.size=x:=⟨_,rfl⟩
 rw[hw3] at hr hb3 ⊢
 rw[hgr] at hr
 (try rw[hgr])
 have HB:=Xj (hb2.trans (hb3.mono hb2.size))
 have HR:=Xj hr
 have HP3:=Xj (HP.o.below HB.o)
 have HG3:=Xj (Xm HB.o (some K.g))
 have c0:=cell_of_row _ _ 0 _ _ _ hr
 have c3:=cell_of_row _ _ 3 _ _ _ hr
 have hl3:=Xv hr
 have HGN:Xq (K.g≠gr):=Xj (by have:=HP.o.glt;have:=hb2.size;omega)
 have HOP:Xq (Zv lo hi rest=if k=4/\lo<=Qm tt/\Qm tt<=hi then Qm tt else 0):=Xj (by rw[HX.o];rfl)
 have HLN:Xq (Yb rest=n/\kOf rest=k):=Xj (by rw[HX.o];exact⟨rfl,rfl⟩)
 clear hw3 hgr hr hb3 hb2
 by_cases hk:k=4
 ·subst hk
  have hop:=Mj tt
  obtain⟨op,ho⟩:∃ o,Qm tt=o:=⟨_,rfl⟩
  have HBI:=Xj (Rh tt)
  rw[ho] at hop HOP HBI
  clear ho
  go_wp2_with fail
  refine(HBI.o _).mono ?_
  rintro e w4 ⟨rfl,rfl⟩
  by_cases h1:op<lo
  ·have d1:decide (op<lo)=true:=by rw[decide_eq_true_iff];exact h1
   have HZ:Xq (Zv lo hi rest=0):=Xj (by rw[HOP.o,if_neg (by omega)])
   clear h1
   go_wp2_with fail
   refine bodyPost_ret (v:=.tuple #[.int .i64 0,.int .i64 0]) (by simp[results,Tryz.results170,go_sem]) rfl ?_
   exact⟨at_,rest,HP3.o,HG3.o,.inr ⟨HZ.o,rfl,rfl,rfl⟩⟩
  have d1:decide (op<lo)=false:=by rw[decide_eq_false_iff_not];exact h1
  by_cases h2:hi<op
  ·have d2:decide (hi<op)=true:=by rw[decide_eq_true_iff];exact h2
   have HZ:Xq (Zv lo hi rest=0):=Xj (by rw[HOP.o,if_neg (by omega)])
   clear h1 h2
   go_wp2_with fail
   refine bodyPost_ret (v:=.tuple #[.int .i64 0,.int .i64 0]) (by simp[results,Tryz.results170,go_sem]) rfl ?_
   exact⟨at_,rest,HP3.o,HG3.o,.inr ⟨HZ.o,rfl,rfl,rfl⟩⟩
  have d2:decide (hi<op)=false:=by rw[decide_eq_false_iff_not];exact h2
  have HZ:Xq (Zv lo hi rest=op/\op≠0):=Xj ⟨by rw[HOP.o,if_pos ⟨by simp,by omega,by omega⟩],by have:=HLO.o;omega⟩
  obtain⟨-,p1,-,f1,-,hl⟩:=HP3.o.cells
  have hn:=HP3.o.n
  have hlt:=HP3.o.lt.1
  have hw1:IntKind.i64.wrap ((at_:Int)+1)=(at_:Int)+1:=by rw[IntKind.wrap_i64];omega
  have HF:=Xj (And.intro (HP3.o.step (by have:=HLN.o.2;omega)) (Xp HG3.o (Xu w4 K.g 1 (.int .i64 ((at_:Int)+1)))))
  have hr2:=(heap_setCell_other w4 ⟨K.g,1,none⟩ gr (.int .i64 ((at_:Int)+1)) (by have:=HGN.o;exact λ e=>this e.symm)).trans HR.o
  have e1:=cell_of_row _ _ 1 _ _ _ hr2
  have hl2:=Xv hr2
  clear hn hlt hr2 h1 h2 c0 c3 hl3
  go_upto_region 8 with fail
  obtain⟨w5,hw5⟩:∃ W,w4.setCell ⟨K.g,1,none⟩ (.int .i64 ((at_:Int)+1))=W:=⟨_,rfl⟩
  rw[hw5] at HF e1 hl2 ⊢
  clear hw5 p1 f1 hl
  refine Ec (by kernel_rfl) (by kernel_rfl) ?_
  have m1:∀ y:Hj w5,y.val.cell? ⟨gr,1,none⟩=some (.int .i64 n):=λ y=>y.cell e1
  repeat (go_big_quiet_step (fail))
  refine wpQuiet_nil ?_
  intro w6 hb6
  clear m1
  go_wp2_with fail
  refine bodyPost_ret (v:=.tuple #[.int .i64 op,.int .i64 n]) (by simp[results,Tryz.results170,go_sem]) rfl ?_
  exact⟨at_+1,rest.tail,HF.o.1.below hb6,Xp HF.o.2 (Xm hb6 _),.inl ⟨by rw[HZ.o.1];exact HZ.o.2,by rw[HZ.o.1,HLN.o.1],rfl,rfl⟩⟩
 have dk:(k==4)=false:=by rw[beq_eq_false_iff_ne];exact hk
 have dk2:(k != 4)=true:=by rw[bne_iff_ne];exact hk
 have HZ:Xq (Zv lo hi rest=0):=Xj (by rw[HOP.o,if_neg (λ h=>hk h.1)])
 clear hk
 go_wp2_with fail
 refine bodyPost_ret (v:=.tuple #[.int .i64 0,.int .i64 0]) (by simp[results,Tryz.results170,go_sem]) rfl ?_
 exact⟨at_,rest,HP3.o,HG3.o,.inr ⟨HZ.o,rfl,rfl,rfl⟩⟩
section
theorem Xg {w:World} {P Q:Nat->Prop} {ar:Fo} {sl:Value} (h:Xk w P ar sl) (hPQ:∀ b,P b->b<w.heap.size->Q b):Xk w Q ar sl:=h.keep (λ b hb hlt=>⟨rfl,hPQ b hb hlt⟩) (Nat.le_refl _)
theorem Yr {w:World} {P:Nat->Prop} {ar:Fo} {sl:Value} (o:Obj) (h:Xk w P ar sl):Xk (w.alloc o) (λ b=>P b/\b≠w.heap.size) ar sl:=h.keep (λ b hb hlt=>⟨Below.heap_alloc w o b hlt,hb,by omega⟩) (by simp)
theorem Zu {w w':World} {P:Nat->Prop} {ar:Fo} {sl:Value} {g:Nat} (h:Xk w P ar sl) (hg:w.grownBy w' (some g)) (hP:∀ b,P b->b≠g):Xk w' P ar sl:=h.keep (λ b hb hlt=>⟨hg.block b hlt (λ e=>by injection e with e;exact hP b hb e),hb⟩) hg.size
theorem Yz {w:World} {P:Nat->Prop} {ar:Fo} {sl:Value} {g:Nat} {v0 v1 v2 v3 v4 v5:Value} (h:Xk w P ar sl) (hP:∀ b,P b->b≠g):Xk (set6 w g v0 v1 v2 v3 v4 v5) P ar sl:=h.keep (λ b hb hlt=>⟨Yq b (hP b hb),hb⟩) (by rw[Zz];exact Nat.le_refl _)
theorem Kn {w:World} {P:Nat->Prop} {ar:Fo} {sl:Value} {p:Addr} {v:Value} (h:Xk w P ar sl) (hP:∀ b,P b->b≠p.block):Xk (w.setCell p v) P ar sl:=h.keep (λ b hb hlt=>⟨heap_setCell_other w p b v (hP b hb),hb⟩) (by simp[World.setCell])
structure MS (K:PC) (w wx:World) (at_:Nat) (r:List Tk):Prop where
 pat:PAt wx K at_ r
 gr:w.grownBy wx (some K.g)
 gl:K.g<w.heap.size
 tl:∀ x,K.al=some x->x.block<w.heap.size
section
variable {K:PC} {w wx wy:World} {at_ at2:Nat} {r r2:List Tk}
theorem MS.init (h:PAt w K at_ r):MS K w w at_ r:=by
 refine⟨h,⟨rfl,rfl,rfl,Nat.le_refl _,λ _ _ _=>rfl⟩,h.glt,λ x hx=>?_⟩
 obtain⟨y,s,b,off,_,e,hb,_⟩:=h.tok
 rw[e] at hx
 injection hx with hx
 subst hx
 exact hb
theorem MS.be (h:MS K w wx at_ r) (hb:Below wx.heap.size wx wy):MS K w wy at_ r:=⟨h.pat.below hb,Xp h.gr (Xm hb _),h.gl,h.tl⟩
theorem MS.al (h:MS K w wx at_ r) (o:Obj):MS K w (wx.alloc o) at_ r:=h.be (Xw wx o)
theorem MS.sc (h:MS K w wx at_ r) {p:Addr} (hp:w.heap.size<=p.block) (v:Value):MS K w (wx.setCell p v) at_ r :=
 have hg:wx.grownBy (wx.setCell p v) (some p.block):=⟨rfl,rfl,rfl,by simp[World.setCell],λ k hk hn=>heap_setCell_other wx p k v (λ e=>hn (by rw[e]))⟩
 ⟨h.pat.grown hg (λ k e=>by injection e with e;subst e;exact⟨by have:=h.gl;omega,λ x hx=>by have:=h.tl x hx;omega⟩),Yu h.gr hp,h.gl,h.tl⟩
theorem MS.s6 (h:MS K w wx at_ r) {b:Nat} (hb:w.heap.size<=b) (v0 v1 v2 v3 v4 v5:Value):MS K w (set6 wx b v0 v1 v2 v3 v4 v5) at_ r :=
 (((((h.sc (p:=⟨b,0,none⟩) hb v0).sc (p:=⟨b,1,none⟩) hb v1).sc (p:=⟨b,2,none⟩) hb v2).sc (p:=⟨b,3,none⟩) hb v3).sc (p:=⟨b,4,none⟩) hb v4).sc (p:=⟨b,5,none⟩) hb v5
theorem MS.step (h:MS K w wx at_ r) (hk:kOf r≠0):MS K w (wx.setCell ⟨K.g,1,none⟩ (.int .i64 ((at_:Int)+1))) (at_+1) r.tail:=⟨h.pat.step hk,Xp h.gr (Xu wx K.g 1 _),h.gl,h.tl⟩
theorem MS.call (h:MS K w wx at_ r) (hp:PAt wy K at2 r2) (hg:wx.grownBy wy (some K.g)):MS K w wy at2 r2:=⟨hp,Xp h.gr hg,h.gl,h.tl⟩
theorem MS.w1 (h:MS K w wx at_ r):IntKind.i64.wrap ((at_:Int)+1)=(at_:Int)+1:=by
 have:=h.pat.lt.1
 have:=h.pat.n
 rw[IntKind.wrap_i64];omega
end
abbrev ecs (h:Hd) (sl:Value):Array Value := #[.int .i64 h.k,.int .i64 h.op,.int .i64 h.v,.int .i64 h.ln,.string (st h.nm),sl]
def Lc (wx:World) (b:Nat) (h:Hd) (sl:Value):Prop:=wx.heap[b]?=some (.cells (ecs h sl) 37 (0,0))
section
variable {wx wy:World} {b:Nat} {h:Hd} {sl:Value}
theorem Lc.lt (k:Lc wx b h sl):b<wx.heap.size:=Xv k
theorem Lc.al (k:Lc wx b h sl) (o:Obj):Lc (wx.alloc o) b h sl:=(Below.heap_alloc wx o b k.lt).trans k
theorem Lc.be (k:Lc wx b h sl) (hb:Below wx.heap.size wx wy):Lc wy b h sl:=(hb.block b k.lt).trans k
theorem Lc.gr {g:Nat} (k:Lc wx b h sl) (hg:wx.grownBy wy (some g)) (hn:b≠g):Lc wy b h sl:=(hg.block b k.lt (λ e=>by injection e with e;exact hn e)).trans k
theorem Lc.s1 (k:Lc wx b h sl) {p:Addr} {v:Value} (hn:b≠p.block):Lc (wx.setCell p v) b h sl:=(heap_setCell_other wx p b v hn).trans k
theorem Lc.s6o {g:Nat} {v0 v1 v2 v3 v4 v5:Value} (k:Lc wx b h sl) (hn:b≠g):Lc (set6 wx g v0 v1 v2 v3 v4 v5) b h sl:=(Yq b hn).trans k
theorem Lc.s6 (k:Lc wx b h sl) (h2:Hd) (sl2:Value):Lc (set6 wx b (.int .i64 h2.k) (.int .i64 h2.op) (.int .i64 h2.v) (.int .i64 h2.ln) (.string (st h2.nm)) sl2) b h2 sl2:=Qy k
theorem Lc.cells (k:Lc wx b h sl):wx.cell? ⟨b,0,none⟩=some (.int .i64 h.k)/\wx.cell? ⟨b,1,none⟩=some (.int .i64 h.op)/\wx.cell? ⟨b,2,none⟩=some (.int .i64 h.v)/\wx.cell? ⟨b,3,none⟩=some (.int .i64 h.ln)/\wx.cell? ⟨b,4,none⟩=some (.string (st h.nm))/\wx.cell? ⟨b,5,none⟩=some sl:=Xl k
theorem Lc.froz (k:Lc wx b h sl):wx.frozen? ⟨b,0,none⟩=false/\wx.frozen? ⟨b,1,none⟩=false/\wx.frozen? ⟨b,2,none⟩=false/\wx.frozen? ⟨b,3,none⟩=false/\wx.frozen? ⟨b,4,none⟩=false/\wx.frozen? ⟨b,5,none⟩=false :=
 ⟨frozen_of_row _ b 0 _ _ k,frozen_of_row _ b 1 _ _ k,frozen_of_row _ b 2 _ _ k,frozen_of_row _ b 3 _ _ k,frozen_of_row _ b 4 _ _ k,frozen_of_row _ b 5 _ _ k⟩
theorem Lc.new (w:World) (h:Hd) (sl:Value):Lc (w.alloc (.cells (ecs h sl) 37)) w.heap.size h sl:=heap_alloc_new w _
end
abbrev zhd:Hd:=⟨0,0,0,0,[]⟩
theorem Lc.zero (w:World):Lc (w.alloc zex) w.heap.size zhd (.slice none 0 0):=heap_alloc_new w _
def EP (K:PC) (lv:Lv) (rest:List Tk) (w:World) (e:Ending) (w':World):Prop :=
 ∃ (h:Hd) (a:Option Addr) (n c:Nat) (ok:Bool) (at2:Nat) (r:List Tk),e=.returned (.tuple #[exv h (.slice a n c),.bool ok])/\PAt w' K at2 r/\r.length<=rest.length/\w.grownBy w' (some K.g) /\
  Xq ((ok=true/\∃ ar,Ps lv rest (.ok (Xb h ar) r)/\Xk w' (λ b=>w.heap.size<=b) ar (.slice a n c)/\r.length<rest.length)\/(ok=false/\Ps lv rest (.bad r)))
def CE (f:FuncId) (lv:Lv) (m:Nat):Prop:=∀ (K:PC) (at_:Nat) (rest:List Tk) (w:World),PAt w K at_ rest->rest.length<=m->Calls Tryz.prog f #[.pointer (some ⟨K.g,0,none⟩)] w (EP K lv rest w)
theorem CE.mono {f:FuncId} {lv:Lv} {m n:Nat} (h:CE f lv m) (hn:n<=m):CE f lv n:=λ K at_ rest w hp hl=>h K at_ rest w hp (Nat.le_trans hl hn)
def TBk (w:World) (gR gx:Nat):Nat->Prop:=λ b=>w.heap.size<=b/\b≠gR/\b≠gx
def natAt (w:World) (g:Nat):Nat:=match w.cell? ⟨g,1,none⟩ with
 | some (.int _ z)=>z.toNat
 | _=>0
theorem PAt.natAt {w:World} {K:PC} {at_:Nat} {rest:List Tk} (h:PAt w K at_ rest):Go.Proofs.YtldgghnjminhiaaGreatDoor.natAt w K.g=at_:=by
 unfold Go.Proofs.YtldgghnjminhiaaGreatDoor.natAt
 rw[h.cells.2.1]
 simp
structure LI (K:PC) (w:World) (gR gx:Nat) (lv:Lv) (L:Fo->Lv) (rest:List Tk) (h:Hd) (a:Option Addr) (n c:Nat) (ok:Bool) (at2:Nat) (r:List Tk) (wr:World):Prop where
 ms:MS K w wr at2 r
 rc:Lc wr gR zhd (.slice none 0 0)
 xc:Lc wr gx h (.slice a n c)
 le:r.length<=rest.length
 res:(ok=true/\∃ ar,(∀ z,Ps (L (Xb h ar)) r z->Ps lv rest z)/\Xk wr (TBk w gR gx) ar (.slice a n c)/\r.length<rest.length)\/(ok=false/\Ps lv rest (.bad r))
theorem Vj {w:World} {P Q:Nat->Prop} {h1 h2:Hd} {a1 a2:Fo} {s1 s2:Value} (k1:Xk w P a1 s1) (k2:Xk w P a2 s2) (hPQ:∀ b,P b->b<w.heap.size->Q b) (hQ:Q w.heap.size) :
  Xk (w.alloc (.cells #[.int .i64 h1.k,.int .i64 h1.op,.int .i64 h1.v,.int .i64 h1.ln,.string (st h1.nm),s1,.int .i64 h2.k,.int .i64 h2.op,.int .i64 h2.v,.int .i64 h2.ln,.string (st h2.nm),s2] 37)) Q ((Xb h1 a1).app (Xb h2 a2)) (.slice (some ⟨w.heap.size,0,none⟩) 2 2) :=
 Zh (F:=(Xb h1 a1).app (Xb h2 a2)) (xs:=hdc h1 s1++hdc h2 s2) (Zb.app k1.one k2.one) (by simp[Fo.app,Fo.len,maxLen]) hPQ hQ
theorem Vq {w:World} {P Q:Nat->Prop} {h1:Hd} {a1:Fo} {s1:Value} (k1:Xk w P a1 s1) (hPQ:∀ b,P b->b<w.heap.size->Q b) (hQ:Q w.heap.size) :
  Xk (w.alloc (.cells #[.int .i64 h1.k,.int .i64 h1.op,.int .i64 h1.v,.int .i64 h1.ln,.string (st h1.nm),s1] 37)) Q (Xb h1 a1) (.slice (some ⟨w.heap.size,0,none⟩) 1 1) :=
 Zh (F:=Xb h1 a1) (xs:=hdc h1 s1) k1.one (by simp[Fo.len,maxLen]) hPQ hQ
theorem xqd (m:Nat) (hA:CE 97 .an m):CE 56 .ex m:=by
 intro K at_ rest w hP hm
 have HM1:=Xj ((MS.init hP).al zex)
 have HR1:=Xj (Lc.zero w)
 have HA:=Xj hA
 have HMm:=Xj hm
 clear hA hP hm
 go_enter Tryz.func56,Tryz.ntmps56
 go_upto_region 1 with fail
 obtain⟨w1,hw1⟩:∃ W,w.alloc zex=W:=⟨_,rfl⟩
 obtain⟨gR,hgR⟩:∃ x,w.heap.size=x:=⟨_,rfl⟩
 (try rw[show w.alloc (.cells #[.int .i64 0,.int .i64 0,.int .i64 0,.int .i64 0,.string { data := #[] },.slice none 0 0] 37)=w1 from hw1])
 rw[hw1] at HM1 HR1
 rw[hgR] at HR1
 (try rw[hgR])
 have HGR:=Xj hgR
 have HS1:Xq (w1.heap.size=gR+1):=Xj (by rw[<- hw1,<- hgR];simp)
 clear hw1 hgR
 go_wp2_with fail
 refine(HA.o K at_ rest _ HM1.o.pat HMm.o).mono ?_
 rintro e w2 ⟨h,a,n,c,ok,at2,r,rfl,hp2,hjy,hg2,Ha⟩
 have HM2:=Xj (HM1.o.call hp2 hg2)
 have HR2:=Xj (HR1.o.gr hg2 (by have:=HM1.o.gl;have:=HGR.o;omega))
 have hs2:=hg2.size
 have HM3:=Xj (HM2.o.al (.cells (ecs h (.slice a n c)) 37))
 have HR3:=Xj (HR2.o.al (.cells (ecs h (.slice a n c)) 37))
 have HX3:=Xj (Lc.new w2 h (.slice a n c))
 have hjq:Xq ((ok=true/\∃ ar,(∀ z,Ps (.exL (Xb h ar)) r z->Ps .ex rest z)/\Xk (w2.alloc (.cells (ecs h (.slice a n c)) 37)) (TBk w gR w2.heap.size) ar (.slice a n c)/\r.length<rest.length)\/(ok=false/\Ps .ex rest (.bad r))):=Xj (by
  rcases Ha.o with⟨h1,ar,h2,h3,h4⟩|⟨h1,h2⟩
  ·exact .inl ⟨h1,ar,λ z hz=>Ps.ex_ok h2 hz,Xg (Yr _ h3) (λ b hb _=>⟨by have:=hb.1;have:=HS1.o;have:=HGR.o;omega,by have:=hb.1;have:=HS1.o;omega,hb.2⟩),h4⟩
  exact .inr ⟨h1,Ps.ex_bad h2⟩)
 clear Ha hp2 hg2
 go_upto_block 0 with fail
 obtain⟨w3,hw3⟩:∃ W,w2.alloc (.cells (ecs h (.slice a n c)) 37)=W:=⟨_,rfl⟩
 obtain⟨gx,hgx⟩:∃ x,w2.heap.size=x:=⟨_,rfl⟩
 (try rw[show w2.alloc (.cells #[.int .i64 h.k,.int .i64 h.op,.int .i64 h.v,.int .i64 h.ln,.string (st h.nm),.slice a n c] 37)=w3 from hw3])
 rw[hw3] at HM3 HR3 HX3 hjq
 rw[hgx] at HX3 hjq
 (try rw[hgx])
 have HGX:Xq (gR<gx):=Xj (by have:=HS1.o;omega)
 have HLE:=Xj hjy
 clear hw3 hgx hs2 hjy HM2 HR2 HM1 HR1
 go_wp2_with fail
 go_loopw [5] (λ v5 wr=>∃ (h:Hd) (a:Option Addr) (n c:Nat) (ok:Bool) (at2:Nat) (r:List Tk),v5=.bool ok/\Xq (LI K w gR gx .ex .exL rest h a n c ok at2 r wr)) (λ _ wr=>K.ts.length-natAt wr K.g)
 case atStart=>exact⟨h,a,n,c,ok,at2,r,rfl,Xj ⟨HM3.o,HR3.o,HX3.o,HLE.o,hjq.o⟩⟩
 rename World=>wa
 obtain⟨h,a,n,c,ok,at2,r,rfl,HL⟩:=hrel
 obtain⟨x0,x1,x2,x3,x4,x5⟩:=HL.o.xc.cells
 obtain⟨g0,g1,g2,g3,g4,g5⟩:=HL.o.rc.froz
 obtain⟨y0,y1,y2,y3,y4,y5⟩:=HL.o.rc.cells
 have hlR:=HL.o.rc.lt
 have hlX:=HL.o.xc.lt
 have hgg:=HL.o.ms.gl
 have hzr:=HGR.o
 have hyj:=HGX.o
 have hqp:∀ (ok2:Bool),((ok2=true/\∃ ar,Ps .ex rest (.ok (Xb h ar) r)/\Xk wa (TBk w gR gx) ar (.slice a n c)/\r.length<rest.length)\/(ok2=false/\Ps .ex rest (.bad r)))->EP K .ex rest w (.returned (.tuple #[exv h (.slice a n c),.bool ok2])) (set6 wa gR (.int .i64 h.k) (.int .i64 h.op) (.int .i64 h.v) (.int .i64 h.ln) (.string (st h.nm)) (.slice a n c)):=λ ok2 hr=>by
  have hms:=HL.o.ms.s6 (b:=gR) (by omega) (.int .i64 h.k) (.int .i64 h.op) (.int .i64 h.v) (.int .i64 h.ln) (.string (st h.nm)) (.slice a n c)
  refine⟨h,a,n,c,ok2,at2,r,rfl,hms.pat,HL.o.le,hms.gr,Xj ?_⟩
  rcases hr with⟨h1,ar,h2,h3,h4⟩|hr
  ·exact .inl ⟨h1,ar,h2,Xg (Yz h3 (λ b hb=>hb.2.1)) (λ b hb _=>hb.1),h4⟩
  exact .inr hr
 have hjt:=Xj hqp
 have HD0:=Xj (HL.o.rc.s6 h (.slice a n c))
 clear hqp
 cases ok
 ·have HB:Xq (Ps .ex rest (.bad r)):=Xj (by
   rcases HL.o.res with⟨h1,_⟩|⟨_,h1⟩
   ·cases h1
   exact h1)
  go_wp2_with fail
  obtain⟨wz,hwz⟩:∃ W,set6 wa gR (.int .i64 h.k) (.int .i64 h.op) (.int .i64 h.v) (.int .i64 h.ln) (.string (st h.nm)) (.slice a n c)=W:=⟨_,rfl⟩
  have hY:=hwz
  unfold set6 at hY
  (try rw[hY])
  rw[hwz] at HD0 hjt
  obtain⟨d0,d1,d2,d3,d4,d5⟩:=HD0.o.cells
  refine bodyPost_ret (v:=.tuple #[exv h (.slice a n c),.bool false]) (by simp[results,Tryz.results56,go_sem,d0,d1,d2,d3,d4,d5]) rfl ?_
  exact hjt.o _ (.inr ⟨rfl,HB.o⟩)
 obtain⟨ar,hjh,har,hlt⟩:∃ ar,(∀ z,Ps (.exL (Xb h ar)) r z->Ps .ex rest z)/\Xk wa (TBk w gR gx) ar (.slice a n c)/\r.length<rest.length:=by
  rcases HL.o.res with⟨_,h1⟩|⟨h1,_⟩
  ·exact h1
  cases h1
 have HCO:=Xj hjh
 have HAR:=Xj har
 have HLT:=Xj hlt
 clear hjh har hlt
 have HIS:=Xj (Dd K at2 r [124,124] wa HL.o.ms.pat)
 clear x0 x1 x2 x3 x4 x5 y0 y1 y2 y3 y4 y5 g0 g1 g2 g3 g4 g5
 go_wp2_with fail
 refine HIS.o.mono ?_
 rintro e w4 ⟨rfl,hb4⟩
 have HM4:=Xj (HL.o.ms.be hb4)
 have HR4:=Xj (HL.o.rc.be hb4)
 have HX4:=Xj (HL.o.xc.be hb4)
 have hqk:=Xj (HAR.o.keep (Q:=TBk w gR gx) (λ b hb hlt=>⟨hb4.block b hlt,hb⟩) hb4.size)
 have HS4:=Xj hb4.size
 clear hb4 hjt HD0
 cases hT:isT [124,124] r
 ·have HD4:=Xj (HR4.o.s6 h (.slice a n c))
  have HZ:Xq (Ps .ex rest (.ok (Xb h ar) r)):=Xj (HCO.o _ (Ps.exL_end hT))
  obtain⟨x0,x1,x2,x3,x4,x5⟩:=HX4.o.cells
  obtain⟨g0,g1,g2,g3,g4,g5⟩:=HR4.o.froz
  obtain⟨y0,y1,y2,y3,y4,y5⟩:=HR4.o.cells
  have hus:=HR4.o.lt
  clear hT
  go_wp2_with fail
  obtain⟨wz,hwz⟩:∃ W,set6 w4 gR (.int .i64 h.k) (.int .i64 h.op) (.int .i64 h.v) (.int .i64 h.ln) (.string (st h.nm)) (.slice a n c)=W:=⟨_,rfl⟩
  have HMZ:=Xj (HM4.o.s6 (b:=gR) (by omega) (.int .i64 h.k) (.int .i64 h.op) (.int .i64 h.v) (.int .i64 h.ln) (.string (st h.nm)) (.slice a n c))
  have HAZ:=Xj (Yz (v0:=.int .i64 h.k) (v1:=.int .i64 h.op) (v2:=.int .i64 h.v) (v3:=.int .i64 h.ln) (v4:=.string (st h.nm)) (v5:=.slice a n c) hqk.o (λ b hb=>hb.2.1))
  have hY:=hwz
  unfold set6 at hY
  (try rw[hY])
  rw[hwz] at HD4 HMZ HAZ
  obtain⟨d0,d1,d2,d3,d4,d5⟩:=HD4.o.cells
  refine bodyPost_ret (v:=.tuple #[exv h (.slice a n c),.bool true]) (by simp[results,Tryz.results56,go_sem,d0,d1,d2,d3,d4,d5]) rfl ?_
  exact⟨h,a,n,c,true,at2,r,rfl,HMZ.o.pat,HL.o.le,HMZ.o.gr,Xj (.inl ⟨rfl,ar,HZ.o,Xg HAZ.o (λ b hb _=>hb.1),HLT.o⟩)⟩
 have HT:=Xj hT
 have HK0:Xq (kOf r≠0):=Xj (Qx hT).2.2.1
 obtain⟨⟨tk,tn,tv,tt⟩,r0,hr0⟩:=HM4.o.pat.en.cons
 have HLO:=Xj (Zn K at2 tk tn tv tt r0 w4 (hr0▸HM4.o.pat))
 have HLN:Xq (Yb r=tn):=Xj (by rw[hr0];rfl)
 have HRT:Xq (r.tail.length<r.length):=Xj (by rw[hr0];simp)
 have hfd:∀ W:World,(Instr.field 103 (.agg #[.int .i64 tk,.int .i64 tn,.int .i64 tv,.string (st tt)]) 1).run Tryz.prog W=.ok (.int .i64 tn) W:=λ _=>by kernel_rfl
 clear hT hr0
 go_wp2_with fail
 refine HLO.o.mono ?_
 rintro e w5 ⟨rfl,hb5⟩
 have HM5:=Xj (HM4.o.be hb5)
 have HR5:=Xj (HR4.o.be hb5)
 have HX5:=Xj (HX4.o.be hb5)
 have hfj:=Xj (hqk.o.keep (Q:=TBk w gR gx) (λ b hb hlt=>⟨hb5.block b hlt,hb⟩) hb5.size)
 obtain⟨-,p1,-,f1,-,hlp⟩:=HM5.o.pat.cells
 have hw1:=HM5.o.w1
 have HM6:=Xj ((HM5.o.step HK0.o).al zex)
 have HR6:=Xj ((HR5.o.s1 (p:=⟨K.g,1,none⟩) (v:=.int .i64 ((at2:Int)+1)) (by show gR≠K.g;omega)).al zex)
 have HX6:=Xj ((HX5.o.s1 (p:=⟨K.g,1,none⟩) (v:=.int .i64 ((at2:Int)+1)) (by show gx≠K.g;omega)).al zex)
 have HY6:=Xj (Lc.zero (w5.setCell ⟨K.g,1,none⟩ (.int .i64 ((at2:Int)+1))))
 have hzz:=Xj (Yr zex (Kn (p:=⟨K.g,1,none⟩) (v:=.int .i64 ((at2:Int)+1)) hfj.o (λ b hb=>by show b≠K.g;have:=hb.1;omega)))
 clear hb5 HM4 HR4 HX4 hqk
 go_upto_region 6 with fail
 obtain⟨w6,hw6⟩:∃ W,(w5.setCell ⟨K.g,1,none⟩ (.int .i64 ((at2:Int)+1))).alloc zex=W:=⟨_,rfl⟩
 obtain⟨gy,hgy⟩:∃ x,w5.heap.size=x:=⟨_,rfl⟩
 have hvq:Xq (gx<gy):=Xj (by rw[<- hgy];exact HX5.o.lt)
 have HGY:Xq (w6.heap.size=gy+1):=Xj (by rw[<- hw6,<- hgy];simp[World.setCell])
 (try rw[show (w5.setCell ⟨K.g,1,none⟩ (.int .i64 ((at2:Int)+1))).alloc (.cells #[.int .i64 0,.int .i64 0,.int .i64 0,.int .i64 0,.string { data := #[] },.slice none 0 0] 37)=w6 from hw6])
 have hzx:(w5.setCell ⟨K.g,1,none⟩ (.int .i64 ((at2:Int)+1))).heap.size=gy:=by rw[<- hgy];simp[World.setCell]
 rw[hw6,hzx] at HY6 hzz
 rw[hw6] at HM6 HR6 HX6
 (try rw[hgy])
 have hfq:=hvq.o
 have hfx:=HGY.o
 clear hw6 hgy hzx
 go_wp2_with fail
 refine(HA.o K (at2+1) r.tail _ HM6.o.pat (by have:=HRT.o;have:=HL.o.le;have:=HMm.o;omega)).mono ?_
 rintro e w7 ⟨h2,a2,n2,c2,ok2,at7,r7,rfl,hp7,He,hg7,hI⟩
 have hs7:=hg7.size
 have HM7:=Xj (HM6.o.call hp7 hg7)
 have HR7:=Xj (HR6.o.gr hg7 (by omega))
 have HX7:=Xj (HX6.o.gr hg7 (by omega))
 have HY7:=Xj (HY6.o.gr hg7 (by omega))
 have hqh:=Xj (Zu hzz.o hg7 (λ b hb=>by have:=hb.1.1;omega))
 have hfv:at2<at7:=by
  have h1:=HM7.o.pat.lt.2
  have h2:=HL.o.ms.pat.lt.2
  have h3:=HRT.o
  omega
 obtain⟨q0,q1,q2,q3,q4,q5⟩:=HX7.o.cells
 obtain⟨k0,k1,k2,k3,k4,k5⟩:=HX7.o.froz
 obtain⟨v0,v1,v2,v3,v4,v5⟩:=HY7.o.froz
 obtain⟨u0,u1,u2,u3,u4,u5⟩:=HY7.o.cells
 have hvz:=HX7.o.lt
 have hzt:=HY7.o.lt
 have HY8:=Xj (HY7.o.s6 h2 (.slice a2 n2 c2))
 have HX8:=Xj (HX7.o.s6o (g:=gy) (v0:=.int .i64 h2.k) (v1:=.int .i64 h2.op) (v2:=.int .i64 h2.v) (v3:=.int .i64 h2.ln) (v4:=.string (st h2.nm)) (v5:=.slice a2 n2 c2) (by omega))
 have HR8:=Xj (HR7.o.s6o (g:=gy) (v0:=.int .i64 h2.k) (v1:=.int .i64 h2.op) (v2:=.int .i64 h2.v) (v3:=.int .i64 h2.ln) (v4:=.string (st h2.nm)) (v5:=.slice a2 n2 c2) (by omega))
 have HM8:=Xj (HM7.o.s6 (b:=gy) (by omega) (.int .i64 h2.k) (.int .i64 h2.op) (.int .i64 h2.v) (.int .i64 h2.ln) (.string (st h2.nm)) (.slice a2 n2 c2))
 have hzv:=Xj (Xg (Yz (v0:=.int .i64 h2.k) (v1:=.int .i64 h2.op) (v2:=.int .i64 h2.v) (v3:=.int .i64 h2.ln) (v4:=.string (st h2.nm)) (v5:=.slice a2 n2 c2) hqh.o (λ b hb=>hb.2)) (λ b hb _=>hb.1))
 have hjp:Xq ((ok2=true/\∃ ar2,Ps .an r.tail (.ok (Xb h2 ar2) r7)/\Xk (set6 w7 gy (.int .i64 h2.k) (.int .i64 h2.op) (.int .i64 h2.v) (.int .i64 h2.ln) (.string (st h2.nm)) (.slice a2 n2 c2)) (TBk w gR gx) ar2 (.slice a2 n2 c2)/\r7.length<r.tail.length)\/(ok2=false/\Ps .an r.tail (.bad r7))):=Xj (by
  rcases hI.o with⟨h1,ar2,h2',h3,h4⟩|hr
  ·exact .inl ⟨h1,ar2,h2',Xg (Yz h3 (λ b hb=>by omega)) (λ b hb _=>⟨by omega,by omega,by omega⟩),h4⟩
  exact .inr hr)
 clear hI hp7 hg7 HM7 HR7 HX7 HY7 hqh
 go_upto_region 7 with fail
 obtain⟨w8,hw8⟩:∃ W,set6 w7 gy (.int .i64 h2.k) (.int .i64 h2.op) (.int .i64 h2.v) (.int .i64 h2.ln) (.string (st h2.nm)) (.slice a2 n2 c2)=W:=⟨_,rfl⟩
 have hqy:=hw8
 unfold set6 at hqy
 (try rw[hqy])
 rw[hw8] at HY8 HX8 HR8 HM8 hzv hjp
 clear hw8 hqy q0 q1 q2 q3 q4 q5 k0 k1 k2 k3 k4 k5 v0 v1 v2 v3 v4 v5 u0 u1 u2 u3 u4 u5 hvz hzt
 obtain⟨q0,q1,q2,q3,q4,q5⟩:=HX8.o.cells
 obtain⟨k0,k1,k2,k3,k4,k5⟩:=HX8.o.froz
 obtain⟨v0,v1,v2,v3,v4,v5⟩:=HY8.o.cells
 have hwv:=HX8.o.lt
 have hwk:=HY8.o.lt
 have hZ:∀ W,W=(set6 w8 gx (.int .i64 (Hd.k ⟨8,0,0,tn,[]⟩)) (.int .i64 (Hd.op ⟨8,0,0,tn,[]⟩)) (.int .i64 0) (.int .i64 (Hd.ln ⟨8,0,0,tn,[]⟩)) (.string { data := #[] }) (.slice (some ⟨w8.heap.size,0,none⟩) 2 2)).alloc (.cells #[.int .i64 h.k,.int .i64 h.op,.int .i64 h.v,.int .i64 h.ln,.string (st h.nm),.slice a n c,.int .i64 h2.k,.int .i64 h2.op,.int .i64 h2.v,.int .i64 h2.ln,.string (st h2.nm),.slice a2 n2 c2] 37) ->
   LI K w gR gx .ex .exL rest ⟨8,0,0,tn,[]⟩ (some ⟨w8.heap.size,0,none⟩) 2 2 ok2 at7 r7 W:=λ W hW=>by
  rw[<- Zx _ HX8.o.lt] at hW
  have hA:=HX8.o.al (.cells #[.int .i64 h.k,.int .i64 h.op,.int .i64 h.v,.int .i64 h.ln,.string (st h.nm),.slice a n c,.int .i64 h2.k,.int .i64 h2.op,.int .i64 h2.v,.int .i64 h2.ln,.string (st h2.nm),.slice a2 n2 c2] 37)
  subst hW
  refine⟨(HM8.o.al _).s6 (by omega) _ _ _ _ _ _,(HR8.o.al _).s6o (by omega),hA.s6 ⟨8,0,0,tn,[]⟩ (.slice (some ⟨w8.heap.size,0,none⟩) 2 2),by have:=HRT.o;have:=HL.o.le;omega,?_⟩
  rcases hjp.o with⟨h1,ar2,h2,h3,h4⟩|⟨h1,h2⟩
  ·refine .inl ⟨h1,(Xb h ar).app (Xb _ ar2),λ z hz=>HCO.o z (Ps.exL_ok HT.o h2 (by rw[HLN.o];exact hz)),?_,by have:=HRT.o;have:=HLT.o;omega⟩
   exact Yz (Vj hzv.o h3 (λ b hb _=>hb) ⟨by have:=HM8.o.gr.size;omega,by have:=HR8.o.lt;omega,by have:=HX8.o.lt;omega⟩) (λ b hb=>hb.2.2)
  exact .inr ⟨h1,HCO.o _ (Ps.exL_bad HT.o h2)⟩
 have hjg:=Xj hZ
 clear hZ
 go_wp2_with fail
 go_roundw
 case rel=>exact⟨⟨8,0,0,tn,[]⟩,some ⟨w8.heap.size,0,none⟩,2,2,ok2,at7,r7,rfl,Xj (hjg.o _ rfl)⟩
 have h1:=(hjg.o _ rfl).ms.pat.natAt
 have h2:=HL.o.ms.pat.natAt
 have h3:=HL.o.ms.pat.lt.1
 unfold set6 at h1
 rw[h2]
 simp only[World.setCell_alloc_past] at h1 ⊢
 first|(rw[h1];omega)|(simp at h1;rw[h1];omega)
theorem xxr (m:Nat) (hA:CE 145 .cm m):CE 97 .an m:=by
 intro K at_ rest w hP hm
 have HM1:=Xj ((MS.init hP).al zex)
 have HR1:=Xj (Lc.zero w)
 have HA:=Xj hA
 have HMm:=Xj hm
 clear hA hP hm
 go_enter Tryz.func97,Tryz.ntmps97
 go_upto_region 1 with fail
 obtain⟨w1,hw1⟩:∃ W,w.alloc zex=W:=⟨_,rfl⟩
 obtain⟨gR,hgR⟩:∃ x,w.heap.size=x:=⟨_,rfl⟩
 (try rw[show w.alloc (.cells #[.int .i64 0,.int .i64 0,.int .i64 0,.int .i64 0,.string { data := #[] },.slice none 0 0] 37)=w1 from hw1])
 rw[hw1] at HM1 HR1
 rw[hgR] at HR1
 (try rw[hgR])
 have HGR:=Xj hgR
 have HS1:Xq (w1.heap.size=gR+1):=Xj (by rw[<- hw1,<- hgR];simp)
 clear hw1 hgR
 go_wp2_with fail
 refine(HA.o K at_ rest _ HM1.o.pat HMm.o).mono ?_
 rintro e w2 ⟨h,a,n,c,ok,at2,r,rfl,hp2,hjy,hg2,Ha⟩
 have HM2:=Xj (HM1.o.call hp2 hg2)
 have HR2:=Xj (HR1.o.gr hg2 (by have:=HM1.o.gl;have:=HGR.o;omega))
 have hs2:=hg2.size
 have HM3:=Xj (HM2.o.al (.cells (ecs h (.slice a n c)) 37))
 have HR3:=Xj (HR2.o.al (.cells (ecs h (.slice a n c)) 37))
 have HX3:=Xj (Lc.new w2 h (.slice a n c))
 have hjq:Xq ((ok=true/\∃ ar,(∀ z,Ps (.anL (Xb h ar)) r z->Ps .an rest z)/\Xk (w2.alloc (.cells (ecs h (.slice a n c)) 37)) (TBk w gR w2.heap.size) ar (.slice a n c)/\r.length<rest.length)\/(ok=false/\Ps .an rest (.bad r))):=Xj (by
  rcases Ha.o with⟨h1,ar,h2,h3,h4⟩|⟨h1,h2⟩
  ·exact .inl ⟨h1,ar,λ z hz=>Ps.an_ok h2 hz,Xg (Yr _ h3) (λ b hb _=>⟨by have:=hb.1;have:=HS1.o;have:=HGR.o;omega,by have:=hb.1;have:=HS1.o;omega,hb.2⟩),h4⟩
  exact .inr ⟨h1,Ps.an_bad h2⟩)
 clear Ha hp2 hg2
 go_upto_block 0 with fail
 obtain⟨w3,hw3⟩:∃ W,w2.alloc (.cells (ecs h (.slice a n c)) 37)=W:=⟨_,rfl⟩
 obtain⟨gx,hgx⟩:∃ x,w2.heap.size=x:=⟨_,rfl⟩
 (try rw[show w2.alloc (.cells #[.int .i64 h.k,.int .i64 h.op,.int .i64 h.v,.int .i64 h.ln,.string (st h.nm),.slice a n c] 37)=w3 from hw3])
 rw[hw3] at HM3 HR3 HX3 hjq
 rw[hgx] at HX3 hjq
 (try rw[hgx])
 have HGX:Xq (gR<gx):=Xj (by have:=HS1.o;omega)
 have HLE:=Xj hjy
 clear hw3 hgx hs2 hjy HM2 HR2 HM1 HR1
 go_wp2_with fail
 go_loopw [5] (λ v5 wr=>∃ (h:Hd) (a:Option Addr) (n c:Nat) (ok:Bool) (at2:Nat) (r:List Tk),v5=.bool ok/\Xq (LI K w gR gx .an .anL rest h a n c ok at2 r wr)) (λ _ wr=>K.ts.length-natAt wr K.g)
 case atStart=>exact⟨h,a,n,c,ok,at2,r,rfl,Xj ⟨HM3.o,HR3.o,HX3.o,HLE.o,hjq.o⟩⟩
 rename World=>wa
 obtain⟨h,a,n,c,ok,at2,r,rfl,HL⟩:=hrel
 obtain⟨x0,x1,x2,x3,x4,x5⟩:=HL.o.xc.cells
 obtain⟨g0,g1,g2,g3,g4,g5⟩:=HL.o.rc.froz
 obtain⟨y0,y1,y2,y3,y4,y5⟩:=HL.o.rc.cells
 have hlR:=HL.o.rc.lt
 have hlX:=HL.o.xc.lt
 have hgg:=HL.o.ms.gl
 have hzr:=HGR.o
 have hyj:=HGX.o
 have hqp:∀ (ok2:Bool),((ok2=true/\∃ ar,Ps .an rest (.ok (Xb h ar) r)/\Xk wa (TBk w gR gx) ar (.slice a n c)/\r.length<rest.length)\/(ok2=false/\Ps .an rest (.bad r)))->EP K .an rest w (.returned (.tuple #[exv h (.slice a n c),.bool ok2])) (set6 wa gR (.int .i64 h.k) (.int .i64 h.op) (.int .i64 h.v) (.int .i64 h.ln) (.string (st h.nm)) (.slice a n c)):=λ ok2 hr=>by
  have hms:=HL.o.ms.s6 (b:=gR) (by omega) (.int .i64 h.k) (.int .i64 h.op) (.int .i64 h.v) (.int .i64 h.ln) (.string (st h.nm)) (.slice a n c)
  refine⟨h,a,n,c,ok2,at2,r,rfl,hms.pat,HL.o.le,hms.gr,Xj ?_⟩
  rcases hr with⟨h1,ar,h2,h3,h4⟩|hr
  ·exact .inl ⟨h1,ar,h2,Xg (Yz h3 (λ b hb=>hb.2.1)) (λ b hb _=>hb.1),h4⟩
  exact .inr hr
 have hjt:=Xj hqp
 have HD0:=Xj (HL.o.rc.s6 h (.slice a n c))
 clear hqp
 cases ok
 ·have HB:Xq (Ps .an rest (.bad r)):=Xj (by
   rcases HL.o.res with⟨h1,_⟩|⟨_,h1⟩
   ·cases h1
   exact h1)
  go_wp2_with fail
  obtain⟨wz,hwz⟩:∃ W,set6 wa gR (.int .i64 h.k) (.int .i64 h.op) (.int .i64 h.v) (.int .i64 h.ln) (.string (st h.nm)) (.slice a n c)=W:=⟨_,rfl⟩
  have hY:=hwz
  unfold set6 at hY
  (try rw[hY])
  rw[hwz] at HD0 hjt
  obtain⟨d0,d1,d2,d3,d4,d5⟩:=HD0.o.cells
  refine bodyPost_ret (v:=.tuple #[exv h (.slice a n c),.bool false]) (by simp[results,Tryz.results97,go_sem,d0,d1,d2,d3,d4,d5]) rfl ?_
  exact hjt.o _ (.inr ⟨rfl,HB.o⟩)
 obtain⟨ar,hjh,har,hlt⟩:∃ ar,(∀ z,Ps (.anL (Xb h ar)) r z->Ps .an rest z)/\Xk wa (TBk w gR gx) ar (.slice a n c)/\r.length<rest.length:=by
  rcases HL.o.res with⟨_,h1⟩|⟨h1,_⟩
  ·exact h1
  cases h1
 have HCO:=Xj hjh
 have HAR:=Xj har
 have HLT:=Xj hlt
 clear hjh har hlt
 have HIS:=Xj (Dd K at2 r [38,38] wa HL.o.ms.pat)
 clear x0 x1 x2 x3 x4 x5 y0 y1 y2 y3 y4 y5 g0 g1 g2 g3 g4 g5
 go_wp2_with fail
 refine HIS.o.mono ?_
 rintro e w4 ⟨rfl,hb4⟩
 have HM4:=Xj (HL.o.ms.be hb4)
 have HR4:=Xj (HL.o.rc.be hb4)
 have HX4:=Xj (HL.o.xc.be hb4)
 have hqk:=Xj (HAR.o.keep (Q:=TBk w gR gx) (λ b hb hlt=>⟨hb4.block b hlt,hb⟩) hb4.size)
 have HS4:=Xj hb4.size
 clear hb4 hjt HD0
 cases hT:isT [38,38] r
 ·have HD4:=Xj (HR4.o.s6 h (.slice a n c))
  have HZ:Xq (Ps .an rest (.ok (Xb h ar) r)):=Xj (HCO.o _ (Ps.anL_end hT))
  obtain⟨x0,x1,x2,x3,x4,x5⟩:=HX4.o.cells
  obtain⟨g0,g1,g2,g3,g4,g5⟩:=HR4.o.froz
  obtain⟨y0,y1,y2,y3,y4,y5⟩:=HR4.o.cells
  have hus:=HR4.o.lt
  clear hT
  go_wp2_with fail
  obtain⟨wz,hwz⟩:∃ W,set6 w4 gR (.int .i64 h.k) (.int .i64 h.op) (.int .i64 h.v) (.int .i64 h.ln) (.string (st h.nm)) (.slice a n c)=W:=⟨_,rfl⟩
  have HMZ:=Xj (HM4.o.s6 (b:=gR) (by omega) (.int .i64 h.k) (.int .i64 h.op) (.int .i64 h.v) (.int .i64 h.ln) (.string (st h.nm)) (.slice a n c))
  have HAZ:=Xj (Yz (v0:=.int .i64 h.k) (v1:=.int .i64 h.op) (v2:=.int .i64 h.v) (v3:=.int .i64 h.ln) (v4:=.string (st h.nm)) (v5:=.slice a n c) hqk.o (λ b hb=>hb.2.1))
  have hY:=hwz
  unfold set6 at hY
  (try rw[hY])
  rw[hwz] at HD4 HMZ HAZ
  obtain⟨d0,d1,d2,d3,d4,d5⟩:=HD4.o.cells
  refine bodyPost_ret (v:=.tuple #[exv h (.slice a n c),.bool true]) (by simp[results,Tryz.results97,go_sem,d0,d1,d2,d3,d4,d5]) rfl ?_
  exact⟨h,a,n,c,true,at2,r,rfl,HMZ.o.pat,HL.o.le,HMZ.o.gr,Xj (.inl ⟨rfl,ar,HZ.o,Xg HAZ.o (λ b hb _=>hb.1),HLT.o⟩)⟩
 have HT:=Xj hT
 have HK0:Xq (kOf r≠0):=Xj (Qx hT).2.2.1
 obtain⟨⟨tk,tn,tv,tt⟩,r0,hr0⟩:=HM4.o.pat.en.cons
 have HLO:=Xj (Zn K at2 tk tn tv tt r0 w4 (hr0▸HM4.o.pat))
 have HLN:Xq (Yb r=tn):=Xj (by rw[hr0];rfl)
 have HRT:Xq (r.tail.length<r.length):=Xj (by rw[hr0];simp)
 have hfd:∀ W:World,(Instr.field 103 (.agg #[.int .i64 tk,.int .i64 tn,.int .i64 tv,.string (st tt)]) 1).run Tryz.prog W=.ok (.int .i64 tn) W:=λ _=>by kernel_rfl
 clear hT hr0
 go_wp2_with fail
 refine HLO.o.mono ?_
 rintro e w5 ⟨rfl,hb5⟩
 have HM5:=Xj (HM4.o.be hb5)
 have HR5:=Xj (HR4.o.be hb5)
 have HX5:=Xj (HX4.o.be hb5)
 have hfj:=Xj (hqk.o.keep (Q:=TBk w gR gx) (λ b hb hlt=>⟨hb5.block b hlt,hb⟩) hb5.size)
 obtain⟨-,p1,-,f1,-,hlp⟩:=HM5.o.pat.cells
 have hw1:=HM5.o.w1
 have HM6:=Xj ((HM5.o.step HK0.o).al zex)
 have HR6:=Xj ((HR5.o.s1 (p:=⟨K.g,1,none⟩) (v:=.int .i64 ((at2:Int)+1)) (by show gR≠K.g;omega)).al zex)
 have HX6:=Xj ((HX5.o.s1 (p:=⟨K.g,1,none⟩) (v:=.int .i64 ((at2:Int)+1)) (by show gx≠K.g;omega)).al zex)
 have HY6:=Xj (Lc.zero (w5.setCell ⟨K.g,1,none⟩ (.int .i64 ((at2:Int)+1))))
 have hzz:=Xj (Yr zex (Kn (p:=⟨K.g,1,none⟩) (v:=.int .i64 ((at2:Int)+1)) hfj.o (λ b hb=>by show b≠K.g;have:=hb.1;omega)))
 clear hb5 HM4 HR4 HX4 hqk
 go_upto_region 6 with fail
 obtain⟨w6,hw6⟩:∃ W,(w5.setCell ⟨K.g,1,none⟩ (.int .i64 ((at2:Int)+1))).alloc zex=W:=⟨_,rfl⟩
 obtain⟨gy,hgy⟩:∃ x,w5.heap.size=x:=⟨_,rfl⟩
 have hvq:Xq (gx<gy):=Xj (by rw[<- hgy];exact HX5.o.lt)
 have HGY:Xq (w6.heap.size=gy+1):=Xj (by rw[<- hw6,<- hgy];simp[World.setCell])
 (try rw[show (w5.setCell ⟨K.g,1,none⟩ (.int .i64 ((at2:Int)+1))).alloc (.cells #[.int .i64 0,.int .i64 0,.int .i64 0,.int .i64 0,.string { data := #[] },.slice none 0 0] 37)=w6 from hw6])
 have hzx:(w5.setCell ⟨K.g,1,none⟩ (.int .i64 ((at2:Int)+1))).heap.size=gy:=by rw[<- hgy];simp[World.setCell]
 rw[hw6,hzx] at HY6 hzz
 rw[hw6] at HM6 HR6 HX6
 (try rw[hgy])
 have hfq:=hvq.o
 have hfx:=HGY.o
 clear hw6 hgy hzx
 go_wp2_with fail
 refine(HA.o K (at2+1) r.tail _ HM6.o.pat (by have:=HRT.o;have:=HL.o.le;have:=HMm.o;omega)).mono ?_
 rintro e w7 ⟨h2,a2,n2,c2,ok2,at7,r7,rfl,hp7,He,hg7,hI⟩
 have hs7:=hg7.size
 have HM7:=Xj (HM6.o.call hp7 hg7)
 have HR7:=Xj (HR6.o.gr hg7 (by omega))
 have HX7:=Xj (HX6.o.gr hg7 (by omega))
 have HY7:=Xj (HY6.o.gr hg7 (by omega))
 have hqh:=Xj (Zu hzz.o hg7 (λ b hb=>by have:=hb.1.1;omega))
 have hfv:at2<at7:=by
  have h1:=HM7.o.pat.lt.2
  have h2:=HL.o.ms.pat.lt.2
  have h3:=HRT.o
  omega
 obtain⟨q0,q1,q2,q3,q4,q5⟩:=HX7.o.cells
 obtain⟨k0,k1,k2,k3,k4,k5⟩:=HX7.o.froz
 obtain⟨v0,v1,v2,v3,v4,v5⟩:=HY7.o.froz
 obtain⟨u0,u1,u2,u3,u4,u5⟩:=HY7.o.cells
 have hvz:=HX7.o.lt
 have hzt:=HY7.o.lt
 have HY8:=Xj (HY7.o.s6 h2 (.slice a2 n2 c2))
 have HX8:=Xj (HX7.o.s6o (g:=gy) (v0:=.int .i64 h2.k) (v1:=.int .i64 h2.op) (v2:=.int .i64 h2.v) (v3:=.int .i64 h2.ln) (v4:=.string (st h2.nm)) (v5:=.slice a2 n2 c2) (by omega))
 have HR8:=Xj (HR7.o.s6o (g:=gy) (v0:=.int .i64 h2.k) (v1:=.int .i64 h2.op) (v2:=.int .i64 h2.v) (v3:=.int .i64 h2.ln) (v4:=.string (st h2.nm)) (v5:=.slice a2 n2 c2) (by omega))
 have HM8:=Xj (HM7.o.s6 (b:=gy) (by omega) (.int .i64 h2.k) (.int .i64 h2.op) (.int .i64 h2.v) (.int .i64 h2.ln) (.string (st h2.nm)) (.slice a2 n2 c2))
 have hzv:=Xj (Xg (Yz (v0:=.int .i64 h2.k) (v1:=.int .i64 h2.op) (v2:=.int .i64 h2.v) (v3:=.int .i64 h2.ln) (v4:=.string (st h2.nm)) (v5:=.slice a2 n2 c2) hqh.o (λ b hb=>hb.2)) (λ b hb _=>hb.1))
 have hjp:Xq ((ok2=true/\∃ ar2,Ps .cm r.tail (.ok (Xb h2 ar2) r7)/\Xk (set6 w7 gy (.int .i64 h2.k) (.int .i64 h2.op) (.int .i64 h2.v) (.int .i64 h2.ln) (.string (st h2.nm)) (.slice a2 n2 c2)) (TBk w gR gx) ar2 (.slice a2 n2 c2)/\r7.length<r.tail.length)\/(ok2=false/\Ps .cm r.tail (.bad r7))):=Xj (by
  rcases hI.o with⟨h1,ar2,h2',h3,h4⟩|hr
  ·exact .inl ⟨h1,ar2,h2',Xg (Yz h3 (λ b hb=>by omega)) (λ b hb _=>⟨by omega,by omega,by omega⟩),h4⟩
  exact .inr hr)
 clear hI hp7 hg7 HM7 HR7 HX7 HY7 hqh
 go_upto_region 7 with fail
 obtain⟨w8,hw8⟩:∃ W,set6 w7 gy (.int .i64 h2.k) (.int .i64 h2.op) (.int .i64 h2.v) (.int .i64 h2.ln) (.string (st h2.nm)) (.slice a2 n2 c2)=W:=⟨_,rfl⟩
 have hqy:=hw8
 unfold set6 at hqy
 (try rw[hqy])
 rw[hw8] at HY8 HX8 HR8 HM8 hzv hjp
 clear hw8 hqy q0 q1 q2 q3 q4 q5 k0 k1 k2 k3 k4 k5 v0 v1 v2 v3 v4 v5 u0 u1 u2 u3 u4 u5 hvz hzt
 obtain⟨q0,q1,q2,q3,q4,q5⟩:=HX8.o.cells
 obtain⟨k0,k1,k2,k3,k4,k5⟩:=HX8.o.froz
 obtain⟨v0,v1,v2,v3,v4,v5⟩:=HY8.o.cells
 have hwv:=HX8.o.lt
 have hwk:=HY8.o.lt
 have hZ:∀ W,W=(set6 w8 gx (.int .i64 (Hd.k ⟨7,0,0,tn,[]⟩)) (.int .i64 (Hd.op ⟨7,0,0,tn,[]⟩)) (.int .i64 0) (.int .i64 (Hd.ln ⟨7,0,0,tn,[]⟩)) (.string { data := #[] }) (.slice (some ⟨w8.heap.size,0,none⟩) 2 2)).alloc (.cells #[.int .i64 h.k,.int .i64 h.op,.int .i64 h.v,.int .i64 h.ln,.string (st h.nm),.slice a n c,.int .i64 h2.k,.int .i64 h2.op,.int .i64 h2.v,.int .i64 h2.ln,.string (st h2.nm),.slice a2 n2 c2] 37) ->
   LI K w gR gx .an .anL rest ⟨7,0,0,tn,[]⟩ (some ⟨w8.heap.size,0,none⟩) 2 2 ok2 at7 r7 W:=λ W hW=>by
  rw[<- Zx _ HX8.o.lt] at hW
  have hA:=HX8.o.al (.cells #[.int .i64 h.k,.int .i64 h.op,.int .i64 h.v,.int .i64 h.ln,.string (st h.nm),.slice a n c,.int .i64 h2.k,.int .i64 h2.op,.int .i64 h2.v,.int .i64 h2.ln,.string (st h2.nm),.slice a2 n2 c2] 37)
  subst hW
  refine⟨(HM8.o.al _).s6 (by omega) _ _ _ _ _ _,(HR8.o.al _).s6o (by omega),hA.s6 ⟨7,0,0,tn,[]⟩ (.slice (some ⟨w8.heap.size,0,none⟩) 2 2),by have:=HRT.o;have:=HL.o.le;omega,?_⟩
  rcases hjp.o with⟨h1,ar2,h2,h3,h4⟩|⟨h1,h2⟩
  ·refine .inl ⟨h1,(Xb h ar).app (Xb _ ar2),λ z hz=>HCO.o z (Ps.anL_ok HT.o h2 (by rw[HLN.o];exact hz)),?_,by have:=HRT.o;have:=HLT.o;omega⟩
   exact Yz (Vj hzv.o h3 (λ b hb _=>hb) ⟨by have:=HM8.o.gr.size;omega,by have:=HR8.o.lt;omega,by have:=HX8.o.lt;omega⟩) (λ b hb=>hb.2.2)
  exact .inr ⟨h1,HCO.o _ (Ps.anL_bad HT.o h2)⟩
 have hjg:=Xj hZ
 clear hZ
 go_wp2_with fail
 go_roundw
 case rel=>exact⟨⟨7,0,0,tn,[]⟩,some ⟨w8.heap.size,0,none⟩,2,2,ok2,at7,r7,rfl,Xj (hjg.o _ rfl)⟩
 have h1:=(hjg.o _ rfl).ms.pat.natAt
 have h2:=HL.o.ms.pat.natAt
 have h3:=HL.o.ms.pat.lt.1
 unfold set6 at h1
 rw[h2]
 simp only[World.setCell_alloc_past] at h1 ⊢
 first|(rw[h1];omega)|(simp at h1;rw[h1];omega)
theorem xzr (m:Nat) (hA:CE 189 .te m):CE 169 .su m:=by
 intro K at_ rest w hP hm
 have HM1:=Xj ((MS.init hP).al zex)
 have HR1:=Xj (Lc.zero w)
 have HA:=Xj hA
 have HMm:=Xj hm
 clear hA hP hm
 go_enter Tryz.func169,Tryz.ntmps169
 go_upto_region 1 with fail
 obtain⟨w1,hw1⟩:∃ W,w.alloc zex=W:=⟨_,rfl⟩
 obtain⟨gR,hgR⟩:∃ x,w.heap.size=x:=⟨_,rfl⟩
 (try rw[show w.alloc (.cells #[.int .i64 0,.int .i64 0,.int .i64 0,.int .i64 0,.string { data := #[] },.slice none 0 0] 37)=w1 from hw1])
 rw[hw1] at HM1 HR1
 rw[hgR] at HR1
 (try rw[hgR])
 have HGR:=Xj hgR
 have HS1:Xq (w1.heap.size=gR+1):=Xj (by rw[<- hw1,<- hgR];simp)
 clear hw1 hgR
 go_wp2_with fail
 refine(HA.o K at_ rest _ HM1.o.pat HMm.o).mono ?_
 rintro e w2 ⟨h,a,n,c,ok,at2,r,rfl,hp2,hjy,hg2,Ha⟩
 have HM2:=Xj (HM1.o.call hp2 hg2)
 have HR2:=Xj (HR1.o.gr hg2 (by have:=HM1.o.gl;have:=HGR.o;omega))
 have hs2:=hg2.size
 have HM3:=Xj (HM2.o.al (.cells (ecs h (.slice a n c)) 37))
 have HR3:=Xj (HR2.o.al (.cells (ecs h (.slice a n c)) 37))
 have HX3:=Xj (Lc.new w2 h (.slice a n c))
 have hjq:Xq ((ok=true/\∃ ar,(∀ z,Ps (.suL (Xb h ar)) r z->Ps .su rest z)/\Xk (w2.alloc (.cells (ecs h (.slice a n c)) 37)) (TBk w gR w2.heap.size) ar (.slice a n c)/\r.length<rest.length)\/(ok=false/\Ps .su rest (.bad r))):=Xj (by
  rcases Ha.o with⟨h1,ar,h2,h3,h4⟩|⟨h1,h2⟩
  ·exact .inl ⟨h1,ar,λ z hz=>Ps.su_ok h2 hz,Xg (Yr _ h3) (λ b hb _=>⟨by have:=hb.1;have:=HS1.o;have:=HGR.o;omega,by have:=hb.1;have:=HS1.o;omega,hb.2⟩),h4⟩
  exact .inr ⟨h1,Ps.su_bad h2⟩)
 clear Ha hp2 hg2
 go_upto_block 0 with fail
 obtain⟨w3,hw3⟩:∃ W,w2.alloc (.cells (ecs h (.slice a n c)) 37)=W:=⟨_,rfl⟩
 obtain⟨gx,hgx⟩:∃ x,w2.heap.size=x:=⟨_,rfl⟩
 (try rw[show w2.alloc (.cells #[.int .i64 h.k,.int .i64 h.op,.int .i64 h.v,.int .i64 h.ln,.string (st h.nm),.slice a n c] 37)=w3 from hw3])
 rw[hw3] at HM3 HR3 HX3 hjq
 rw[hgx] at HX3 hjq
 (try rw[hgx])
 have HGX:Xq (gR<gx):=Xj (by have:=HS1.o;omega)
 have HLE:=Xj hjy
 clear hw3 hgx hs2 hjy HM2 HR2 HM1 HR1
 go_wp2_with fail
 go_loopw [5] (λ v5 wr=>∃ (h:Hd) (a:Option Addr) (n c:Nat) (ok:Bool) (at2:Nat) (r:List Tk),v5=.bool ok/\Xq (LI K w gR gx .su .suL rest h a n c ok at2 r wr)) (λ _ wr=>K.ts.length-natAt wr K.g)
 case atStart=>exact⟨h,a,n,c,ok,at2,r,rfl,Xj ⟨HM3.o,HR3.o,HX3.o,HLE.o,hjq.o⟩⟩
 rename World=>wa
 obtain⟨h,a,n,c,ok,at2,r,rfl,HL⟩:=hrel
 obtain⟨x0,x1,x2,x3,x4,x5⟩:=HL.o.xc.cells
 obtain⟨g0,g1,g2,g3,g4,g5⟩:=HL.o.rc.froz
 obtain⟨y0,y1,y2,y3,y4,y5⟩:=HL.o.rc.cells
 have hlR:=HL.o.rc.lt
 have hlX:=HL.o.xc.lt
 have hgg:=HL.o.ms.gl
 have hzr:=HGR.o
 have hyj:=HGX.o
 have hqp:∀ (ok2:Bool),((ok2=true/\∃ ar,Ps .su rest (.ok (Xb h ar) r)/\Xk wa (TBk w gR gx) ar (.slice a n c)/\r.length<rest.length)\/(ok2=false/\Ps .su rest (.bad r)))->EP K .su rest w (.returned (.tuple #[exv h (.slice a n c),.bool ok2])) (set6 wa gR (.int .i64 h.k) (.int .i64 h.op) (.int .i64 h.v) (.int .i64 h.ln) (.string (st h.nm)) (.slice a n c)):=λ ok2 hr=>by
  have hms:=HL.o.ms.s6 (b:=gR) (by omega) (.int .i64 h.k) (.int .i64 h.op) (.int .i64 h.v) (.int .i64 h.ln) (.string (st h.nm)) (.slice a n c)
  refine⟨h,a,n,c,ok2,at2,r,rfl,hms.pat,HL.o.le,hms.gr,Xj ?_⟩
  rcases hr with⟨h1,ar,h2,h3,h4⟩|hr
  ·exact .inl ⟨h1,ar,h2,Xg (Yz h3 (λ b hb=>hb.2.1)) (λ b hb _=>hb.1),h4⟩
  exact .inr hr
 have hjt:=Xj hqp
 have HD0:=Xj (HL.o.rc.s6 h (.slice a n c))
 clear hqp
 cases ok
 ·have HB:Xq (Ps .su rest (.bad r)):=Xj (by
   rcases HL.o.res with⟨h1,_⟩|⟨_,h1⟩
   ·cases h1
   exact h1)
  go_wp2_with fail
  obtain⟨wz,hwz⟩:∃ W,set6 wa gR (.int .i64 h.k) (.int .i64 h.op) (.int .i64 h.v) (.int .i64 h.ln) (.string (st h.nm)) (.slice a n c)=W:=⟨_,rfl⟩
  have hY:=hwz
  unfold set6 at hY
  (try rw[hY])
  rw[hwz] at HD0 hjt
  obtain⟨d0,d1,d2,d3,d4,d5⟩:=HD0.o.cells
  refine bodyPost_ret (v:=.tuple #[exv h (.slice a n c),.bool false]) (by simp[results,Tryz.results169,go_sem,d0,d1,d2,d3,d4,d5]) rfl ?_
  exact hjt.o _ (.inr ⟨rfl,HB.o⟩)
 obtain⟨ar,hjh,har,hlt⟩:∃ ar,(∀ z,Ps (.suL (Xb h ar)) r z->Ps .su rest z)/\Xk wa (TBk w gR gx) ar (.slice a n c)/\r.length<rest.length:=by
  rcases HL.o.res with⟨_,h1⟩|⟨h1,_⟩
  ·exact h1
  cases h1
 have HCO:=Xj hjh
 have HAR:=Xj har
 have HLT:=Xj hlt
 clear hjh har hlt
 have HOP:=Xj (Vg K 3 4 (by omega) at2 r wa HL.o.ms.pat)
 clear x0 x1 x2 x3 x4 x5 y0 y1 y2 y3 y4 y5 g0 g1 g2 g3 g4 g5
 go_wp2_with fail
 refine HOP.o.mono ?_
 rintro e w4 ⟨at4,r4,hp4,hg4,Ha⟩
 have HM4:=Xj (HL.o.ms.call hp4 hg4)
 have HR4:=Xj (HL.o.rc.gr hg4 (by omega))
 have HX4:=Xj (HL.o.xc.gr hg4 (by omega))
 have hqk:=Xj (Zu HAR.o hg4 (λ b hb=>by have:=hb.1;omega))
 clear hp4 hg4 hjt HD0
 rcases Ha with⟨hT,rfl,rfl,rfl⟩|⟨hT,rfl,rfl,rfl⟩
 ·have HT:=Xj hT
  obtain⟨op,hop⟩:∃ o,Zv 3 4 r=o:=⟨_,rfl⟩
  obtain⟨tn,htn⟩:∃ o,Yb r=o:=⟨_,rfl⟩
  have HLN:=Xj (And.intro hop htn)
  have HRT:Xq (r.tail.length<r.length):=Xj (Uq (by intro e;rw[e] at hT;exact hT rfl))
  have dop:(op==0)=false:=by rw[beq_eq_false_iff_ne,<- hop];exact hT
  (try rw[hop])
  (try rw[htn])
  have HM6:=Xj (HM4.o.al zex)
  have HR6:=Xj (HR4.o.al zex)
  have HX6:=Xj (HX4.o.al zex)
  have HY6:=Xj (Lc.zero w4)
  have hzz:=Xj (Yr zex hqk.o)
  have hfw:=Xj HX4.o.lt
  clear hT hop htn HM4 HR4 HX4 hqk
  go_upto_region 6 with fail
  obtain⟨w6,hw6⟩:∃ W,(w4).alloc zex=W:=⟨_,rfl⟩
  obtain⟨gy,hgy⟩:∃ x,w4.heap.size=x:=⟨_,rfl⟩
  have hvq:Xq (gx<gy):=Xj (by rw[<- hgy];exact hfw.o)
  have HGY:Xq (w6.heap.size=gy+1):=Xj (by rw[<- hw6,<- hgy];simp[World.setCell])
  (try rw[show (w4).alloc (.cells #[.int .i64 0,.int .i64 0,.int .i64 0,.int .i64 0,.string { data := #[] },.slice none 0 0] 37)=w6 from hw6])
  have hzx:(w4).heap.size=gy:=by rw[<- hgy]
  rw[hw6,hzx] at HY6 hzz
  rw[hw6] at HM6 HR6 HX6
  (try rw[hgy])
  have hfq:=hvq.o
  have hfx:=HGY.o
  clear hw6 hgy hzx
  go_wp2_with fail
  refine(HA.o K (at2+1) r.tail _ HM6.o.pat (by have:=HRT.o;have:=HL.o.le;have:=HMm.o;omega)).mono ?_
  rintro e w7 ⟨h2,a2,n2,c2,ok2,at7,r7,rfl,hp7,He,hg7,hI⟩
  have hs7:=hg7.size
  have HM7:=Xj (HM6.o.call hp7 hg7)
  have HR7:=Xj (HR6.o.gr hg7 (by omega))
  have HX7:=Xj (HX6.o.gr hg7 (by omega))
  have HY7:=Xj (HY6.o.gr hg7 (by omega))
  have hqh:=Xj (Zu hzz.o hg7 (λ b hb=>by have:=hb.1.1;omega))
  have hfv:at2<at7:=by
   have h1:=HM7.o.pat.lt.2
   have h2:=HL.o.ms.pat.lt.2
   have h3:=HRT.o
   omega
  obtain⟨q0,q1,q2,q3,q4,q5⟩:=HX7.o.cells
  obtain⟨k0,k1,k2,k3,k4,k5⟩:=HX7.o.froz
  obtain⟨v0,v1,v2,v3,v4,v5⟩:=HY7.o.froz
  obtain⟨u0,u1,u2,u3,u4,u5⟩:=HY7.o.cells
  have hvz:=HX7.o.lt
  have hzt:=HY7.o.lt
  have HY8:=Xj (HY7.o.s6 h2 (.slice a2 n2 c2))
  have HX8:=Xj (HX7.o.s6o (g:=gy) (v0:=.int .i64 h2.k) (v1:=.int .i64 h2.op) (v2:=.int .i64 h2.v) (v3:=.int .i64 h2.ln) (v4:=.string (st h2.nm)) (v5:=.slice a2 n2 c2) (by omega))
  have HR8:=Xj (HR7.o.s6o (g:=gy) (v0:=.int .i64 h2.k) (v1:=.int .i64 h2.op) (v2:=.int .i64 h2.v) (v3:=.int .i64 h2.ln) (v4:=.string (st h2.nm)) (v5:=.slice a2 n2 c2) (by omega))
  have HM8:=Xj (HM7.o.s6 (b:=gy) (by omega) (.int .i64 h2.k) (.int .i64 h2.op) (.int .i64 h2.v) (.int .i64 h2.ln) (.string (st h2.nm)) (.slice a2 n2 c2))
  have hzv:=Xj (Xg (Yz (v0:=.int .i64 h2.k) (v1:=.int .i64 h2.op) (v2:=.int .i64 h2.v) (v3:=.int .i64 h2.ln) (v4:=.string (st h2.nm)) (v5:=.slice a2 n2 c2) hqh.o (λ b hb=>hb.2)) (λ b hb _=>hb.1))
  have hjp:Xq ((ok2=true/\∃ ar2,Ps .te r.tail (.ok (Xb h2 ar2) r7)/\Xk (set6 w7 gy (.int .i64 h2.k) (.int .i64 h2.op) (.int .i64 h2.v) (.int .i64 h2.ln) (.string (st h2.nm)) (.slice a2 n2 c2)) (TBk w gR gx) ar2 (.slice a2 n2 c2)/\r7.length<r.tail.length)\/(ok2=false/\Ps .te r.tail (.bad r7))):=Xj (by
   rcases hI.o with⟨h1,ar2,h2',h3,h4⟩|hr
   ·exact .inl ⟨h1,ar2,h2',Xg (Yz h3 (λ b hb=>by omega)) (λ b hb _=>⟨by omega,by omega,by omega⟩),h4⟩
   exact .inr hr)
  clear hI hp7 hg7 HM7 HR7 HX7 HY7 hqh
  go_upto_region 7 with fail
  obtain⟨w8,hw8⟩:∃ W,set6 w7 gy (.int .i64 h2.k) (.int .i64 h2.op) (.int .i64 h2.v) (.int .i64 h2.ln) (.string (st h2.nm)) (.slice a2 n2 c2)=W:=⟨_,rfl⟩
  have hqy:=hw8
  unfold set6 at hqy
  (try rw[hqy])
  rw[hw8] at HY8 HX8 HR8 HM8 hzv hjp
  clear hw8 hqy q0 q1 q2 q3 q4 q5 k0 k1 k2 k3 k4 k5 v0 v1 v2 v3 v4 v5 u0 u1 u2 u3 u4 u5 hvz hzt
  obtain⟨q0,q1,q2,q3,q4,q5⟩:=HX8.o.cells
  obtain⟨k0,k1,k2,k3,k4,k5⟩:=HX8.o.froz
  obtain⟨v0,v1,v2,v3,v4,v5⟩:=HY8.o.cells
  have hwv:=HX8.o.lt
  have hwk:=HY8.o.lt
  have hZ:∀ W,W=(set6 w8 gx (.int .i64 (Hd.k ⟨6,op,0,tn,[]⟩)) (.int .i64 (Hd.op ⟨6,op,0,tn,[]⟩)) (.int .i64 0) (.int .i64 (Hd.ln ⟨6,op,0,tn,[]⟩)) (.string { data := #[] }) (.slice (some ⟨w8.heap.size,0,none⟩) 2 2)).alloc (.cells #[.int .i64 h.k,.int .i64 h.op,.int .i64 h.v,.int .i64 h.ln,.string (st h.nm),.slice a n c,.int .i64 h2.k,.int .i64 h2.op,.int .i64 h2.v,.int .i64 h2.ln,.string (st h2.nm),.slice a2 n2 c2] 37) ->
    LI K w gR gx .su .suL rest ⟨6,op,0,tn,[]⟩ (some ⟨w8.heap.size,0,none⟩) 2 2 ok2 at7 r7 W:=λ W hW=>by
   rw[<- Zx _ HX8.o.lt] at hW
   have hA:=HX8.o.al (.cells #[.int .i64 h.k,.int .i64 h.op,.int .i64 h.v,.int .i64 h.ln,.string (st h.nm),.slice a n c,.int .i64 h2.k,.int .i64 h2.op,.int .i64 h2.v,.int .i64 h2.ln,.string (st h2.nm),.slice a2 n2 c2] 37)
   subst hW
   refine⟨(HM8.o.al _).s6 (by omega) _ _ _ _ _ _,(HR8.o.al _).s6o (by omega),hA.s6 ⟨6,op,0,tn,[]⟩ (.slice (some ⟨w8.heap.size,0,none⟩) 2 2),by have:=HRT.o;have:=HL.o.le;omega,?_⟩
   rcases hjp.o with⟨h1,ar2,h2,h3,h4⟩|⟨h1,h2⟩
   ·refine .inl ⟨h1,(Xb h ar).app (Xb _ ar2),λ z hz=>HCO.o z (Ps.suL_ok HT.o h2 (by rw[HLN.o.1,HLN.o.2];exact hz)),?_,by have:=HRT.o;have:=HLT.o;omega⟩
    exact Yz (Vj hzv.o h3 (λ b hb _=>hb) ⟨by have:=HM8.o.gr.size;omega,by have:=HR8.o.lt;omega,by have:=HX8.o.lt;omega⟩) (λ b hb=>hb.2.2)
   exact .inr ⟨h1,HCO.o _ (Ps.suL_bad HT.o h2)⟩
  have hjg:=Xj hZ
  clear hZ
  go_wp2_with fail
  go_roundw
  case rel=>exact⟨⟨6,op,0,tn,[]⟩,some ⟨w8.heap.size,0,none⟩,2,2,ok2,at7,r7,rfl,Xj (hjg.o _ rfl)⟩
  have h1:=(hjg.o _ rfl).ms.pat.natAt
  have h2:=HL.o.ms.pat.natAt
  have h3:=HL.o.ms.pat.lt.1
  unfold set6 at h1
  rw[h2]
  simp only[World.setCell_alloc_past] at h1 ⊢
  first|(rw[h1];omega)|(simp at h1;rw[h1];omega)
 have HD4:=Xj (HR4.o.s6 h (.slice a n c))
 have HZ:Xq (Ps .su rest (.ok (Xb h ar) r4)):=Xj (HCO.o _ (Ps.suL_end hT))
 obtain⟨x0,x1,x2,x3,x4,x5⟩:=HX4.o.cells
 obtain⟨g0,g1,g2,g3,g4,g5⟩:=HR4.o.froz
 obtain⟨y0,y1,y2,y3,y4,y5⟩:=HR4.o.cells
 have hus:=HR4.o.lt
 clear hT
 go_wp2_with fail
 obtain⟨wz,hwz⟩:∃ W,set6 w4 gR (.int .i64 h.k) (.int .i64 h.op) (.int .i64 h.v) (.int .i64 h.ln) (.string (st h.nm)) (.slice a n c)=W:=⟨_,rfl⟩
 have HMZ:=Xj (HM4.o.s6 (b:=gR) (by omega) (.int .i64 h.k) (.int .i64 h.op) (.int .i64 h.v) (.int .i64 h.ln) (.string (st h.nm)) (.slice a n c))
 have HAZ:=Xj (Yz (v0:=.int .i64 h.k) (v1:=.int .i64 h.op) (v2:=.int .i64 h.v) (v3:=.int .i64 h.ln) (v4:=.string (st h.nm)) (v5:=.slice a n c) hqk.o (λ b hb=>hb.2.1))
 have hY:=hwz
 unfold set6 at hY
 (try rw[hY])
 rw[hwz] at HD4 HMZ HAZ
 obtain⟨d0,d1,d2,d3,d4,d5⟩:=HD4.o.cells
 refine bodyPost_ret (v:=.tuple #[exv h (.slice a n c),.bool true]) (by simp[results,Tryz.results169,go_sem,d0,d1,d2,d3,d4,d5]) rfl ?_
 exact⟨h,a,n,c,true,at4,r4,rfl,HMZ.o.pat,HL.o.le,HMZ.o.gr,Xj (.inl ⟨rfl,ar,HZ.o,Xg HAZ.o (λ b hb _=>hb.1),HLT.o⟩)⟩
theorem xjx (m:Nat) (hA:CE 202 .un m):CE 189 .te m:=by
 intro K at_ rest w hP hm
 have HM1:=Xj ((MS.init hP).al zex)
 have HR1:=Xj (Lc.zero w)
 have HA:=Xj hA
 have HMm:=Xj hm
 clear hA hP hm
 go_enter Tryz.func189,Tryz.ntmps189
 go_upto_region 1 with fail
 obtain⟨w1,hw1⟩:∃ W,w.alloc zex=W:=⟨_,rfl⟩
 obtain⟨gR,hgR⟩:∃ x,w.heap.size=x:=⟨_,rfl⟩
 (try rw[show w.alloc (.cells #[.int .i64 0,.int .i64 0,.int .i64 0,.int .i64 0,.string { data := #[] },.slice none 0 0] 37)=w1 from hw1])
 rw[hw1] at HM1 HR1
 rw[hgR] at HR1
 (try rw[hgR])
 have HGR:=Xj hgR
 have HS1:Xq (w1.heap.size=gR+1):=Xj (by rw[<- hw1,<- hgR];simp)
 clear hw1 hgR
 go_wp2_with fail
 refine(HA.o K at_ rest _ HM1.o.pat HMm.o).mono ?_
 rintro e w2 ⟨h,a,n,c,ok,at2,r,rfl,hp2,hjy,hg2,Ha⟩
 have HM2:=Xj (HM1.o.call hp2 hg2)
 have HR2:=Xj (HR1.o.gr hg2 (by have:=HM1.o.gl;have:=HGR.o;omega))
 have hs2:=hg2.size
 have HM3:=Xj (HM2.o.al (.cells (ecs h (.slice a n c)) 37))
 have HR3:=Xj (HR2.o.al (.cells (ecs h (.slice a n c)) 37))
 have HX3:=Xj (Lc.new w2 h (.slice a n c))
 have hjq:Xq ((ok=true/\∃ ar,(∀ z,Ps (.teL (Xb h ar)) r z->Ps .te rest z)/\Xk (w2.alloc (.cells (ecs h (.slice a n c)) 37)) (TBk w gR w2.heap.size) ar (.slice a n c)/\r.length<rest.length)\/(ok=false/\Ps .te rest (.bad r))):=Xj (by
  rcases Ha.o with⟨h1,ar,h2,h3,h4⟩|⟨h1,h2⟩
  ·exact .inl ⟨h1,ar,λ z hz=>Ps.te_ok h2 hz,Xg (Yr _ h3) (λ b hb _=>⟨by have:=hb.1;have:=HS1.o;have:=HGR.o;omega,by have:=hb.1;have:=HS1.o;omega,hb.2⟩),h4⟩
  exact .inr ⟨h1,Ps.te_bad h2⟩)
 clear Ha hp2 hg2
 go_upto_block 0 with fail
 obtain⟨w3,hw3⟩:∃ W,w2.alloc (.cells (ecs h (.slice a n c)) 37)=W:=⟨_,rfl⟩
 obtain⟨gx,hgx⟩:∃ x,w2.heap.size=x:=⟨_,rfl⟩
 (try rw[show w2.alloc (.cells #[.int .i64 h.k,.int .i64 h.op,.int .i64 h.v,.int .i64 h.ln,.string (st h.nm),.slice a n c] 37)=w3 from hw3])
 rw[hw3] at HM3 HR3 HX3 hjq
 rw[hgx] at HX3 hjq
 (try rw[hgx])
 have HGX:Xq (gR<gx):=Xj (by have:=HS1.o;omega)
 have HLE:=Xj hjy
 clear hw3 hgx hs2 hjy HM2 HR2 HM1 HR1
 go_wp2_with fail
 go_loopw [5] (λ v5 wr=>∃ (h:Hd) (a:Option Addr) (n c:Nat) (ok:Bool) (at2:Nat) (r:List Tk),v5=.bool ok/\Xq (LI K w gR gx .te .teL rest h a n c ok at2 r wr)) (λ _ wr=>K.ts.length-natAt wr K.g)
 case atStart=>exact⟨h,a,n,c,ok,at2,r,rfl,Xj ⟨HM3.o,HR3.o,HX3.o,HLE.o,hjq.o⟩⟩
 rename World=>wa
 obtain⟨h,a,n,c,ok,at2,r,rfl,HL⟩:=hrel
 obtain⟨x0,x1,x2,x3,x4,x5⟩:=HL.o.xc.cells
 obtain⟨g0,g1,g2,g3,g4,g5⟩:=HL.o.rc.froz
 obtain⟨y0,y1,y2,y3,y4,y5⟩:=HL.o.rc.cells
 have hlR:=HL.o.rc.lt
 have hlX:=HL.o.xc.lt
 have hgg:=HL.o.ms.gl
 have hzr:=HGR.o
 have hyj:=HGX.o
 have hqp:∀ (ok2:Bool),((ok2=true/\∃ ar,Ps .te rest (.ok (Xb h ar) r)/\Xk wa (TBk w gR gx) ar (.slice a n c)/\r.length<rest.length)\/(ok2=false/\Ps .te rest (.bad r)))->EP K .te rest w (.returned (.tuple #[exv h (.slice a n c),.bool ok2])) (set6 wa gR (.int .i64 h.k) (.int .i64 h.op) (.int .i64 h.v) (.int .i64 h.ln) (.string (st h.nm)) (.slice a n c)):=λ ok2 hr=>by
  have hms:=HL.o.ms.s6 (b:=gR) (by omega) (.int .i64 h.k) (.int .i64 h.op) (.int .i64 h.v) (.int .i64 h.ln) (.string (st h.nm)) (.slice a n c)
  refine⟨h,a,n,c,ok2,at2,r,rfl,hms.pat,HL.o.le,hms.gr,Xj ?_⟩
  rcases hr with⟨h1,ar,h2,h3,h4⟩|hr
  ·exact .inl ⟨h1,ar,h2,Xg (Yz h3 (λ b hb=>hb.2.1)) (λ b hb _=>hb.1),h4⟩
  exact .inr hr
 have hjt:=Xj hqp
 have HD0:=Xj (HL.o.rc.s6 h (.slice a n c))
 clear hqp
 cases ok
 ·have HB:Xq (Ps .te rest (.bad r)):=Xj (by
   rcases HL.o.res with⟨h1,_⟩|⟨_,h1⟩
   ·cases h1
   exact h1)
  go_wp2_with fail
  obtain⟨wz,hwz⟩:∃ W,set6 wa gR (.int .i64 h.k) (.int .i64 h.op) (.int .i64 h.v) (.int .i64 h.ln) (.string (st h.nm)) (.slice a n c)=W:=⟨_,rfl⟩
  have hY:=hwz
  unfold set6 at hY
  (try rw[hY])
  rw[hwz] at HD0 hjt
  obtain⟨d0,d1,d2,d3,d4,d5⟩:=HD0.o.cells
  refine bodyPost_ret (v:=.tuple #[exv h (.slice a n c),.bool false]) (by simp[results,Tryz.results189,go_sem,d0,d1,d2,d3,d4,d5]) rfl ?_
  exact hjt.o _ (.inr ⟨rfl,HB.o⟩)
 obtain⟨ar,hjh,har,hlt⟩:∃ ar,(∀ z,Ps (.teL (Xb h ar)) r z->Ps .te rest z)/\Xk wa (TBk w gR gx) ar (.slice a n c)/\r.length<rest.length:=by
  rcases HL.o.res with⟨_,h1⟩|⟨h1,_⟩
  ·exact h1
  cases h1
 have HCO:=Xj hjh
 have HAR:=Xj har
 have HLT:=Xj hlt
 clear hjh har hlt
 have HOP:=Xj (Vg K 5 7 (by omega) at2 r wa HL.o.ms.pat)
 clear x0 x1 x2 x3 x4 x5 y0 y1 y2 y3 y4 y5 g0 g1 g2 g3 g4 g5
 go_wp2_with fail
 refine HOP.o.mono ?_
 rintro e w4 ⟨at4,r4,hp4,hg4,Ha⟩
 have HM4:=Xj (HL.o.ms.call hp4 hg4)
 have HR4:=Xj (HL.o.rc.gr hg4 (by omega))
 have HX4:=Xj (HL.o.xc.gr hg4 (by omega))
 have hqk:=Xj (Zu HAR.o hg4 (λ b hb=>by have:=hb.1;omega))
 clear hp4 hg4 hjt HD0
 rcases Ha with⟨hT,rfl,rfl,rfl⟩|⟨hT,rfl,rfl,rfl⟩
 ·have HT:=Xj hT
  obtain⟨op,hop⟩:∃ o,Zv 5 7 r=o:=⟨_,rfl⟩
  obtain⟨tn,htn⟩:∃ o,Yb r=o:=⟨_,rfl⟩
  have HLN:=Xj (And.intro hop htn)
  have HRT:Xq (r.tail.length<r.length):=Xj (Uq (by intro e;rw[e] at hT;exact hT rfl))
  have dop:(op==0)=false:=by rw[beq_eq_false_iff_ne,<- hop];exact hT
  (try rw[hop])
  (try rw[htn])
  have HM6:=Xj (HM4.o.al zex)
  have HR6:=Xj (HR4.o.al zex)
  have HX6:=Xj (HX4.o.al zex)
  have HY6:=Xj (Lc.zero w4)
  have hzz:=Xj (Yr zex hqk.o)
  have hfw:=Xj HX4.o.lt
  clear hT hop htn HM4 HR4 HX4 hqk
  go_upto_region 6 with fail
  obtain⟨w6,hw6⟩:∃ W,(w4).alloc zex=W:=⟨_,rfl⟩
  obtain⟨gy,hgy⟩:∃ x,w4.heap.size=x:=⟨_,rfl⟩
  have hvq:Xq (gx<gy):=Xj (by rw[<- hgy];exact hfw.o)
  have HGY:Xq (w6.heap.size=gy+1):=Xj (by rw[<- hw6,<- hgy];simp[World.setCell])
  (try rw[show (w4).alloc (.cells #[.int .i64 0,.int .i64 0,.int .i64 0,.int .i64 0,.string { data := #[] },.slice none 0 0] 37)=w6 from hw6])
  have hzx:(w4).heap.size=gy:=by rw[<- hgy]
  rw[hw6,hzx] at HY6 hzz
  rw[hw6] at HM6 HR6 HX6
  (try rw[hgy])
  have hfq:=hvq.o
  have hfx:=HGY.o
  clear hw6 hgy hzx
  go_wp2_with fail
  refine(HA.o K (at2+1) r.tail _ HM6.o.pat (by have:=HRT.o;have:=HL.o.le;have:=HMm.o;omega)).mono ?_
  rintro e w7 ⟨h2,a2,n2,c2,ok2,at7,r7,rfl,hp7,He,hg7,hI⟩
  have hs7:=hg7.size
  have HM7:=Xj (HM6.o.call hp7 hg7)
  have HR7:=Xj (HR6.o.gr hg7 (by omega))
  have HX7:=Xj (HX6.o.gr hg7 (by omega))
  have HY7:=Xj (HY6.o.gr hg7 (by omega))
  have hqh:=Xj (Zu hzz.o hg7 (λ b hb=>by have:=hb.1.1;omega))
  have hfv:at2<at7:=by
   have h1:=HM7.o.pat.lt.2
   have h2:=HL.o.ms.pat.lt.2
   have h3:=HRT.o
   omega
  obtain⟨q0,q1,q2,q3,q4,q5⟩:=HX7.o.cells
  obtain⟨k0,k1,k2,k3,k4,k5⟩:=HX7.o.froz
  obtain⟨v0,v1,v2,v3,v4,v5⟩:=HY7.o.froz
  obtain⟨u0,u1,u2,u3,u4,u5⟩:=HY7.o.cells
  have hvz:=HX7.o.lt
  have hzt:=HY7.o.lt
  have HY8:=Xj (HY7.o.s6 h2 (.slice a2 n2 c2))
  have HX8:=Xj (HX7.o.s6o (g:=gy) (v0:=.int .i64 h2.k) (v1:=.int .i64 h2.op) (v2:=.int .i64 h2.v) (v3:=.int .i64 h2.ln) (v4:=.string (st h2.nm)) (v5:=.slice a2 n2 c2) (by omega))
  have HR8:=Xj (HR7.o.s6o (g:=gy) (v0:=.int .i64 h2.k) (v1:=.int .i64 h2.op) (v2:=.int .i64 h2.v) (v3:=.int .i64 h2.ln) (v4:=.string (st h2.nm)) (v5:=.slice a2 n2 c2) (by omega))
  have HM8:=Xj (HM7.o.s6 (b:=gy) (by omega) (.int .i64 h2.k) (.int .i64 h2.op) (.int .i64 h2.v) (.int .i64 h2.ln) (.string (st h2.nm)) (.slice a2 n2 c2))
  have hzv:=Xj (Xg (Yz (v0:=.int .i64 h2.k) (v1:=.int .i64 h2.op) (v2:=.int .i64 h2.v) (v3:=.int .i64 h2.ln) (v4:=.string (st h2.nm)) (v5:=.slice a2 n2 c2) hqh.o (λ b hb=>hb.2)) (λ b hb _=>hb.1))
  have hjp:Xq ((ok2=true/\∃ ar2,Ps .un r.tail (.ok (Xb h2 ar2) r7)/\Xk (set6 w7 gy (.int .i64 h2.k) (.int .i64 h2.op) (.int .i64 h2.v) (.int .i64 h2.ln) (.string (st h2.nm)) (.slice a2 n2 c2)) (TBk w gR gx) ar2 (.slice a2 n2 c2)/\r7.length<r.tail.length)\/(ok2=false/\Ps .un r.tail (.bad r7))):=Xj (by
   rcases hI.o with⟨h1,ar2,h2',h3,h4⟩|hr
   ·exact .inl ⟨h1,ar2,h2',Xg (Yz h3 (λ b hb=>by omega)) (λ b hb _=>⟨by omega,by omega,by omega⟩),h4⟩
   exact .inr hr)
  clear hI hp7 hg7 HM7 HR7 HX7 HY7 hqh
  go_upto_region 7 with fail
  obtain⟨w8,hw8⟩:∃ W,set6 w7 gy (.int .i64 h2.k) (.int .i64 h2.op) (.int .i64 h2.v) (.int .i64 h2.ln) (.string (st h2.nm)) (.slice a2 n2 c2)=W:=⟨_,rfl⟩
  have hqy:=hw8
  unfold set6 at hqy
  (try rw[hqy])
  rw[hw8] at HY8 HX8 HR8 HM8 hzv hjp
  clear hw8 hqy q0 q1 q2 q3 q4 q5 k0 k1 k2 k3 k4 k5 v0 v1 v2 v3 v4 v5 u0 u1 u2 u3 u4 u5 hvz hzt
  obtain⟨q0,q1,q2,q3,q4,q5⟩:=HX8.o.cells
  obtain⟨k0,k1,k2,k3,k4,k5⟩:=HX8.o.froz
  obtain⟨v0,v1,v2,v3,v4,v5⟩:=HY8.o.cells
  have hwv:=HX8.o.lt
  have hwk:=HY8.o.lt
  have hZ:∀ W,W=(set6 w8 gx (.int .i64 (Hd.k ⟨6,op,0,tn,[]⟩)) (.int .i64 (Hd.op ⟨6,op,0,tn,[]⟩)) (.int .i64 0) (.int .i64 (Hd.ln ⟨6,op,0,tn,[]⟩)) (.string { data := #[] }) (.slice (some ⟨w8.heap.size,0,none⟩) 2 2)).alloc (.cells #[.int .i64 h.k,.int .i64 h.op,.int .i64 h.v,.int .i64 h.ln,.string (st h.nm),.slice a n c,.int .i64 h2.k,.int .i64 h2.op,.int .i64 h2.v,.int .i64 h2.ln,.string (st h2.nm),.slice a2 n2 c2] 37) ->
    LI K w gR gx .te .teL rest ⟨6,op,0,tn,[]⟩ (some ⟨w8.heap.size,0,none⟩) 2 2 ok2 at7 r7 W:=λ W hW=>by
   rw[<- Zx _ HX8.o.lt] at hW
   have hA:=HX8.o.al (.cells #[.int .i64 h.k,.int .i64 h.op,.int .i64 h.v,.int .i64 h.ln,.string (st h.nm),.slice a n c,.int .i64 h2.k,.int .i64 h2.op,.int .i64 h2.v,.int .i64 h2.ln,.string (st h2.nm),.slice a2 n2 c2] 37)
   subst hW
   refine⟨(HM8.o.al _).s6 (by omega) _ _ _ _ _ _,(HR8.o.al _).s6o (by omega),hA.s6 ⟨6,op,0,tn,[]⟩ (.slice (some ⟨w8.heap.size,0,none⟩) 2 2),by have:=HRT.o;have:=HL.o.le;omega,?_⟩
   rcases hjp.o with⟨h1,ar2,h2,h3,h4⟩|⟨h1,h2⟩
   ·refine .inl ⟨h1,(Xb h ar).app (Xb _ ar2),λ z hz=>HCO.o z (Ps.teL_ok HT.o h2 (by rw[HLN.o.1,HLN.o.2];exact hz)),?_,by have:=HRT.o;have:=HLT.o;omega⟩
    exact Yz (Vj hzv.o h3 (λ b hb _=>hb) ⟨by have:=HM8.o.gr.size;omega,by have:=HR8.o.lt;omega,by have:=HX8.o.lt;omega⟩) (λ b hb=>hb.2.2)
   exact .inr ⟨h1,HCO.o _ (Ps.teL_bad HT.o h2)⟩
  have hjg:=Xj hZ
  clear hZ
  go_wp2_with fail
  go_roundw
  case rel=>exact⟨⟨6,op,0,tn,[]⟩,some ⟨w8.heap.size,0,none⟩,2,2,ok2,at7,r7,rfl,Xj (hjg.o _ rfl)⟩
  have h1:=(hjg.o _ rfl).ms.pat.natAt
  have h2:=HL.o.ms.pat.natAt
  have h3:=HL.o.ms.pat.lt.1
  unfold set6 at h1
  rw[h2]
  simp only[World.setCell_alloc_past] at h1 ⊢
  first|(rw[h1];omega)|(simp at h1;rw[h1];omega)
 have HD4:=Xj (HR4.o.s6 h (.slice a n c))
 have HZ:Xq (Ps .te rest (.ok (Xb h ar) r4)):=Xj (HCO.o _ (Ps.teL_end hT))
 obtain⟨x0,x1,x2,x3,x4,x5⟩:=HX4.o.cells
 obtain⟨g0,g1,g2,g3,g4,g5⟩:=HR4.o.froz
 obtain⟨y0,y1,y2,y3,y4,y5⟩:=HR4.o.cells
 have hus:=HR4.o.lt
 clear hT
 go_wp2_with fail
 obtain⟨wz,hwz⟩:∃ W,set6 w4 gR (.int .i64 h.k) (.int .i64 h.op) (.int .i64 h.v) (.int .i64 h.ln) (.string (st h.nm)) (.slice a n c)=W:=⟨_,rfl⟩
 have HMZ:=Xj (HM4.o.s6 (b:=gR) (by omega) (.int .i64 h.k) (.int .i64 h.op) (.int .i64 h.v) (.int .i64 h.ln) (.string (st h.nm)) (.slice a n c))
 have HAZ:=Xj (Yz (v0:=.int .i64 h.k) (v1:=.int .i64 h.op) (v2:=.int .i64 h.v) (v3:=.int .i64 h.ln) (v4:=.string (st h.nm)) (v5:=.slice a n c) hqk.o (λ b hb=>hb.2.1))
 have hY:=hwz
 unfold set6 at hY
 (try rw[hY])
 rw[hwz] at HD4 HMZ HAZ
 obtain⟨d0,d1,d2,d3,d4,d5⟩:=HD4.o.cells
 refine bodyPost_ret (v:=.tuple #[exv h (.slice a n c),.bool true]) (by simp[results,Tryz.results189,go_sem,d0,d1,d2,d3,d4,d5]) rfl ?_
 exact⟨h,a,n,c,true,at4,r4,rfl,HMZ.o.pat,HL.o.le,HMZ.o.gr,Xj (.inl ⟨rfl,ar,HZ.o,Xg HAZ.o (λ b hb _=>hb.1),HLT.o⟩)⟩
end
end Go.Proofs.YtldgghnjminhiaaGreatDoor
