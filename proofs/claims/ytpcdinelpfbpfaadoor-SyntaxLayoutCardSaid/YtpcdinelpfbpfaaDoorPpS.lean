/-
  PLAIN LAW: the tokens of a right program are parsed to that program. No walk. (Filled in from a template of this repo.)
-/
import Derived.Test.YtpcdinelpfbpfaaDoorPpE
import Derived.Test.YtpcdinelpfbpfaaDoorPpQ
namespace Go.Proofs.YtpcdinelpfbpfaaDoor
set_option linter.unusedVariables false
set_option linter.unusedSimpArgs false

theorem val_ok {xs:Fo} (hw:xs.wf) {i:Nat} (hi:i<xs.len) {ts:List Tk} {R:List Xt} (e:unl ts=valX xs i++R) (hs:stE R) : ∃ x F r,xs.get i=some x/\Ps .ex ts (.ok F r)/\unl r=R/\eqF false F (one1 x.1 x.2)=true:=by
 obtain⟨x,hg⟩:=Fo.get_lt hi
 unfold valX at e
 rw [toks_get xs i x hg] at e
 obtain⟨F,r,h1,h2,h3⟩:=(PaE.all xs hw i x hg).2.1 ts R e hs
 exact⟨x,F,r,hg,h1,h2,h3⟩
theorem one_of {xs:Fo} {x:Hd×Fo} (hl:xs.len=1) (hx:xs.get 0=some x):xs=one1 x.1 x.2:=by
 cases xs with
 | nil=>cases hx
 | cons h2 a2 r2 =>
  injection hx with hx
  subst hx
  cases r2 with
  | nil=>rfl
  | cons _ _ _=>simp [Fo.len] at hl
theorem two_of {xs:Fo} {x y:Hd×Fo} (hl:xs.len=2) (hx:xs.get 0=some x) (hy:xs.get 1=some y):xs=(one1 x.1 x.2).app (one1 y.1 y.2):=by
 cases xs with
 | nil=>cases hx
 | cons h2 a2 r2 =>
  cases r2 with
  | nil=>cases hy
  | cons h3 a3 r3 =>
   injection hx with hx
   injection hy with hy
   subst hx hy
   cases r3 with
   | nil=>rfl
   | cons _ _ _=>simp [Fo.len] at hl
theorem eqS_one {k ln ln':Int} {nm:Bt} {xs xs':Fo} {th th' el el':Sf} (h1:eqF false xs xs'=true) (h2:eqS false th th'=true) (h3:eqS false el el'=true):eqS false (oneS k ln nm xs th el) (oneS k ln' nm xs' th' el')=true:=by
 simp [eqS,h1,h2,h3]
def PaS (S:Sf):Prop := ∀ ts R (acc:Sf),unl ts=tokS S++(sgX [125]::R) -> ∃ S' r,Qs (.bk acc) ts (.ok (acc.app S') r)/\unl r=R/\eqS false S' S=true
theorem PaS.blk {S:Sf} (h:PaS S) {ts:List Tk} {R:List Xt} (e:unl ts=sgX [123]::(tokS S++(sgX [125]::R))) : ∃ S' r,Qs .bl ts (.ok S' r)/\unl r=R/\eqS false S' S=true:=by
 obtain⟨a1,a2,a3,a4,a5,a6⟩:=unl_cons e
 obtain⟨S',r,p1,p2,p3⟩:=h _ R .nil a4
 exact⟨S',r,Qs.bl_ok (by rw [a5];rfl) p1,p2,p3⟩
theorem PaS.more {k ln:Int} {nm:Bt} {xs:Fo} {th el S:Sf} (hS:PaS S)
  (h : ∀ ts R,unl ts=tokS (oneS k ln nm xs th el)++R->(∃ x R',R=x::R'/\x.2.2≠[101,108,115,101])->isT [125] ts=false /\ ∃ T r,Qs .st ts (.ok T r)/\unl r=R/\eqS false T (oneS k ln nm xs th el)=true)
  (hn : ∀ R,∃ x R',tokS S++(sgX [125]::R)=x::R'/\x.2.2≠[101,108,115,101]):PaS (.cons k ln nm xs th el S):=by
 intro ts R acc e
 have e2:tokS (.cons k ln nm xs th el S)=tokS (oneS k ln nm xs th el)++tokS S:=by simp [tokS]
 rw [e2,List.append_assoc] at e
 obtain⟨h1,T,r,h2,h3,h4⟩:=h ts _ e (hn R)
 obtain⟨S',r2,k1,k2,k3⟩:=hS r R (acc.app T) h3
 refine⟨T.app S',r2,?_,k2,eqS_app (F':=oneS k ln nm xs th el) h4 k3⟩
 rw [<- Sf.app_asc]
 exact Qs.bk_ok h1 h2 k1
theorem tokS_hd {k ln:Int} {nm:Bt} {xs:Fo} {th el S:Sf} (hok:okS k nm xs th el) : ∃ x R',tokS (.cons k ln nm xs th el S)=x::R'/\x.2.2≠[101,108,115,101]/\x.2.2≠[125]:=by
 have hnm:okN nm->nm≠[101,108,115,101]/\nm≠[125]:=fun h=>by
  obtain⟨b,r,rfl,h1,h2,h3,h4⟩:=h
  refine⟨fun e=>?_,fun e=>?_⟩
  ·rw [e] at h3;exact absurd h3 (by decide)
  ·injection e with e _;subst e;exact absurd h1 (by decide)
 rcases hok with⟨hk,hn,hl,_⟩ | ⟨hk,hn,hl,_⟩ | ⟨hk,hn,hl⟩ | ⟨hk,hn,hl,_⟩ | ⟨hk,hn,hl,_⟩ | ⟨hk,hn,_⟩
 ·rcases hk with hk | hk
  ·exact⟨_,_,by simp [tokS,hk];exact⟨rfl,rfl⟩,by simp,by simp⟩
  ·exact⟨_,_,by simp [tokS,hk];exact⟨rfl,rfl⟩,(hnm hn).1,(hnm hn).2⟩
 ·exact⟨_,_,by simp [tokS,hk];exact⟨rfl,rfl⟩,(hnm hn).1,(hnm hn).2⟩
 ·exact⟨_,_,by simp [tokS,hk];exact⟨rfl,rfl⟩,by simp,by simp⟩
 ·exact⟨_,_,by simp [tokS,hk];exact⟨rfl,rfl⟩,by simp,by simp⟩
 ·rcases hk with hk | hk
  ·exact⟨_,_,by simp [tokS,hk];exact⟨rfl,rfl⟩,by simp,by simp⟩
  ·exact⟨_,_,by simp [tokS,hk];exact⟨rfl,rfl⟩,by simp,by simp⟩
 ·exact⟨_,_,by simp [tokS,hk];exact⟨rfl,rfl⟩,by simp,by simp⟩
theorem okN_noW {nm:Bt} (h:okN nm) {ts:List Tk} (hk:kOf ts=1):noW ts:=by
 have hf : ∀ t,isT t ts=false:=fun t=>by
  cases hh:isT t ts with
  | false=>rfl
  | true=>exact absurd hk (isT_k hh).1
 exact⟨hf _,hf _,hf _,hf _,hf _,hf _⟩
theorem PaS.one {k ln:Int} {nm:Bt} {xs:Fo} {th el:Sf} (hok:okS k nm xs th el) (hxs:xs.wf) (ht:PaS th) (he:PaS el) :
  ∀ ts R,unl ts=tokS (oneS k ln nm xs th el)++R->(∃ x R',R=x::R'/\x.2.2≠[101,108,115,101])->isT [125] ts=false /\ ∃ T r,Qs .st ts (.ok T r)/\unl r=R/\eqS false T (oneS k ln nm xs th el)=true:=by
 intro ts R e hR
 have hval : ∀ (kk:Int) (m:Bt) (u:List Tk),hk ts=.val kk m u->xs.len=1->th=.nil->el=.nil->kk=k->m=nm->unl u=valX xs 0++(sgX [59]::R) -> ∃ T r,Qs .st ts (.ok T r)/\unl r=R/\eqS false T (oneS k ln nm xs th el)=true:=by
  intro kk m u hu hl e1 e2 e3 e4 hu2
  subst e1 e2 e3 e4
  obtain⟨x,F,r,g1,g2,g3,g4⟩:=val_ok hxs (i:=0) (by omega) hu2 ⟨[59],R,rfl,by decide⟩
  obtain⟨b1,b2,b3,b4,b5,b6⟩:=unl_cons g3
  have hq:=Qs.st_val hu g2
  unfold endR at hq
  dsimp only at hq
  rw [if_pos (by rw [b5];rfl)] at hq
  refine⟨_,r.tail,hq,b4,eqS_one ?_ rfl rfl⟩
  rw [one_of hl g1]
  exact g4
 have hcho : ∀ (kk:Int) (u:List Tk),hk ts=.cho kk u->kk=k->nm=[]->xs.len=1->(∃ R1,unl u=valX xs 0++(sgX [123]::(tokS th++(sgX [125]::R1)))/\((kk≠4/\el=.nil/\R1=R)\/(kk=4/\el.len=0/\R1=R)\/(kk=4/\R1=wdX [101,108,115,101]::sgX [123]::(tokS el++(sgX [125]::R))))) -> ∃ T r,Qs .st ts (.ok T r)/\unl r=R/\eqS false T (oneS k ln nm xs th el)=true:=by
  intro kk u hu e3 e4 hl hx
  subst e3 e4
  obtain⟨R1,hu2,hR1⟩:=hx
  obtain⟨x,F,r,g1,g2,g3,g4⟩:=val_ok hxs (i:=0) (by omega) hu2 ⟨[123],_,rfl,by decide⟩
  obtain⟨S',r2,p1,p2,p3⟩:=ht.blk g3
  have hF:eqF false F xs=true:=by rw [one_of hl g1];exact g4
  have hno:R1=R->isT elW r2=false:=fun e5=>by
   subst e5
   obtain⟨⟨k1,v1,t1⟩,R',rfl,hx2⟩:=hR
   obtain⟨b1,b2,b3,b4,b5,b6⟩:=unl_cons p2
   rw [b5]
   have:(t1==elW)=false:=by simpa using hx2
   rw [this];simp
  rcases hR1 with⟨h1,h2,h3⟩ | ⟨h1,h2,h3⟩ | ⟨h1,h3⟩
  ·refine⟨_,r2,Qs.cho_one hu g2 p1 (fun h=>h1 h.1),by rw [p2,h3],eqS_one hF p3 (by rw [h2];rfl)⟩
  ·refine⟨_,r2,Qs.cho_one hu g2 p1 (fun h=>by rw [hno h3] at h;cases h.2),by rw [p2,h3],eqS_one hF p3 ?_⟩
   cases el with
   | nil=>rfl
   | cons _ _ _ _ _ _ _=>simp [Sf.len] at h2
  ·rw [h3] at p2
   obtain⟨b1,b2,b3,b4,b5,b6⟩:=unl_cons p2
   obtain⟨S2,r3,q1,q2,q3⟩:=he.blk b4
   exact⟨_,r3,Qs.cho_two hu g2 p1 ⟨h1,by rw [b5];rfl⟩ q1,q2,eqS_one hF p3 q3⟩
 rcases hok with⟨hk,hn,hl,h1,h2⟩ | ⟨hk,hn,hl,h1,h2⟩ | ⟨hk,hn,hl⟩ | ⟨hk,hn,hl,h2⟩ | ⟨hk,hn,hl,h1,h2⟩ | ⟨hk,hn,h1,h2,hh,har,hxe,hkk⟩
 ·rcases hk with hk | hk
  ·have e2:tokS (oneS k ln nm xs th el)=wdX [118,97,114]::nmX nm::sgX [61]::(valX xs 0++[sgX [59]]):=by simp [tokS,hk]
   rw [e2] at e
   simp only [List.cons_append,List.append_assoc,List.nil_append] at e
   obtain⟨a1,a2,a3,a4,a5,a6⟩:=unl_cons e
   obtain⟨b1,b2,b3,b4,b5,b6⟩:=unl_cons a4
   obtain⟨c1,c2,c3,c4,c5,c6⟩:=unl_cons b4
   have hh:=hk_var (ts:=ts) (by rw [a5];rfl)
   rw [if_pos b1,if_pos (by rw [c5];rfl)] at hh
   exact⟨by rw [a5];rfl,hval _ _ _ hh hl h1 h2 hk.symm b3 c4⟩
  ·have e2:tokS (oneS k ln nm xs th el)=nmX nm::sgX [61]::(valX xs 0++[sgX [59]]):=by simp [tokS,hk]
   rw [e2] at e
   simp only [List.cons_append,List.append_assoc,List.nil_append] at e
   obtain⟨a1,a2,a3,a4,a5,a6⟩:=unl_cons e
   obtain⟨b1,b2,b3,b4,b5,b6⟩:=unl_cons a4
   have hh:=hk_else (okN_noW hn a1)
   rw [if_pos a1,if_neg (by rw [b5];decide),if_pos (by rw [b5];rfl)] at hh
   exact⟨by rw [a5];rfl,hval _ _ _ hh hl h1 h2 hk.symm a3 b4⟩
 ·have e2:tokS (oneS k ln nm xs th el)=nmX nm::sgX [91]::(valX xs 0++(sgX [93]::sgX [61]::(valX xs 1++[sgX [59]]))):=by simp [tokS,hk]
  rw [e2] at e
  simp only [List.cons_append,List.append_assoc,List.nil_append] at e
  obtain⟨a1,a2,a3,a4,a5,a6⟩:=unl_cons e
  obtain⟨b1,b2,b3,b4,b5,b6⟩:=unl_cons a4
  have hh:=hk_else (okN_noW hn a1)
  rw [if_pos a1,if_pos (by rw [b5];rfl)] at hh
  obtain⟨x,F,r,g1,g2,g3,g4⟩:=val_ok hxs (i:=0) (by omega) b4 ⟨[93],_,rfl,by decide⟩
  obtain⟨c1,c2,c3,c4,c5,c6⟩:=unl_cons g3
  obtain⟨d1,d2,d3,d4,d5,d6⟩:=unl_cons c4
  obtain⟨y,G,r2,k1,k2,k3,k4⟩:=val_ok hxs (i:=1) (by omega) d4 ⟨[59],R,rfl,by decide⟩
  obtain⟨f1,f2,f3,f4,f5,f6⟩:=unl_cons k3
  have hq:=Qs.sto_ok hh g2 (by rw [c5];rfl) (by rw [d5];rfl) k2
  unfold endR at hq
  dsimp only at hq
  rw [if_pos (by rw [f5];rfl)] at hq
  refine⟨by rw [a5];rfl,_,r2.tail,hq,f4,?_⟩
  subst hk h1 h2
  rw [a3]
  refine eqS_one ?_ rfl rfl
  rw [two_of hl g1 k1]
  exact eqF_app g4 k4
 ·by_cases hz:el.len=0
  ·have e2:tokS (oneS k ln nm xs th el)=wdX [105,102]::(valX xs 0++(sgX [123]::(tokS th++[sgX [125]]))):=by simp [tokS,hk,hz]
   rw [e2] at e
   simp only [List.cons_append,List.append_assoc,List.nil_append] at e
   obtain⟨a1,a2,a3,a4,a5,a6⟩:=unl_cons e
   exact⟨by rw [a5];rfl,hcho _ _ (hk_if (by rw [a5];rfl)) hk.symm hn hl ⟨R,a4,.inr (.inl ⟨rfl,hz,rfl⟩)⟩⟩
  ·have e2:tokS (oneS k ln nm xs th el)=wdX [105,102]::(valX xs 0++(sgX [123]::(tokS th++(sgX [125]::wdX [101,108,115,101]::sgX [123]::(tokS el++[sgX [125]]))))):=by simp [tokS,hk,hz]
   rw [e2] at e
   simp only [List.cons_append,List.append_assoc,List.nil_append] at e
   obtain⟨a1,a2,a3,a4,a5,a6⟩:=unl_cons e
   exact⟨by rw [a5];rfl,hcho _ _ (hk_if (by rw [a5];rfl)) hk.symm hn hl ⟨_,a4,.inr (.inr ⟨rfl,rfl⟩)⟩⟩
 ·have e2:tokS (oneS k ln nm xs th el)=wdX [119,104,105,108,101]::(valX xs 0++(sgX [123]::(tokS th++[sgX [125]]))):=by simp [tokS,hk]
  rw [e2] at e
  simp only [List.cons_append,List.append_assoc,List.nil_append] at e
  obtain⟨a1,a2,a3,a4,a5,a6⟩:=unl_cons e
  exact⟨by rw [a5];rfl,hcho _ _ (hk_while (by rw [a5];rfl)) hk.symm hn hl ⟨R,a4,.inl ⟨by decide,h2,rfl⟩⟩⟩
 ·rcases hk with hk | hk
  ·have e2:tokS (oneS k ln nm xs th el)=wdX [114,101,116,117,114,110]::(valX xs 0++[sgX [59]]):=by simp [tokS,hk]
   rw [e2] at e
   simp only [List.cons_append,List.append_assoc,List.nil_append] at e
   obtain⟨a1,a2,a3,a4,a5,a6⟩:=unl_cons e
   exact⟨by rw [a5];rfl,hval _ _ _ (hk_return (by rw [a5];rfl)) hl h1 h2 hk.symm hn.symm a4⟩
  ·have e2:tokS (oneS k ln nm xs th el)=wdX [112,114,105,110,116]::(valX xs 0++[sgX [59]]):=by simp [tokS,hk]
   rw [e2] at e
   simp only [List.cons_append,List.append_assoc,List.nil_append] at e
   obtain⟨a1,a2,a3,a4,a5,a6⟩:=unl_cons e
   exact⟨by rw [a5];rfl,hval _ _ _ (hk_print (by rw [a5];rfl)) hl h1 h2 hk.symm hn.symm a4⟩
 ·have e2:tokS (oneS k ln nm xs th el)=wdX [99,97,108,108]::(valX xs 0++[sgX [59]]):=by simp [tokS,hk]
  rw [e2] at e
  simp only [List.cons_append,List.append_assoc,List.nil_append] at e
  obtain⟨a1,a2,a3,a4,a5,a6⟩:=unl_cons e
  exact⟨by rw [a5];rfl,hval _ _ _ (hk_call (by rw [a5];rfl)) (by rw [hxe];rfl) h1 h2 hk.symm hn.symm a4⟩
theorem PaS.all (S:Sf) (hw:S.wf):PaS S:=by
 induction S with
 | nil =>
  intro ts R acc e
  obtain⟨a1,a2,a3,a4,a5,a6⟩:=unl_cons (show unl ts=sgX [125]::R from e)
  exact⟨.nil,ts.tail,by rw [Sf.app_nil2];exact Qs.bk_end (by rw [a5];rfl),a4,rfl⟩
 | cons k ln nm xs th el S i1 i2 i3 =>
  obtain⟨hok,_,hxs,ht,he,hr⟩:=hw
  refine PaS.more (i3 hr) (PaS.one hok hxs (i1 ht) (i2 he)) (fun R=>?_)
  cases S with
  | nil=>exact⟨_,_,rfl,by simp⟩
  | cons k2 ln2 nm2 xs2 th2 el2 S2 =>
   obtain⟨x,R',h1,h2,_⟩:=tokS_hd (ln:=ln2) (S:=S2) hr.1
   exact⟨x,R'++(sgX [125]::R),by rw [h1];rfl,h2⟩
theorem Pr_more (qs:List Bt) : ∀ (ps:List Bt) ts R,ps≠[]->unl ts=tlX (qs.map fun p=>[nmX p])++(sgX [41]::R) -> ∃ r,Pr ps ts (.ok (ps++qs) r)/\unl r=R:=by
 induction qs with
 | nil =>
  intro ps ts R hp e
  obtain⟨a1,a2,a3,a4,a5,a6⟩:=unl_cons (show unl ts=sgX [41]::R from e)
  exact⟨ts.tail,by rw [List.append_nil];exact Pr.fin (by rw [a5];rfl),a4⟩
 | cons q qs ih =>
  intro ps ts R hp e
  have e:unl ts=sgX [44]::nmX q::(tlX (qs.map fun p=>[nmX p])++(sgX [41]::R)):=by rw [e];rfl
  obtain⟨a1,a2,a3,a4,a5,a6⟩:=unl_cons e
  obtain⟨b1,b2,b3,b4,b5,b6⟩:=unl_cons a4
  obtain⟨r,h1,h2⟩:=ih (ps++[q]) _ R (by simp) b4
  refine⟨r,Pr.more (u:=ts.tail) (by rw [a5];rfl) (fun _=>by rw [a5];rfl) (by unfold uP;rw [if_neg hp]) b1 ?_,h2⟩
  rw [b3]
  have:ps++q::qs=(ps++[q])++qs:=by simp
  rw [this]
  exact h1
theorem Pr_all (ps:List Bt) {ts:List Tk} {R:List Xt} (e:unl ts=commX (ps.map fun p=>[nmX p])++(sgX [41]::R)) : ∃ r,Pr [] ts (.ok ps r)/\unl r=R:=by
 cases ps with
 | nil =>
  obtain⟨a1,a2,a3,a4,a5,a6⟩:=unl_cons (show unl ts=sgX [41]::R from e)
  exact⟨ts.tail,Pr.fin (by rw [a5];rfl),a4⟩
 | cons q qs =>
  have e:unl ts=nmX q::(tlX (qs.map fun p=>[nmX p])++(sgX [41]::R)):=by
   rw [e]
   show commX ([nmX q]::qs.map fun p=>[nmX p])++_=_
   rw [commX_cons]
   rfl
  obtain⟨a1,a2,a3,a4,a5,a6⟩:=unl_cons e
  obtain⟨r,h1,h2⟩:=Pr_more qs [q] _ R (by simp) a4
  refine⟨r,Pr.more (u:=ts) (by rw [a5];rfl) (fun h=>absurd rfl h) (by unfold uP;rw [if_pos rfl]) a1 ?_,h2⟩
  rw [a3]
  exact h1
def fnU (F:Fn):Fu:=⟨F.nm,0,F.ps,F.bd⟩
theorem Fs_ok (F:Fn) (hb:F.bd.wf) {ts:List Tk} {R:List Xt} (e:unl ts=nmX F.nm::sgX [40]::(commX (F.ps.map fun p=>[nmX p])++(sgX [41]::sgX [123]::(tokS F.bd++(sgX [125]::R))))) :
  ∃ S r,Fs ts (.ok F.nm F.ps S r)/\unl r=R/\eqS false S F.bd=true:=by
 obtain⟨a1,a2,a3,a4,a5,a6⟩:=unl_cons e
 obtain⟨b1,b2,b3,b4,b5,b6⟩:=unl_cons a4
 obtain⟨r,h1,h2⟩:=Pr_all F.ps b4
 obtain⟨S,r2,k1,k2,k3⟩:=(PaS.all F.bd hb).blk h2
 refine⟨S,r2,?_,k2,k3⟩
 rw [<- a3]
 exact Fs.ok a1 (by rw [b5];rfl) h1 k1
theorem glP_ok (x:Bt×Int) (h:0<=x.2/\x.2<=5) {ts:List Tk} {R:List Xt} (e:unl ts=nmX x.1::((if 0<x.2 then [sgX [91],(2,x.2,Lib.decDigits x.2.toNat),sgX [93]] else [])++(sgX [59]::R))) (wr:Int) : ∃ r,glP wr ts=.ok x.1 x.2 wr r/\unl r=R:=by
 by_cases hz:0<x.2
 ·rw [if_pos hz] at e
  simp only [List.cons_append,List.nil_append] at e
  obtain⟨a1,a2,a3,a4,a5,a6⟩:=unl_cons e
  obtain⟨b1,b2,b3,b4,b5,b6⟩:=unl_cons a4
  obtain⟨c1,c2,c3,c4,c5,c6⟩:=unl_cons b4
  obtain⟨d1,d2,d3,d4,d5,d6⟩:=unl_cons c4
  obtain⟨f1,f2,f3,f4,f5,f6⟩:=unl_cons d4
  refine⟨ts.tail.tail.tail.tail.tail,?_,f4⟩
  unfold glP
  rw [if_pos a1,if_pos (by rw [b5];rfl),if_pos c1,if_pos (by rw [d5];rfl),if_pos (by rw [f5];rfl),a3,c2]
  have:wrOf x.2 (lnOf ts.tail.tail) wr=wr:=by unfold wrOf;rw [if_neg (by omega)]
  rw [this]
 ·rw [if_neg hz] at e
  simp only [List.cons_append,List.nil_append] at e
  obtain⟨a1,a2,a3,a4,a5,a6⟩:=unl_cons e
  obtain⟨b1,b2,b3,b4,b5,b6⟩:=unl_cons a4
  refine⟨ts.tail.tail,?_,b4⟩
  unfold glP
  rw [if_pos a1,if_neg (by rw [b5];decide),if_pos (by rw [b5];rfl),a3]
  have:x.2=0:=by omega
  rw [this]
theorem So_fns (l:List Fn) (hl : ∀ F∈l,F.bd.wf) : ∀ (gs:List (Bt×Int)) (fs:List Fu) ts ln,unl ts=l.flatMap tokF++[(0,0,[])] -> ∃ fs' r,So 0 gs fs ts (.ok gs (fs++fs') 0 r)/\eqFs false fs' (l.map fnU)=true/\(ln:Int)=ln:=by
 induction l with
 | nil =>
  intro gs fs ts ln e
  obtain⟨a1,_⟩:=unl_cons (show unl ts=(0,0,[])::[] from e)
  exact⟨[],ts,by rw [List.append_nil];exact So.fin a1,rfl,rfl⟩
 | cons F l ih =>
  intro gs fs ts ln e
  have e:unl ts=wdX [102,117,110,99]::nmX F.nm::sgX [40]::(commX (F.ps.map fun p=>[nmX p])++(sgX [41]::sgX [123]::(tokS F.bd++(sgX [125]::(l.flatMap tokF++[(0,0,[])]))))):=by
   rw [e,List.flatMap_cons]
   simp [tokF]
  obtain⟨a1,a2,a3,a4,a5,a6⟩:=unl_cons e
  obtain⟨S,r,h1,h2,h3⟩:=Fs_ok F (hl F (by simp)) a4
  obtain⟨fs',r2,k1,k2,_⟩:=ih (fun G hG=>hl G (by simp [hG])) gs (fs++[⟨F.nm,lnOf ts,F.ps,S⟩]) r ln h2
  refine⟨⟨F.nm,lnOf ts,F.ps,S⟩::fs',r2,So.fn (by rw [a5];rfl) h1 ?_,?_,rfl⟩
  ·have:fs++⟨F.nm,lnOf ts,F.ps,S⟩::fs'=(fs++[⟨F.nm,lnOf ts,F.ps,S⟩])++fs':=by simp
   rw [this]
   exact k1
  ·simp only [List.map_cons,eqFs,Bool.and_eq_true]
   exact⟨by simp [eqFu,fnU,h3],k2⟩
theorem So_all (l:List (Bt×Int)) (hg : ∀ x∈l,0<=x.2/\x.2<=5) (Fs:List Fn) (hl : ∀ F∈Fs,F.bd.wf) : ∀ (gs:List (Bt×Int)) ts,unl ts=(l.flatMap tokG++Fs.flatMap tokF)++[(0,0,[])] -> ∃ fs r,So 0 gs [] ts (.ok (gs++l) fs 0 r)/\eqFs false fs (Fs.map fnU)=true:=by
 induction l with
 | nil =>
  intro gs ts e
  obtain⟨fs',r,h1,h2,_⟩:=So_fns Fs hl gs [] ts 0 e
  exact⟨fs',r,by rw [List.append_nil];exact h1,h2⟩
 | cons x l ih =>
  intro gs ts e
  have e:unl ts=wdX [103,108,111,98,97,108]::nmX x.1::((if 0<x.2 then [sgX [91],(2,x.2,Lib.decDigits x.2.toNat),sgX [93]] else [])++(sgX [59]::((l.flatMap tokG++Fs.flatMap tokF)++[(0,0,[])]))):=by
   rw [e,List.flatMap_cons]
   simp [tokG]
  obtain⟨a1,a2,a3,a4,a5,a6⟩:=unl_cons e
  obtain⟨r,h1,h2⟩:=glP_ok x (hg x (by simp)) a4 0
  obtain⟨fs,r2,k1,k2⟩:=ih (fun y hy=>hg y (by simp [hy])) (gs++[x]) r h2
  refine⟨fs,r2,So.gl (by rw [a5];rfl) h1 ?_,k2⟩
  have:gs++x::l=(gs++[x])++l:=by simp
  rw [this]
  exact k1
theorem So_back (l:List (Bt×Int)) (hg : ∀ x∈l,0<=x.2/\x.2<=5) (Fs:List Fn) (hl : ∀ F∈Fs,F.bd.wf) {ys:List Tk} {ln:Int} (e:unl ys=tokP l Fs) : ∃ fs r,So 0 [] [] (ys++[⟨0,ln,0,[]⟩]) (.ok l fs 0 r)/\eqFs false fs (Fs.map fnU)=true:=by
 have:=So_all l hg Fs hl [] (ys++[⟨0,ln,0,[]⟩]) (by
  unfold unl at e ⊢
  rw [List.map_append,e]
  rfl)
 simpa using this
end Go.Proofs.YtpcdinelpfbpfaaDoor
