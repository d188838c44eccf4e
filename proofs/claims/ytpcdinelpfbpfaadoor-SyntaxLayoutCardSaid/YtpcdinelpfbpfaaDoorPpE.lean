/-
  PLAIN LAW: the tokens of a right expression are parsed to that expression. No walk. (Filled in from a template of this repo.)
-/
import Derived.Test.YtpcdinelpfbpfaaDoorMlf
import Derived.Test.YtpcdinelpfbpfaaDoorPsT
namespace Go.Proofs.YtpcdinelpfbpfaaDoor
set_option linter.unusedVariables false
set_option linter.unusedSimpArgs false

theorem Fo.app_asc (F G H:Fo):(F.app G).app H=F.app (G.app H):=by
 induction F with
 | nil=>rfl
 | cons h a r _ ih=>show Fo.cons h a _=Fo.cons h a _;rw [ih]
theorem Fo.app_nil3 (F:Fo):F.app .nil=F:=by
 induction F with
 | nil=>rfl
 | cons h a r _ ih=>show Fo.cons h a _=Fo.cons h a _;rw [ih]
theorem eqF_app {l:Bool} {F F' G G':Fo} (h:eqF l F F'=true) (k:eqF l G G'=true):eqF l (F.app G) (F'.app G')=true:=by
 induction F generalizing F' with
 | nil =>
  cases F' with
  | nil=>exact k
  | cons h a r=>cases h
 | cons h1 a1 r1 _ ih =>
  cases F' with
  | nil=>cases h
  | cons h2 a2 r2 =>
   simp only [eqF,Bool.and_eq_true] at h
   show eqF l (.cons h1 a1 (r1.app G)) (.cons h2 a2 (r2.app G'))=true
   simp only [eqF,Bool.and_eq_true]
   exact⟨h.1,ih h.2⟩
theorem eqF_one {F:Fo} {h:Hd} {ar:Fo} (e:eqF false F (one1 h ar)=true) : ∃ h' ar',F=one1 h' ar'/\h'.k=h.k/\h'.op=h.op/\h'.v=h.v/\h'.nm=h.nm/\eqF false ar' ar=true:=by
 cases F with
 | nil=>cases e
 | cons h1 a1 r1 =>
  cases r1 with
  | nil=>simp [eqF] at e;exact⟨h1,a1,rfl,e.1,e.2.1,e.2.2.1,e.2.2.2.1,e.2.2.2.2⟩
  | cons h2 a2 r2=>simp [eqF] at e
theorem eqF_mk {h' h:Hd} {ar' ar:Fo} (h1:h'.k=h.k) (h2:h'.op=h.op) (h3:h'.v=h.v) (h4:h'.nm=h.nm) (h5:eqF false ar' ar=true):eqF false (one1 h' ar') (one1 h ar)=true:=by
 simp [eqF,h1,h2,h3,h4,h5]
theorem unl_cons {ts:List Tk} {k v:Int} {t:Bt} {R:List Xt} (h:unl ts=(k,v,t)::R):kOf ts=k/\vOf ts=v/\tOf ts=t/\unl ts.tail=R/\(∀ u,isT u ts=((k==3||k==4)&&t==u)) /\ ∀ lo hi,opIn lo hi ts=(if k=4/\lo<=opOf t/\opOf t<=hi then opOf t else 0):=by
 cases ts with
 | nil=>cases h
 | cons x r =>
  unfold unl at h
  rw [List.map_cons] at h
  injection h with h1 h2
  injection h1 with h1 h3
  injection h3 with h3 h4
  subst h1 h3 h4
  exact⟨rfl,rfl,rfl,h2,fun u=>rfl,fun lo hi=>rfl⟩
def endL:List Bt:=[[41],[93],[44],[59],[123]]
def stE (R:List Xt):Prop := ∃ t R',R=sgX t::R'/\t∈endL
def opdL:List Bt:=[[41],[93],[44],[59],[123],[38,38],[124,124],[43],[45],[42],[47],[37],[60],[60,61],[61,61],[33,61]]
def stO (R:List Xt):Prop := ∃ t R',R=sgX t::R'/\t∈opdL
theorem stE.o {R:List Xt} (h:stE R):stO R:=by
 obtain⟨t,R',e,h⟩:=h
 refine⟨t,R',e,?_⟩
 simp only [endL,List.mem_cons,List.not_mem_nil,or_false] at h
 rcases h with rfl | rfl | rfl | rfl | rfl <;> decide
theorem stO.no {R:List Xt} (h:stO R) {ts:List Tk} (e:unl ts=R):isT [40] ts=false/\isT [91] ts=false:=by
 obtain⟨t,R',rfl,h⟩:=h
 obtain⟨_,_,_,_,h5,_⟩:=unl_cons e
 rw [h5,h5]
 simp only [opdL,List.mem_cons,List.not_mem_nil,or_false] at h
 rcases h with rfl | rfl | rfl | rfl | rfl | rfl | rfl | rfl | rfl | rfl | rfl | rfl | rfl | rfl | rfl | rfl <;> decide
theorem stE.no {R:List Xt} (h:stE R) {ts:List Tk} (e:unl ts=R):opIn 5 7 ts=0/\opIn 3 4 ts=0/\opIn 8 11 ts=0/\isT [38,38] ts=false/\isT [124,124] ts=false:=by
 obtain⟨t,R',rfl,h⟩:=h
 obtain⟨_,_,_,_,h5,h6⟩:=unl_cons e
 rw [h5,h5,h6,h6,h6]
 simp only [endL,List.mem_cons,List.not_mem_nil,or_false] at h
 rcases h with rfl | rfl | rfl | rfl | rfl <;> exact⟨by decide,by decide,by decide,by decide,by decide⟩
theorem Ps.up_te {ts r:List Tk} {F:Fo} (h:Ps .un ts (.ok F r)) (h1:opIn 5 7 r=0):Ps .te ts (.ok F r):=Ps.te_ok h (Ps.teL_end h1)
theorem Ps.up_su {ts r:List Tk} {F:Fo} (h:Ps .te ts (.ok F r)) (h1:opIn 3 4 r=0):Ps .su ts (.ok F r):=Ps.su_ok h (Ps.suL_end h1)
theorem Ps.up_ex {ts r:List Tk} {F:Fo} (h:Ps .cm ts (.ok F r)) (h1:isT [38,38] r=false) (h2:isT [124,124] r=false):Ps .ex ts (.ok F r):=Ps.ex_ok (Ps.an_ok h (Ps.anL_end h1)) (Ps.exL_end h2)
theorem Ps.up_all {ts r:List Tk} {F:Fo} {R:List Xt} (h:Ps .un ts (.ok F r)) (he:unl r=R) (hs:stE R):Ps .ex ts (.ok F r):=by
 obtain⟨h1,h2,h3,h4,h5⟩:=hs.no he
 exact Ps.up_ex (Ps.cm_end (Ps.up_su (Ps.up_te h h1) h2) h3) h4 h5
def PaE (h:Hd) (ar:Fo):Prop :=
 (∀ ts R,unl ts=tokE h ar++R->isT [41] ts=false/\isT [125] ts=false) /\
 (∀ ts R,unl ts=tokE h ar++R->stE R -> ∃ F r,Ps .ex ts (.ok F r)/\unl r=R/\eqF false F (one1 h ar)=true) /\
 (cmpd h=false -> ∀ ts R,unl ts=tokE h ar++R->isT [45] ts=false/\isT [33] ts=false/\((∀ (r:List Tk),unl r=R->isT [91] r=false) ->
  ∃ F r,unl r=R/\eqF false F (one1 h ar)=true /\ ∀ z,Ps (.caL (h.k==13) F) r z->Ps .ca ts z))
theorem PaE.opr {h:Hd} {ar:Fo} (k:PaE h ar) {ts:List Tk} {R:List Xt} (e:unl ts=opdX h (tokE h ar)++R) (hs : ∀ r:List Tk,unl r=R->isT [40] r=false/\isT [91] r=false) :
  ∃ F r,Ps .un ts (.ok F r)/\unl r=R/\eqF false F (one1 h ar)=true:=by
 unfold opdX at e
 by_cases hc:cmpd h=true
 ·rw [if_pos hc] at e
  unfold parX at e
  simp only [List.cons_append,List.append_assoc,List.nil_append] at e
  obtain⟨a1,a2,a3,a4,a5,a6⟩:=unl_cons e
  obtain⟨F,r,p1,p2,p3⟩:=k.2.1 _ _ a4 ⟨[41],R,rfl,by decide⟩
  obtain⟨b1,b2,b3,b4,b5,b6⟩:=unl_cons p2
  refine⟨F,r.tail,?_,b4,p3⟩
  have hp:Ps .pr ts (.ok F r.tail):=Ps.pr_par (by rw [a5];decide) p1 (by rw [b5];decide)
  exact Ps.un_ca (by rw [a5];decide) (by rw [a5];decide) (Ps.ca_ok (p:=false) hp (by rw [a1];rfl) (Ps.caL_end (hs _ b4).1))
 ·rw [if_neg hc] at e
  obtain⟨h1,h2,h3⟩:=k.2.2 (by simpa using hc) _ _ e
  obtain⟨F,r,q1,q2,q3⟩:=h3 (fun r hr=>(hs r hr).2)
  exact⟨F,r,Ps.un_ca h1 h2 (q3 _ (Ps.caL_end (hs _ q1).1)),q1,q2⟩
theorem PaE.hd {h:Hd} {ar:Fo} (k:PaE h ar) (hk:h.k≠13) {ts:List Tk} {R:List Xt} (e:unl ts=opdX h (tokE h ar)++(sgX [40]::R)) :
  isT [45] ts=false/\isT [33] ts=false /\ ∃ F r,unl r=sgX [40]::R/\eqF false F (one1 h ar)=true /\ ∀ z,Ps (.caL false F) r z->Ps .ca ts z:=by
 unfold opdX at e
 by_cases hc:cmpd h=true
 ·rw [if_pos hc] at e
  unfold parX at e
  simp only [List.cons_append,List.append_assoc,List.nil_append] at e
  obtain⟨a1,a2,a3,a4,a5,a6⟩:=unl_cons e
  obtain⟨F,r,p1,p2,p3⟩:=k.2.1 _ _ a4 ⟨[41],_,rfl,by decide⟩
  obtain⟨b1,b2,b3,b4,b5,b6⟩:=unl_cons p2
  refine⟨by rw [a5];decide,by rw [a5];decide,F,r.tail,b4,p3,fun z hz=>?_⟩
  have hp:Ps .pr ts (.ok F r.tail):=Ps.pr_par (by rw [a5];decide) p1 (by rw [b5];decide)
  exact Ps.ca_ok (p:=false) hp (by rw [a1];rfl) hz
 ·rw [if_neg hc] at e
  obtain⟨h1,h2,h3⟩:=k.2.2 (by simpa using hc) _ _ e
  obtain⟨F,r,q1,q2,q3⟩:=h3 (fun r hr=>by obtain⟨_,_,_,_,h5,_⟩:=unl_cons hr;rw [h5];decide)
  refine⟨h1,h2,F,r,q1,q2,fun z hz=>q3 z ?_⟩
  rw [show (h.k==13)=false by simpa using hk]
  exact hz
def tlX:List (List Xt)->List Xt
 | []=>[]
 | s::r=>sgX [44]::(s++tlX r)
theorem commX_cons (s:List Xt) (l:List (List Xt)):commX (s::l)=s++tlX l:=by
 induction l generalizing s with
 | nil=>simp [commX,tlX]
 | cons a l ih =>
  show s++(sgX [44]::commX (a::l))=_
  rw [ih a]
  rfl
theorem PaE.agN (F:Fo) (hF : ∀ j x,F.get j=some x->PaE x.1 x.2) : ∀ ts R (acc:Fo),unl ts=tlX ((toks F).map (·.2))++(sgX [41]::R) -> ∃ G r,Ps (.ag false acc) ts (.ok (acc.app G) r)/\unl r=R/\eqF false G F=true:=by
 induction F with
 | nil =>
  intro ts R acc e
  obtain⟨a1,a2,a3,a4,a5,a6⟩:=unl_cons (show unl ts=sgX [41]::R from e)
  exact⟨.nil,ts.tail,by rw [Fo.app_nil3];exact Ps.ag_end (by rw [a5];decide),a4,rfl⟩
 | cons h ar F _ ih =>
  intro ts R acc e
  have e:unl ts=sgX [44]::(tokE h ar++(tlX ((toks F).map (·.2))++(sgX [41]::R))):=by
   rw [e]
   show (sgX [44]::(tokE h ar++tlX ((toks F).map (·.2))))++_=_
   simp
  obtain⟨a1,a2,a3,a4,a5,a6⟩:=unl_cons e
  obtain⟨G,r,p1,p2,p3⟩:=(hF 0 (h,ar) rfl).2.1 _ _ a4 (by
   cases F with
   | nil=>exact⟨[41],R,rfl,by decide⟩
   | cons h2 a2 F2=>exact⟨[44],_,rfl,by decide⟩)
  obtain⟨G2,r2,q1,q2,q3⟩:=ih (fun j x hj=>hF (j+1) x hj) r R (acc.app G) p2
  refine⟨G.app G2,r2,?_,q2,?_⟩
  ·rw [<- Fo.app_asc]
   exact Ps.ag_next (by rw [a5];decide) (by rw [a5];decide) p1 q1
  ·exact eqF_app (F':=one1 h ar) p3 q3
theorem PaE.ags (F:Fo) (hF : ∀ j x,F.get j=some x->PaE x.1 x.2) {ts:List Tk} {R:List Xt} (e:unl ts=commX ((toks F).map (·.2))++(sgX [41]::R)) : ∃ G r,Ps (.ag true .nil) ts (.ok G r)/\unl r=R/\eqF false G F=true:=by
 cases F with
 | nil =>
  obtain⟨a1,a2,a3,a4,a5,a6⟩:=unl_cons (show unl ts=sgX [41]::R from e)
  exact⟨.nil,ts.tail,Ps.ag_end (by rw [a5];decide),a4,rfl⟩
 | cons h ar F =>
  have e:unl ts=tokE h ar++(tlX ((toks F).map (·.2))++(sgX [41]::R)):=by
   rw [e]
   show commX (tokE h ar::(toks F).map (·.2))++_=_
   rw [commX_cons]
   simp
  have k:=hF 0 (h,ar) rfl
  obtain⟨G,r,p1,p2,p3⟩:=k.2.1 _ _ e (by
   cases F with
   | nil=>exact⟨[41],R,rfl,by decide⟩
   | cons h2 a2 F2=>exact⟨[44],_,rfl,by decide⟩)
  obtain⟨G2,r2,q1,q2,q3⟩:=PaE.agN F (fun j x hj=>hF (j+1) x hj) r R G p2
  exact⟨G.app G2,r2,Ps.ag_first (k.1 _ _ e).1 p1 q1,q2,eqF_app (F':=one1 h ar) p3 q3⟩
theorem PaE.lst (F:Fo) (hF : ∀ j x,F.get j=some x->PaE x.1 x.2) {ts:List Tk} {R:List Xt} (e:unl ts=listX ((toks F).map (·.2))++R):isT [40] ts=true /\ ∃ G r,Ps (.ag true .nil) ts.tail (.ok G r)/\unl r=R/\eqF false G F=true:=by
 unfold listX parX at e
 simp only [List.cons_append,List.append_assoc,List.nil_append] at e
 obtain⟨a1,a2,a3,a4,a5,a6⟩:=unl_cons e
 exact⟨by rw [a5];decide,PaE.ags F hF a4⟩
theorem bin_ok {op:Int} (h3:3<=op) (h11:op<=11) {ts r r2:List Tk} {A B:Fo} {R R2:List Xt} (hA:Ps .un ts (.ok A r)) (hr:unl r=sgX (sgn op)::R) (hB:Ps .un r.tail (.ok B r2)) (hr2:unl r2=R2) (hs:stE R2) :
  ∃ ln,Ps .ex ts (.ok (nd 6 op 0 ln [] (A.app B)) r2):=by
 obtain⟨n1,n2,n3,n4,n5⟩:=hs.no hr2
 obtain⟨a1,a2,a3,a4,a5,a6⟩:=unl_cons hr
 have hc:op=3\/op=4\/op=5\/op=6\/op=7\/op=8\/op=9\/op=10\/op=11:=by omega
 refine⟨lnOf r,?_⟩
 have add:(op=3\/op=4)->Ps .ex ts (.ok (nd 6 op 0 (lnOf r) [] (A.app B)) r2):=fun h=>by
  have e34:opIn 3 4 r=op:=by rw [a6];rcases h with rfl | rfl <;> decide
  have e57:opIn 5 7 r=0:=by rw [a6];rcases h with rfl | rfl <;> decide
  refine Ps.up_ex (Ps.cm_end (Ps.su_ok (Ps.up_te hA e57) (Ps.suL_ok (by rw [e34];omega) (Ps.up_te hB n1) ?_)) n3) n4 n5
  rw [e34]
  exact Ps.suL_end n2
 have mul:(op=5\/op=6\/op=7)->Ps .ex ts (.ok (nd 6 op 0 (lnOf r) [] (A.app B)) r2):=fun h=>by
  have e57:opIn 5 7 r=op:=by rw [a6];rcases h with rfl | rfl | rfl <;> decide
  refine Ps.up_ex (Ps.cm_end (Ps.up_su (Ps.te_ok hA (Ps.teL_ok (by rw [e57];omega) hB ?_)) n2) n3) n4 n5
  rw [e57]
  exact Ps.teL_end n1
 have cmp:(op=8\/op=9\/op=10\/op=11)->Ps .ex ts (.ok (nd 6 op 0 (lnOf r) [] (A.app B)) r2):=fun h=>by
  have e34:opIn 3 4 r=0:=by rw [a6];rcases h with rfl | rfl | rfl | rfl <;> decide
  have e57:opIn 5 7 r=0:=by rw [a6];rcases h with rfl | rfl | rfl | rfl <;> decide
  have e811:opIn 8 11 r=op:=by rw [a6];rcases h with rfl | rfl | rfl | rfl <;> decide
  have:=Ps.cm_two (Ps.up_su (Ps.up_te hA e57) e34) (by rw [e811];omega) (Ps.up_su (Ps.up_te hB n1) n2)
  rw [e811] at this
  exact Ps.up_ex this n4 n5
 rcases hc with h | h | h | h | h | h | h | h | h
 ·exact add (.inl h)
 ·exact add (.inr h)
 ·exact mul (.inl h)
 ·exact mul (.inr (.inl h))
 ·exact mul (.inr (.inr h))
 ·exact cmp (.inl h)
 ·exact cmp (.inr (.inl h))
 ·exact cmp (.inr (.inr (.inl h)))
 ·exact cmp (.inr (.inr (.inr h)))
theorem sgn_opd {op:Int} (h3:3<=op) (h11:op<=11):sgn op∈opdL:=by
 have hc:op=3\/op=4\/op=5\/op=6\/op=7\/op=8\/op=9\/op=10\/op=11:=by omega
 rcases hc with rfl | rfl | rfl | rfl | rfl | rfl | rfl | rfl | rfl <;> decide
theorem PaE.atom {h:Hd} {ar:Fo} (hc:cmpd h=false)
  (k1 : ∀ ts R,unl ts=tokE h ar++R->isT [41] ts=false/\isT [125] ts=false/\isT [45] ts=false/\isT [33] ts=false/\((∀ (r:List Tk),unl r=R->isT [91] r=false) -> ∃ F r,unl r=R/\eqF false F (one1 h ar)=true /\ ∀ z,Ps (.caL (h.k==13) F) r z->Ps .ca ts z)):PaE h ar:=by
 refine⟨fun ts R e=>⟨(k1 ts R e).1,(k1 ts R e).2.1⟩,fun ts R e hs=>?_,fun _ ts R e=>(k1 ts R e).2.2⟩
 obtain⟨_,_,h1,h2,h3⟩:=k1 ts R e
 obtain⟨F,r,q1,q2,q3⟩:=h3 (fun r hr=>(hs.o.no hr).2)
 exact⟨F,r,Ps.up_all (Ps.un_ca h1 h2 (q3 _ (Ps.caL_end (hs.o.no q1).1))) q1 hs,q1,q2⟩
theorem PaE.prim {h:Hd} {ar:Fo} (hc:cmpd h=false) (hk:(h.k==13)=true -> ∀ ts R,unl ts=tokE h ar++R->kOf ts=1)
  (k1 : ∀ ts R,unl ts=tokE h ar++R->isT [41] ts=false/\isT [125] ts=false/\isT [45] ts=false/\isT [33] ts=false/\((∀ (r:List Tk),unl r=R->isT [91] r=false) -> ∃ F r,unl r=R/\eqF false F (one1 h ar)=true/\Ps .pr ts (.ok F r))):PaE h ar:=by
 refine PaE.atom hc fun ts R e=>?_
 obtain⟨h1,h2,h3,h4,h5⟩:=k1 ts R e
 refine⟨h1,h2,h3,h4,fun hb=>?_⟩
 obtain⟨F,r,q1,q2,q3⟩:=h5 hb
 refine⟨F,r,q1,q2,fun z hz=>Ps.ca_ok (p:=(h.k==13)) q3 ?_ hz⟩
 obtain⟨h',ar',rfl,e1,_⟩:=eqF_one q2
 show (h.k==13)=(kOf ts==1&&h'.k==13)
 rw [e1]
 cases hh:(h.k==13) with
 | false=>simp
 | true=>rw [hk hh ts R e];rfl
theorem PaE.one (h:Hd) (ar:Fo) (hok:okH h ar) (hF : ∀ j x,ar.get j=some x->PaE x.1 x.2):PaE h ar:=by
 rcases hok with⟨hop,hv,k⟩ | ⟨hop,k,hnm,k0,k1,rfl⟩ | ⟨hv,hnm,k⟩
 ·rcases k with⟨k,hn,rfl⟩ | ⟨k,hnm,rfl⟩ | ⟨k,hn,rfl⟩ | ⟨k,hn,hl⟩ | ⟨k,hnm,hl⟩ | ⟨k,hn,hl⟩ | ⟨k,hnm,g,bs,r0,rfl,hg,hr⟩
  ·have e2:tokE h .nil=[nmX h.nm]:=by show tok1 h _=_;unfold tok1;simp [k]
   refine PaE.prim (by simp [cmpd,k]) (fun _ ts R e=>?_) (fun ts R e=>?_)
   ·rw [e2] at e;exact(unl_cons e).1
   ·rw [e2] at e
    obtain⟨a1,a2,a3,a4,a5,a6⟩:=unl_cons e
    refine⟨by rw [a5];rfl,by rw [a5];rfl,by rw [a5];rfl,by rw [a5];rfl,fun hb=>⟨_,ts.tail,a4,?_,Ps.pr_name a1 (hb _ a4)⟩⟩
    exact eqF_mk (by simp [k]) (by simp [hop]) (by simp [hv]) (by simp [a3]) rfl
  ·have e2:tokE h .nil=[wdX [114,101,97,100]]:=by show tok1 h _=_;unfold tok1;simp [k]
   refine PaE.prim (by simp [cmpd,k]) (fun hh=>by simp [k] at hh) (fun ts R e=>?_)
   rw [e2] at e
   obtain⟨a1,a2,a3,a4,a5,a6⟩:=unl_cons e
   refine⟨by rw [a5];rfl,by rw [a5];rfl,by rw [a5];rfl,by rw [a5];rfl,fun hb=>⟨_,ts.tail,a4,?_,Ps.pr_read (by rw [a5];rfl)⟩⟩
   exact eqF_mk (by simp [k]) (by simp [hop]) (by simp [hv]) (by simp [hnm]) rfl
  ·have e2:tokE h .nil=[sgX [38],nmX h.nm]:=by show tok1 h _=_;unfold tok1;simp [k]
   refine PaE.prim (by simp [cmpd,k]) (fun hh=>by simp [k] at hh) (fun ts R e=>?_)
   rw [e2] at e
   obtain⟨a1,a2,a3,a4,a5,a6⟩:=unl_cons e
   obtain⟨b1,b2,b3,b4,b5,b6⟩:=unl_cons a4
   refine⟨by rw [a5];rfl,by rw [a5];rfl,by rw [a5];rfl,by rw [a5];rfl,fun hb=>⟨_,ts.tail.tail,b4,?_,Ps.pr_func (by rw [a5];rfl) b1⟩⟩
   exact eqF_mk (by simp [k]) (by simp [hop]) (by simp [hv]) (by simp [b3]) rfl
  ·obtain⟨x,hx0,f1,t1⟩:=Fo.one hl
   have e2:tokE h ar=nmX h.nm::sgX [91]::(tokE x.1 x.2++[sgX [93]]):=by show tok1 h _=_;rw [t1];unfold tok1;simp [k]
   refine PaE.prim (by simp [cmpd,k]) (fun hh=>by simp [k] at hh) (fun ts R e=>?_)
   rw [e2] at e
   simp only [List.cons_append,List.append_assoc,List.nil_append] at e
   obtain⟨a1,a2,a3,a4,a5,a6⟩:=unl_cons e
   obtain⟨b1,b2,b3,b4,b5,b6⟩:=unl_cons a4
   obtain⟨F,r,p1,p2,p3⟩:=(hF 0 x hx0).2.1 _ _ b4 ⟨[93],R,rfl,by decide⟩
   obtain⟨c1,c2,c3,c4,c5,c6⟩:=unl_cons p2
   refine⟨by rw [a5];rfl,by rw [a5];rfl,by rw [a5];rfl,by rw [a5];rfl,fun hb=>⟨_,r.tail,c4,?_,Ps.pr_el a1 (by rw [b5];rfl) p1 (by rw [c5];rfl)⟩⟩
   refine eqF_mk (by simp [k]) (by simp [hop]) (by simp [hv]) (by simp [a3]) ?_
   cases ar with
   | nil=>cases hx0
   | cons h2 a2 r2 =>
    injection hx0 with hx0
    subst hx0
    cases r2 with
    | nil=>exact p3
    | cons _ _ _=>simp [Fo.len] at hl
  ·obtain⟨x,y,hx0,hy0,f1,t1⟩:=Fo.two hl
   have hab:ar=(one1 x.1 x.2).app (one1 y.1 y.2):=by
    cases ar with
    | nil=>cases hx0
    | cons h2 a2 r2 =>
     cases r2 with
     | nil=>cases hy0
     | cons h3 a3 r3 =>
      injection hx0 with hx0
      injection hy0 with hy0
      subst hx0 hy0
      cases r3 with
      | nil=>rfl
      | cons _ _ _=>simp [Fo.len] at hl
   have hx:=hF 0 x hx0
   have hy:=hF 1 y hy0
   have key : ∀ (s:Bt),s∈opdL->tokE h ar=opdX x.1 (tokE x.1 x.2)++(sgX s::opdX y.1 (tokE y.1 y.2))->(∀ ts r r2 A B,Ps .un ts (.ok A r)->isT s r=true->opIn 5 7 r=0->opIn 3 4 r=0->opIn 8 11 r=0->(s=[124,124]->isT [38,38] r=false)->Ps .cm r.tail (.ok B r2)->isT [38,38] r2=false->isT [124,124] r2=false -> ∃ ln,Ps .ex ts (.ok (nd h.k 0 0 ln [] (A.app B)) r2))->(s=[38,38]\/s=[124,124])->PaE h ar:=by
    intro s hs e2 hkey hss
    refine⟨fun ts R e=>?_,fun ts R e hst=>?_,fun hcc=>?_⟩
    ·rw [e2] at e
     unfold opdX at e
     by_cases hcx:cmpd x.1=true
     ·rw [if_pos hcx] at e
      obtain⟨_,_,_,_,a5,_⟩:=unl_cons (show unl ts=sgX [40]::_ from e)
      exact⟨by rw [a5];rfl,by rw [a5];rfl⟩
     ·rw [if_neg hcx,List.append_assoc] at e
      exact hx.1 _ _ e
    ·rw [e2,List.append_assoc,List.cons_append] at e
     have hsO:stO (sgX s::(opdX y.1 (tokE y.1 y.2)++R)):=⟨s,_,rfl,hs⟩
     obtain⟨A,r,p1,p2,p3⟩:=hx.opr e (fun r hr=>hsO.no hr)
     obtain⟨a1,a2,a3,a4,a5,a6⟩:=unl_cons p2
     obtain⟨B,r2,q1,q2,q3⟩:=hy.opr a4 (fun r hr=>hst.o.no hr)
     obtain⟨n1,n2,n3,n4,n5⟩:=hst.no q2
     obtain⟨ln,hln⟩:=hkey ts r r2 A B p1 (by rw [a5];rcases hss with rfl | rfl <;> rfl) (by rw [a6];rcases hss with rfl | rfl <;> decide) (by rw [a6];rcases hss with rfl | rfl <;> decide) (by rw [a6];rcases hss with rfl | rfl <;> decide) (fun e3=>by rw [a5,e3];rfl) (Ps.cm_end (Ps.up_su (Ps.up_te q1 n1) n2) n3) n4 n5
     refine⟨_,r2,hln,q2,eqF_mk rfl (by simp [hop]) (by simp [hv]) (by simp [hnm]) ?_⟩
     rw [hab]
     exact eqF_app p3 q3
    ·rcases k with k | k <;> simp [cmpd,k] at hcc
   rcases k with k | k
   ·refine key [38,38] (by decide) (by show tok1 h _=_;rw [t1];unfold tok1;simp [k]) (fun ts r r2 A B hA hi h57 h34 h811 _ hB n4 n5=>⟨lnOf r,?_⟩) (.inl rfl)
    rw [k]
    exact Ps.ex_ok (Ps.an_ok (Ps.cm_end (Ps.up_su (Ps.up_te hA h57) h34) h811) (Ps.anL_ok hi hB (Ps.anL_end n4))) (Ps.exL_end n5)
   ·refine key [124,124] (by decide) (by show tok1 h _=_;rw [t1];unfold tok1;simp [k]) (fun ts r r2 A B hA hi h57 h34 h811 hno hB n4 n5=>⟨lnOf r,?_⟩) (.inr rfl)
    rw [k]
    exact Ps.ex_ok (Ps.an_ok (Ps.cm_end (Ps.up_su (Ps.up_te hA h57) h34) h811) (Ps.anL_end (hno rfl))) (Ps.exL_ok hi (Ps.an_ok hB (Ps.anL_end n4)) (Ps.exL_end n5))
  ·have e2:tokE h ar=nmX h.nm::listX ((toks ar).map (·.2)):=by show tok1 h _=_;unfold tok1;simp [k]
   refine PaE.atom (by simp [cmpd,k]) (fun ts R e=>?_)
   rw [e2,List.cons_append] at e
   obtain⟨a1,a2,a3,a4,a5,a6⟩:=unl_cons e
   obtain⟨b1,G,r,b2,b3,b4⟩:=PaE.lst ar hF a4
   refine⟨by rw [a5];rfl,by rw [a5];rfl,by rw [a5];rfl,by rw [a5];rfl,fun hb=>⟨nd 9 0 0 (lnOf ts.tail) h.nm G,r,b3,eqF_mk (by simp [k]) (by simp [hop]) (by simp [hv]) rfl b4,fun z hz=>?_⟩⟩
   rw [show (h.k==13)=false by simp [k]] at hz
   refine Ps.ca_ok (p:=true) (Ps.pr_name a1 (isT_ne b1 (by decide))) (by rw [a1];rfl) (Ps.caL_call b1 b2 ?_)
   show Ps (.caL false (nd 9 0 0 _ (tOf ts) G)) r z
   rw [a3]
   exact hz
  ·have h0:=hF 0 (g,bs) rfl
   have hks:(g.k=13\/g.k=2\/g.k=3)->False\/(g.k=2\/g.k=3):=fun h=>by rcases h with h | h;exact absurd h hg;exact .inr h
   have key : ∀ ts R,unl ts=tokE h (.cons g bs r0)++R -> ∃ X,(X=opdX g (tokE g bs)\/X=parX (opdX g (tokE g bs)))/\unl ts=X++(listX ((toks r0).map (·.2))++R):=fun ts R e=>by
    by_cases hk2:g.k=13\/g.k=2\/g.k=3
    ·have e2:tokE h (.cons g bs r0)=parX (opdX g (tokE g bs))++listX ((toks r0).map (·.2)):=by show tok1 h ((g,tokE g bs)::toks r0)=_;unfold tok1;simp [k,hk2]
     exact⟨_,.inr rfl,by rw [e,e2,List.append_assoc]⟩
    ·have e2:tokE h (.cons g bs r0)=opdX g (tokE g bs)++listX ((toks r0).map (·.2)):=by show tok1 h ((g,tokE g bs)::toks r0)=_;unfold tok1;simp [k,hk2]
     exact⟨_,.inl rfl,by rw [e,e2,List.append_assoc]⟩
   refine PaE.atom (by simp [cmpd,k]) (fun ts R e=>?_)
   obtain⟨X,hX,e3⟩:=key ts R e
   have hlst:listX ((toks r0).map (·.2))++R=sgX [40]::(commX ((toks r0).map (·.2))++(sgX [41]::R)):=by simp [listX,parX]
   have fin : ∀ (F:Fo) (r:List Tk),unl r=listX ((toks r0).map (·.2))++R->eqF false F (one1 g bs)=true->(∀ z,Ps (.caL false F) r z->Ps .ca ts z) -> ∃ F r,unl r=R/\eqF false F (one1 h (.cons g bs r0))=true /\ ∀ z,Ps (.caL (h.k==13) F) r z->Ps .ca ts z:=fun F r hr hF2 hz=>by
    obtain⟨b1,G,r2,b2,b3,b4⟩:=PaE.lst r0 (fun j y hy=>hF (j+1) y hy) hr
    refine⟨nd 10 0 0 (lnOf r) [] (F.app G),r2,b3,eqF_mk (by simp [k]) (by simp [hop]) (by simp [hv]) (by simp [hnm]) ?_,fun z k2=>hz z (Ps.caL_value b1 b2 ?_)⟩
    ·exact eqF_app (F':=one1 g bs) hF2 b4
    ·rw [show (h.k==13)=false by simp [k]] at k2
     exact k2
   rcases hX with rfl | rfl
   ·rw [hlst] at e3
    obtain⟨h1,h2,F,r,q1,q2,q3⟩:=h0.hd hg e3
    have h12:isT [41] ts=false/\isT [125] ts=false:=by
     unfold opdX at e3
     by_cases hcx:cmpd g=true
     ·rw [if_pos hcx] at e3
      obtain⟨_,_,_,_,a5,_⟩:=unl_cons (show unl ts=sgX [40]::_ from e3)
      exact⟨by rw [a5];rfl,by rw [a5];rfl⟩
     ·rw [if_neg hcx] at e3
      exact h0.1 _ _ e3
    exact⟨h12.1,h12.2,h1,h2,fun _=>fin F r (by rw [q1,hlst]) q2 q3⟩
   ·unfold parX at e3
    simp only [List.cons_append,List.append_assoc,List.nil_append] at e3
    obtain⟨a1,a2,a3,a4,a5,a6⟩:=unl_cons e3
    have hsE:stE (sgX [41]::(listX ((toks r0).map (·.2))++R)):=⟨[41],_,rfl,by decide⟩
    obtain⟨F,r,p1,p2,p3⟩:=h0.opr a4 (fun r hr=>hsE.o.no hr)
    obtain⟨b1,b2,b3,b4,b5,b6⟩:=unl_cons p2
    have hp:Ps .pr ts (.ok F r.tail):=Ps.pr_par (by rw [a5];rfl) (Ps.up_all p1 p2 hsE) (by rw [b5];rfl)
    exact⟨by rw [a5];rfl,by rw [a5];rfl,by rw [a5];rfl,by rw [a5];rfl,fun _=>fin F r.tail b4 p3 (fun z hz=>Ps.ca_ok (p:=false) hp (by rw [a1];rfl) hz)⟩
 ·have e2:tokE h .nil=[(2,h.v,Lib.decDigits h.v.toNat)]:=by show tok1 h _=_;unfold tok1;simp [k]
  refine PaE.prim (by simp [cmpd,k]) (fun hh=>by simp [k] at hh) (fun ts R e=>?_)
  rw [e2] at e
  obtain⟨a1,a2,a3,a4,a5,a6⟩:=unl_cons e
  refine⟨by rw [a5];rfl,by rw [a5];rfl,by rw [a5];rfl,by rw [a5];rfl,fun hb=>⟨_,ts.tail,a4,?_,Ps.pr_num a1⟩⟩
  exact eqF_mk (by simp [k]) (by simp [hop]) (by simp [a2]) (by simp [hnm]) rfl
 ·rcases k with⟨k,o1,o2,hl⟩ | ⟨k,o1,o2,hl⟩
  ·obtain⟨x,hx0,f1,t1⟩:=Fo.one hl
   have hab:ar=one1 x.1 x.2:=by
    cases ar with
    | nil=>cases hx0
    | cons h2 a2 r2 =>
     injection hx0 with hx0
     subst hx0
     cases r2 with
     | nil=>rfl
     | cons _ _ _=>simp [Fo.len] at hl
   have e2:tokE h ar=sgX (sgn h.op)::opdX x.1 (tokE x.1 x.2):=by show tok1 h _=_;rw [t1];unfold tok1;simp [k]
   have hx:=hF 0 x hx0
   refine⟨fun ts R e=>?_,fun ts R e hst=>?_,fun hcc=>by simp [cmpd,k] at hcc⟩
   ·rw [e2] at e
    obtain⟨a1,a2,a3,a4,a5,a6⟩:=unl_cons e
    have:h.op=1\/h.op=2:=by omega
    rw [a5,a5]
    rcases this with e3 | e3 <;> rw [e3] <;> exact⟨rfl,rfl⟩
   ·rw [e2,List.cons_append] at e
    obtain⟨a1,a2,a3,a4,a5,a6⟩:=unl_cons e
    obtain⟨A,r,p1,p2,p3⟩:=hx.opr a4 (fun r hr=>hst.o.no hr)
    have:h.op=1\/h.op=2:=by omega
    rcases this with e3 | e3
    ·refine⟨_,r,Ps.up_all (Ps.un_neg (by rw [a5,e3];rfl) p1) p2 hst,p2,eqF_mk (by simp [k]) (by simp [e3]) (by simp [hv]) (by simp [hnm]) ?_⟩
     rw [hab];exact p3
    ·refine⟨_,r,Ps.up_all (Ps.un_not (by rw [a5,e3];rfl) (by rw [a5,e3];rfl) p1) p2 hst,p2,eqF_mk (by simp [k]) (by simp [e3]) (by simp [hv]) (by simp [hnm]) ?_⟩
     rw [hab];exact p3
  ·obtain⟨x,y,hx0,hy0,f1,t1⟩:=Fo.two hl
   have hab:ar=(one1 x.1 x.2).app (one1 y.1 y.2):=by
    cases ar with
    | nil=>cases hx0
    | cons h2 a2 r2 =>
     cases r2 with
     | nil=>cases hy0
     | cons h3 a3 r3 =>
      injection hx0 with hx0
      injection hy0 with hy0
      subst hx0 hy0
      cases r3 with
      | nil=>rfl
      | cons _ _ _=>simp [Fo.len] at hl
   have e2:tokE h ar=opdX x.1 (tokE x.1 x.2)++(sgX (sgn h.op)::opdX y.1 (tokE y.1 y.2)):=by show tok1 h _=_;rw [t1];unfold tok1;simp [k]
   have hx:=hF 0 x hx0
   have hy:=hF 1 y hy0
   refine⟨fun ts R e=>?_,fun ts R e hst=>?_,fun hcc=>by simp [cmpd,k] at hcc⟩
   ·rw [e2] at e
    unfold opdX at e
    by_cases hcx:cmpd x.1=true
    ·rw [if_pos hcx] at e
     obtain⟨_,_,_,_,a5,_⟩:=unl_cons (show unl ts=sgX [40]::_ from e)
     exact⟨by rw [a5];rfl,by rw [a5];rfl⟩
    ·rw [if_neg hcx,List.append_assoc] at e
     exact hx.1 _ _ e
   ·rw [e2,List.append_assoc,List.cons_append] at e
    have hsO:stO (sgX (sgn h.op)::(opdX y.1 (tokE y.1 y.2)++R)):=⟨_,_,rfl,sgn_opd o1 o2⟩
    obtain⟨A,r,p1,p2,p3⟩:=hx.opr e (fun r hr=>hsO.no hr)
    obtain⟨a1,a2,a3,a4,a5,a6⟩:=unl_cons p2
    obtain⟨B,r2,q1,q2,q3⟩:=hy.opr a4 (fun r hr=>hst.o.no hr)
    obtain⟨ln,hln⟩:=bin_ok o1 o2 p1 p2 q1 q2 hst
    refine⟨_,r2,hln,q2,eqF_mk (by simp [k]) rfl (by simp [hv]) (by simp [hnm]) ?_⟩
    rw [hab]
    exact eqF_app p3 q3
theorem PaE.all (F:Fo) (hw:F.wf) : ∀ j x,F.get j=some x->PaE x.1 x.2:=by
 induction F with
 | nil=>intro j x hx;cases hx
 | cons h ar r ih1 ih2 =>
  intro j x hx
  cases j with
  | zero =>
   have e:(h,ar)=x:=by injection hx
   subst e
   exact PaE.one h ar hw.1 (ih1 hw.2.2.1)
  | succ j=>exact ih2 hw.2.2.2 j x hx
end Go.Proofs.YtpcdinelpfbpfaaDoor
