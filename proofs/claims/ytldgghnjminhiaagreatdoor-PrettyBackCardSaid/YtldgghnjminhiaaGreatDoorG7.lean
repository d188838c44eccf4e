/-
  WORDS, PLAIN LAWS and WALKS (Mlf PsP PsT PpE PqP PqZ), pressed. (Filled in from templates of this repo.)
-/
import Derived.Test.YtldgghnjminhiaaGreatDoorG2
import Derived.Test.YtldgghnjminhiaaGreatDoorG6
import Derived.Test.YtldgghnjminhiaaGreatDoorG3
namespace Go.Proofs.YtldgghnjminhiaaGreatDoor
open Go Go.ChangeAt Go.ChangeShapes Go.RowKit Go.WideShapes
set_option linter.unusedVariables false
set_option linter.unusedSimpArgs false
set_option maxRecDepth 100000
set_option maxHeartbeats 16000000
def okM (nm:Bt):Prop:=∃ b r,nm=b::r/\lt8 b=true/\(∀ c∈r,in8 c=true)/\isW nm=false/\nm.length<=32
theorem okN.m {nm:Bt} (h:okN nm):okM nm:=by
 obtain⟨b,r,h1,h2,h3,h4,h5⟩:=h
 exact⟨b,r,h1,h2,h3,h4,by omega⟩
def okG (h:Hd) (ar:Fo):Prop :=
 h.op=0/\h.v=0/\((h.k=13/\okM h.nm/\ar=.nil)\/(h.k=12/\h.nm=[]/\ar=.nil)\/(h.k=11/\okM h.nm/\ar=.nil)\/(h.k=4/\okM h.nm/\ar.len=1) \/
  ((h.k=7\/h.k=8)/\h.nm=[]/\ar.len=2)\/(h.k=9/\okM h.nm)\/(h.k=10/\h.nm=[]/\∃ g bs r,ar=.cons g bs r)) \/
 (h.op=0/\h.k=1/\h.nm=[]/\0<=h.v/\h.v<=9223372036854775807/\ar=.nil) \/
 (h.v=0/\h.nm=[]/\((h.k=5/\1<=h.op/\h.op<=2/\ar.len=1)\/(h.k=6/\3<=h.op/\h.op<=11/\ar.len=2)))
theorem okH.g {h:Hd} {ar:Fo} (k:okH h ar):okG h ar:=by
 rcases k with⟨h1,h2,k⟩|k|k
 ·refine .inl ⟨h1,h2,?_⟩
  rcases k with⟨k,hn,e⟩|k|⟨k,hn,e⟩|⟨k,hn,e⟩|k|⟨k,hn,_⟩|⟨k,hn,g,bs,r,e,_⟩
  ·exact .inl ⟨k,hn.m,e⟩
  ·exact .inr (.inl k)
  ·exact .inr (.inr (.inl ⟨k,hn.m,e⟩))
  ·exact .inr (.inr (.inr (.inl ⟨k,hn.m,e⟩)))
  ·exact .inr (.inr (.inr (.inr (.inl k))))
  ·exact .inr (.inr (.inr (.inr (.inr (.inl ⟨k,hn.m⟩)))))
  exact .inr (.inr (.inr (.inr (.inr (.inr ⟨k,hn,g,bs,r,e⟩)))))
 ·exact .inr (.inl k)
 exact .inr (.inr k)
def Fo.wg:Fo->Prop
 | .nil=>True
 | .cons h ar r=>okG h ar/\ar.wg/\r.wg
theorem Fo.wf.g {F:Fo} (h:F.wf):F.wg:=by
 induction F with
 | nil=>trivial
 | cons hd ar r ih1 ih2=>exact⟨okH.g h.1,ih1 h.2.2.1,ih2 h.2.2.2⟩
abbrev Xt:=Int×Int×Bt
def Lx (s r:Bt) (ts:List Xt):Prop:=∀ (acc:List Tk) (ln:Int),∃ ys ln2,scF acc s ln=scF (acc++ys) r ln2/\unl ys=ts/\∀ x∈ys,Uf x
theorem Lx.refl (s:Bt):Lx s s []:=λ acc ln=>⟨[],ln,by simp,rfl,by simp⟩
theorem Lx.trans {s m r:Bt} {t1 t2:List Xt} (h:Lx s m t1) (k:Lx m r t2):Lx s r (t1++t2):=λ acc ln=>by
 obtain⟨ys,ln2,h1,h2,h3⟩:=h acc ln
 obtain⟨zs,ln3,k1,k2,k3⟩:=k (acc++ys) ln2
 refine⟨ys++zs,ln3,by rw[h1,k1,List.append_assoc],?_,?_⟩
 ·unfold unl at h2 k2 ⊢
  rw[List.map_append,h2,k2]
 intro x hx
 rw[List.mem_append] at hx
 rcases hx with hx|hx
 ·exact h3 x hx
 exact k3 x hx
theorem Lx.c32 {s r:Bt} {ts:List Xt} (h:Lx s r ts):Lx (32::s) r ts:=λ acc ln=>by rw[Pl];exact h acc ln
theorem Lx.c9 {s r:Bt} {ts:List Xt} (h:Lx s r ts):Lx (9::s) r ts:=λ acc ln=>by rw[xzp];exact h acc ln
theorem Lx.c10 {s r:Bt} {ts:List Xt} (h:Lx s r ts):Lx (10::s) r ts:=λ acc ln=>by rw[Dm];exact h acc (ln+1)
theorem Lx.tabs {s r:Bt} {ts:List Xt} (n:Nat) (h:Lx s r ts):Lx (tabs n++s) r ts:=by
 induction n with
 | zero=>exact h
 | succ n ih=>exact Lx.c9 ih
theorem Lx.tok {b:UInt8} {tt s r:Bt} {k v:Int} {ts:List Xt} (h1:b.toNat≠10) (h2:b.toNat≠32) (h3:b.toNat≠9) (h4:b.toNat≠35) (hn:nxI (b::(tt++s))=(k,v,b::tt,true)) (h:Lx s r ts) :
  Lx (b::(tt++s)) r ((k,v,b::tt)::ts):=λ acc ln=>by
 have hs:=Sv (ln:=ln) h1 h2 h3 h4 hn
 obtain⟨ys,ln2,e1,e2,e3⟩:=h (acc++[⟨k,ln,v,b::tt⟩]) ln
 refine⟨⟨k,ln,v,b::tt⟩::ys,ln2,?_,?_,?_⟩
 ·rw[Dp hs]
  show scF _ ((b::(tt++s)).drop (b::tt).length) ln=_
  rw[<- List.cons_append,List.drop_left,e1]
  simp
 ·unfold unl at e2 ⊢
  rw[List.map_cons,e2]
 intro x hx
 rw[List.mem_cons] at hx
 rcases hx with rfl|hx
 ·exact⟨ln,b,tt++s,hs⟩
 exact e3 x hx
def nb (r:Bt):Prop:=∀ c r2,r=c::r2->in8 c=false
theorem sg_b {b c:UInt8} (h:isS [b,c]=true):b=60\/b=61\/b=33\/b=38\/b=124:=by
 simp[isS,signsL] at h
 rcases h with⟨h,_⟩|⟨h,_⟩|⟨h,_⟩|⟨h,_⟩|⟨h,_⟩<;>simp[h]
theorem Wl {b:UInt8} {s:Bt} (h1:lt8 b=false) (h2:dg8 b=false) (hs:isS [b]=true) (h:∀ c r2,s=c::r2->isS [b,c]=false):nxI (b::s)=(4,0,[b],true):=by
 show (if lt8 b then _ else _)=_
 rw[if_neg (by rw[h1];simp),if_neg (by rw[h2];simp),if_neg]
 ·show (4,0,[b],isS [b])=_
  rw[hs]
 intro ⟨k1,k2⟩
 cases s with
 | nil=>simp at k1
 | cons c r2 =>
  have:=h c r2 rfl
  rw[show List.take 2 (b::c::r2)=[b,c] from rfl,this] at k2
  cases k2
theorem Lx.sg {b:UInt8} {s r:Bt} {ts:List Xt} (hb:b=40\/b=41\/b=123\/b=125\/b=91\/b=93\/b=44\/b=59) (h:Lx s r ts):Lx (b::s) r ((4,0,[b])::ts):=by
 have hn:nxI (b::s)=(4,0,[b],true):=Wl (by rcases hb with rfl|rfl|rfl|rfl|rfl|rfl|rfl|rfl<;>decide) (by rcases hb with rfl|rfl|rfl|rfl|rfl|rfl|rfl|rfl<;>decide) (by rcases hb with rfl|rfl|rfl|rfl|rfl|rfl|rfl|rfl<;>decide) (λ c r2 e=>by
  cases hh:isS [b,c] with
  | false=>rfl
  | true=>exact absurd (sg_b hh) (by rcases hb with rfl|rfl|rfl|rfl|rfl|rfl|rfl|rfl<;>decide))
 exact Lx.tok (tt:=[]) (by rcases hb with rfl|rfl|rfl|rfl|rfl|rfl|rfl|rfl<;>decide) (by rcases hb with rfl|rfl|rfl|rfl|rfl|rfl|rfl|rfl<;>decide) (by rcases hb with rfl|rfl|rfl|rfl|rfl|rfl|rfl|rfl<;>decide) (by rcases hb with rfl|rfl|rfl|rfl|rfl|rfl|rfl|rfl<;>decide) hn h
theorem Lx.sgB {t s r:Bt} {ts:List Xt} (ht:isS t=true) (h:Lx s r ts):Lx (t++(32::s)) r ((4,0,t)::ts):=by
 have hkr:t∈signsL:=by unfold isS at ht;simpa using ht
 have key:∃ b tt,t=b::tt/\b.toNat≠10/\b.toNat≠32/\b.toNat≠9/\b.toNat≠35/\nxI (b::(tt++(32::s)))=(4,0,b::tt,true):=by
  simp only[signsL,List.mem_cons,List.not_mem_nil,or_false] at hkr
  rcases hkr with rfl|rfl|rfl|rfl|rfl|rfl|rfl|rfl|rfl|rfl|rfl|rfl|rfl|rfl|rfl|rfl|rfl|rfl|rfl|rfl|rfl|rfl <;>
   first
   | exact⟨_,[],rfl,by decide,by decide,by decide,by decide,Wl (by decide) (by decide) (by decide) (λ c r2 e=>by injection e with e _;subst e;decide)⟩
   | exact⟨_,[_],rfl,by decide,by decide,by decide,by decide,rfl⟩
 obtain⟨b,tt,rfl,h1,h2,h3,h4,hn⟩:=key
 exact Lx.tok h1 h2 h3 h4 hn (Lx.c32 h)
theorem Sm {b:UInt8} {t s:Bt} (hb:lt8 b=true) (ht:∀ c∈t,in8 c=true) (hl:(b::t).length<=32) (hs:nb s):nxI (b::(t++s))=(if isW (b::t) then 3 else 1,0,b::t,true):=by
 have hin:in8 b=true:=by unfold in8;rw[hb];rfl
 have hzj:run in8 (b::(t++s))=b::t:=by
  rw[<- List.cons_append,Vp (λ c hc=>by rw[List.mem_cons] at hc;rcases hc with rfl|hc;exact hin;exact ht c hc),Ub hs,List.append_nil]
 show (if lt8 b then _ else _)=_
 rw[if_pos hb]
 show (if isW (run in8 (b::(t++s))) then 3 else 1,0,run in8 (b::(t++s)),decide ((run in8 (b::(t++s))).length<=32))=_
 rw[hzj,decide_eq_true hl]
theorem Rw {b:UInt8} (h:in8 b=true):b.toNat≠10/\b.toNat≠32/\b.toNat≠9/\b.toNat≠35/\b.toNat≠61/\b.toNat≠38/\b.toNat≠124:=by
 unfold in8 lt8 dg8 at h
 simp at h
 omega
theorem Rk {b:UInt8} (h:lt8 b=true):in8 b=true:=by unfold in8;rw[h];rfl
theorem Lx.name {nm s r:Bt} {ts:List Xt} (hn:okM nm) (hs:nb s) (h:Lx s r ts):Lx (nm++s) r ((1,0,nm)::ts):=by
 obtain⟨b,t,rfl,h1,h2,h3,h4⟩:=hn
 have e:=Sm (s:=s) h1 h2 (by omega) hs
 rw[h3] at e
 obtain⟨q1,q2,q3,q4,_⟩:=Rw (Rk h1)
 exact Lx.tok q1 q2 q3 q4 e h
theorem Lx.word {w s r:Bt} {ts:List Xt} (hw:isW w=true) (hs:nb s) (h:Lx s r ts):Lx (w++s) r ((3,0,w)::ts):=by
 have hkr:w∈wordsL:=by unfold isW at hw;simpa using hw
 have key:∃ b t,w=b::t/\lt8 b=true/\(∀ c∈t,in8 c=true)/\(b::t).length<=32:=by
  simp only[wordsL,List.mem_cons,List.not_mem_nil,or_false] at hkr
  rcases hkr with rfl|rfl|rfl|rfl|rfl|rfl|rfl|rfl|rfl|rfl<;>exact⟨_,_,rfl,by decide,by decide,by decide⟩
 obtain⟨b,t,rfl,h1,h2,h3⟩:=key
 have e:=Sm (s:=s) h1 h2 h3 hs
 rw[hw] at e
 obtain⟨q1,q2,q3,q4,_⟩:=Rw (Rk h1)
 exact Lx.tok q1 q2 q3 q4 e h
theorem Tx (n:Nat):Gs (Lib.decDigits n)/\Qh (Lib.decDigits n)=n:=by
 induction n using Nat.strongRecOn with
 | _ n ih =>
  rw[Lib.decDigits]
  split
  ·rename_i h
   have e:(UInt8.ofNat (48+n)).toNat=48+n:=by simp;omega
   refine⟨?_,?_⟩
   ·intro c hc
    rw[List.mem_singleton] at hc
    subst hc
    omega
   show Vn 0 [_]=n
   rw[Kl,Gh,e];omega
  rename_i h
  obtain⟨h1,h2⟩:=ih (n/10) (by omega)
  have e:(UInt8.ofNat (48+n%10)).toNat=48+n%10:=by simp;omega
  refine⟨?_,?_⟩
  ·intro c hc
   rw[List.mem_append,List.mem_singleton] at hc
   rcases hc with hc|rfl
   ·exact h1 c hc
   omega
  show Vn 0 (_++[_])=n
  rw[Ez,show Vn 0 (Lib.decDigits (n/10))=n/10 from h2,e];omega
theorem Ld (n:Nat):∃ c r,Lib.decDigits n=c::r/\dg8 c=true:=by
 obtain⟨h1,_⟩:=Tx n
 cases h:Lib.decDigits n with
 | nil =>
  rw[Lib.decDigits] at h
  split at h<;>simp at h
 | cons c r =>
  rw[h] at h1
  exact⟨c,r,rfl,by have:=h1 c (by simp);unfold dg8;simp;exact this⟩
theorem Lx.num {n:Nat} {s r:Bt} {ts:List Xt} (hn:n<=9223372036854775807) (hs:nb s) (h:Lx s r ts):Lx (Lib.decDigits n++s) r ((2,n,Lib.decDigits n)::ts):=by
 obtain⟨h1,h2⟩:=Tx n
 obtain⟨c,t,hc,hd⟩:=Ld n
 have hqu:∀ x∈Lib.decDigits n,dg8 x=true:=λ x hx=>by have:=h1 x hx;unfold dg8;simp;exact this
 have hsd:∀ c r2,s=c::r2->dg8 c=false:=λ c r2 e=>by
  have:=hs c r2 e
  unfold in8 at this
  cases hh:dg8 c with
  | false=>rfl
  | true=>rw[hh] at this;simp at this
 have hzj:run dg8 (Lib.decDigits n++s)=Lib.decDigits n:=by rw[Vp hqu,Ub hsd,List.append_nil]
 have hpp:run in8 (Lib.decDigits n++s)=Lib.decDigits n:=by rw[Vp (λ x hx=>Lm (hqu x hx)),Ub hs,List.append_nil]
 have ha:Lib.atoiAll (Lib.decDigits n)=.ok (n:Int):=by
  rw[Mt _ h1 (by rw[hc];simp),h2,if_pos (by omega)]
 have hlt:lt8 c=false:=by
  cases hh:lt8 c with
  | false=>rfl
  | true =>
   unfold dg8 at hd
   unfold lt8 at hh
   simp at hd hh
   omega
 have e:=Ww (b:=c) (r:=t++s) hlt hd
 rw[<- List.cons_append,<- hc,hzj,hpp,ha] at e
 have e2:nxI (Lib.decDigits n++s)=(2,(n:Int),Lib.decDigits n,true):=by
  rw[e]
  simp[Lib.itoa_nonneg]
 rw[hc,List.cons_append] at e2
 rw[hc,List.cons_append]
 obtain⟨q1,q2,q3,q4,_⟩:=Rw (Lm hd)
 exact Lx.tok q1 q2 q3 q4 e2 h
def Yc:List Xt->Nat
 | []=>0
 | x::l=>x.2.2.length+20+Yc l
theorem Yf (a b:List Xt):Yc (a++b)=Yc a+Yc b:=by
 induction a with
 | nil=>simp[Yc]
 | cons x a ih=>simp only[List.cons_append,Yc,ih];omega
theorem Cz (l:List Tk):Yc (unl l)=Vc 20 l:=by
 induction l with
 | nil=>rfl
 | cons x l ih =>
  unfold unl at ih ⊢
  simp only[List.map_cons,Yc,Vc,ih]
abbrev sgX (t:Bt):Xt:=(4,0,t)
abbrev wdX (t:Bt):Xt:=(3,0,t)
abbrev nmX (t:Bt):Xt:=(1,0,t)
def Vl (s:List Xt):List Xt:=sgX [40]::(s++[sgX [41]])
def Qq (h:Hd) (s:List Xt):List Xt:=if Uw h=true then Vl s else s
def commX:List (List Xt)->List Xt
 | []=>[]
 | [s]=>s
 | s::r=>s++(sgX [44]::commX r)
def Jb (ss:List (List Xt)):List Xt:=Vl (commX ss)
def Zy (h:Hd) (os:List (Hd×List Xt)):List Xt :=
 if h.k=1 then [(2,h.v,Lib.decDigits h.v.toNat)]
 else if h.k=13\/h.k=2\/h.k=3 then [nmX h.nm]
 else if h.k=12 then [wdX [114,101,97,100]]
 else if h.k=11 then [sgX [38],nmX h.nm]
 else if h.k=4 then (match os with|[a]=>nmX h.nm::sgX [91]::(a.2++[sgX [93]])|_=>[])
 else if h.k=5 then (match os with|[a]=>sgX (sgn h.op)::Qq a.1 a.2|_=>[])
 else if h.k=6 then (match os with|[a,b]=>Qq a.1 a.2++(sgX (sgn h.op)::Qq b.1 b.2)|_=>[])
 else if h.k=7 then (match os with|[a,b]=>Qq a.1 a.2++(sgX [38,38]::Qq b.1 b.2)|_=>[])
 else if h.k=8 then (match os with|[a,b]=>Qq a.1 a.2++(sgX [124,124]::Qq b.1 b.2)|_=>[])
 else if h.k=9 then nmX h.nm::Jb (os.map (·.2))
 else if h.k=10 then (match os with|a::r=>(if a.1.k=13\/a.1.k=2\/a.1.k=3 then Vl (Qq a.1 a.2) else Qq a.1 a.2)++Jb (r.map (·.2))|[]=>[])
 else []
def Zr:Fo->List (Hd×List Xt)
 | .nil=>[]
 | .cons h ar r=>(h,Zy h (Zr ar))::Zr r
abbrev Yh (h:Hd) (ar:Fo):List Xt:=Zy h (Zr ar)
theorem Nm (F:Fo) (j:Nat) (x:Hd×Fo) (h:F.get j=some x):(Zr F)[j]?=some (x.1,Yh x.1 x.2):=by
 induction F generalizing j with
 | nil=>cases h
 | cons hd ar r _ ih =>
  cases j with
  | zero =>
   have e:(hd,ar)=x:=by injection h
   subst e;rfl
  | succ j=>exact ih j h
def hd1 (s:Bt):Prop:=∃ c r,s=c::r/\c≠61
def LxE (h:Hd) (ar:Fo):Prop:=(∀ s r ts,nb s->Lx s r ts->Lx (Yw h ar++s) r (Yh h ar++ts))/\hd1 (Yw h ar)
theorem Qb {c:UInt8} {s:Bt} (h:in8 c=false):nb (c::s):=λ d r2 e=>by injection e with e _;subst e;exact h
theorem LxE.opr {h:Hd} {ar:Fo} (k:LxE h ar):(∀ s r ts,nb s->Lx s r ts->Lx (opd h (Yw h ar)++s) r (Qq h (Yh h ar)++ts))/\hd1 (opd h (Yw h ar)):=by
 unfold Go.Proofs.YtldgghnjminhiaaGreatDoor.opd Qq
 by_cases hc:Uw h=true
 ·rw[if_pos hc,if_pos hc]
  refine⟨λ s r ts hs hx=>?_,40,_,rfl,by decide⟩
  unfold Ql Vl
  simp only[List.cons_append,List.append_assoc,List.nil_append]
  exact Lx.sg (by simp) (k.1 _ _ _ (Qb (by decide)) (Lx.sg (by simp) hx))
 rw[if_neg hc,if_neg hc]
 exact k
theorem LxE.par {h:Hd} {ar:Fo} (k:LxE h ar) {s r:Bt} {ts:List Xt} (hx:Lx s r ts):Lx (Ql (Go.Proofs.YtldgghnjminhiaaGreatDoor.opd h (Yw h ar))++s) r (Vl (Qq h (Yh h ar))++ts):=by
 unfold Ql Vl
 simp only[List.cons_append,List.append_assoc,List.nil_append]
 exact Lx.sg (by simp) (k.opr.1 _ _ _ (Qb (by decide)) (Lx.sg (by simp) hx))
theorem Lx.comm (F:Fo) (hF:∀ j x,F.get j=some x->LxE x.1 x.2):∀ s r ts,nb s->Lx s r ts->Lx (comm ((Yl F).map (·.2))++s) r (commX ((Zr F).map (·.2))++ts):=by
 induction F with
 | nil=>intro s r ts _ hx;exact hx
 | cons h ar R _ ih =>
  intro s r ts hs hx
  have h0:=hF 0 (h,ar) rfl
  have ih:=ih (λ j x hj=>hF (j+1) x hj)
  cases R with
  | nil=>exact h0.1 _ _ _ hs hx
  | cons h2 ar2 R2 =>
   show Lx ((Yw h ar++([44,32]++Go.Proofs.YtldgghnjminhiaaGreatDoor.comm ((Yl (.cons h2 ar2 R2)).map (·.2))))++s) r ((Yh h ar++(sgX [44]::commX ((Zr (.cons h2 ar2 R2)).map (·.2))))++ts)
   simp only[List.append_assoc,List.cons_append,List.nil_append]
   exact h0.1 _ _ _ (Qb (by decide)) (Lx.sg (by simp) (Lx.c32 (ih s r ts hs hx)))
theorem Lx.list (F:Fo) (hF:∀ j x,F.get j=some x->LxE x.1 x.2) {s r:Bt} {ts:List Xt} (hx:Lx s r ts):Lx (Uj ((Yl F).map (·.2))++s) r (Jb ((Zr F).map (·.2))++ts):=by
 unfold Uj Jb Ql Vl
 simp only[List.cons_append,List.append_assoc,List.nil_append]
 exact Lx.sg (by simp) (Lx.comm F hF _ _ _ (Qb (by decide)) (Lx.sg (by simp) hx))
theorem hd1.app {s t:Bt} (h:hd1 s):hd1 (s++t):=by
 obtain⟨c,r,rfl,h⟩:=h
 exact⟨c,r++t,rfl,h⟩
theorem okM.hd {nm:Bt} (h:okM nm):hd1 nm:=by
 obtain⟨b,t,rfl,h1,_⟩:=h
 exact⟨b,t,rfl,λ e=>by subst e;exact absurd h1 (by decide)⟩
theorem okM.amp {nm s:Bt} (h:okM nm):∀ c r2,nm++s=c::r2->isS [38,c]=false:=by
 obtain⟨b,t,rfl,h1,_⟩:=h
 intro c r2 e
 rw[List.cons_append] at e
 injection e with e _
 subst e
 cases hh:isS [38,b] with
 | false=>rfl
 | true =>
  have:=Sh hh
  rcases this with rfl|rfl|rfl<;>exact absurd h1 (by decide)
theorem hd1.un {s t:Bt} {b:UInt8} (hb:b=45\/b=33) (h:hd1 s):∀ c r2,s++t=c::r2->isS [b,c]=false:=by
 obtain⟨d,r,rfl,hd⟩:=h
 intro c r2 e
 rw[List.cons_append] at e
 injection e with e _
 subst e
 cases hh:isS [b,d] with
 | false=>rfl
 | true =>
  simp[isS,signsL] at hh
  rcases hb with rfl|rfl
  ·simp at hh
  simp at hh;exact absurd hh hd
theorem xvc {op:Int} (h3:3<=op) (h11:op<=11):isS (sgn op)=true:=by
 have:op=3\/op=4\/op=5\/op=6\/op=7\/op=8\/op=9\/op=10\/op=11:=by omega
 rcases this with rfl|rfl|rfl|rfl|rfl|rfl|rfl|rfl|rfl<;>decide
theorem xzs {op:Int} (h3:1<=op) (h11:op<=2):∃ b,sgn op=[b]/\(b=45\/b=33):=by
 have:op=1\/op=2:=by omega
 rcases this with rfl|rfl
 ·exact⟨45,rfl,.inl rfl⟩
 exact⟨33,rfl,.inr rfl⟩
theorem Fo.one {F:Fo} (h:F.len=1):∃ x:Hd×Fo,F.get 0=some x/\Yl F=[(x.1,Yw x.1 x.2)]/\Zr F=[(x.1,Yh x.1 x.2)]:=by
 cases F with
 | nil=>simp[Fo.len] at h
 | cons h1 a1 r =>
  cases r with
  | nil=>exact⟨(h1,a1),rfl,rfl,rfl⟩
  | cons h2 a2 r=>simp[Fo.len] at h
theorem Fo.two {F:Fo} (h:F.len=2):∃ x y:Hd×Fo,F.get 0=some x/\F.get 1=some y/\Yl F=[(x.1,Yw x.1 x.2),(y.1,Yw y.1 y.2)]/\Zr F=[(x.1,Yh x.1 x.2),(y.1,Yh y.1 y.2)]:=by
 cases F with
 | nil=>simp[Fo.len] at h
 | cons h1 a1 r =>
  cases r with
  | nil=>simp[Fo.len] at h
  | cons h2 a2 r =>
   cases r with
   | nil=>exact⟨(h1,a1),(h2,a2),rfl,rfl,rfl,rfl⟩
   | cons h3 a3 r=>simp[Fo.len] at h
theorem LxE.one (h:Hd) (ar:Fo) (hok:okG h ar) (hF:∀ j x,ar.get j=some x->LxE x.1 x.2):LxE h ar:=by
 rcases hok with⟨_,_,k⟩|⟨_,k,_,k0,k1,_⟩|⟨_,_,k⟩
 ·rcases k with⟨k,hn,_⟩|⟨k,_⟩|⟨k,hn,_⟩|⟨k,hn,hl⟩|⟨k,_,hl⟩|⟨k,hn⟩|⟨k,_,g,bs,r0,rfl⟩
  ·have e1:Yw h ar=h.nm:=by show Zj h _=_;unfold Zj;simp[k]
   have e2:Yh h ar=[nmX h.nm]:=by show Zy h _=_;unfold Zy;simp[k]
   refine⟨λ s r ts hs hx=>?_,by rw[e1];exact hn.hd⟩
   rw[e1,e2]
   exact Lx.name hn hs hx
  ·have e1:Yw h ar=[114,101,97,100]:=by show Zj h _=_;unfold Zj;simp[k]
   have e2:Yh h ar=[wdX [114,101,97,100]]:=by show Zy h _=_;unfold Zy;simp[k]
   refine⟨λ s r ts hs hx=>?_,by rw[e1];exact⟨_,_,rfl,by decide⟩⟩
   rw[e1,e2]
   exact Lx.word (by decide) hs hx
  ·have e1:Yw h ar=38::h.nm:=by show Zj h _=_;unfold Zj;simp[k]
   have e2:Yh h ar=[sgX [38],nmX h.nm]:=by show Zy h _=_;unfold Zy;simp[k]
   refine⟨λ s r ts hs hx=>?_,by rw[e1];exact⟨_,_,rfl,by decide⟩⟩
   rw[e1,e2]
   exact Lx.tok (tt:=[]) (by decide) (by decide) (by decide) (by decide) (Wl (by decide) (by decide) (by decide) hn.amp) (Lx.name hn hs hx)
  ·obtain⟨x,hx0,f1,t1⟩:=Fo.one hl
   have e1:Yw h ar=h.nm++([91]++(Yw x.1 x.2++[93])):=by show Zj h _=_;rw[f1];unfold Zj;simp[k]
   have e2:Yh h ar=nmX h.nm::sgX [91]::(Yh x.1 x.2++[sgX [93]]):=by show Zy h _=_;rw[t1];unfold Zy;simp[k]
   refine⟨λ s r ts hs hx=>?_,by rw[e1];exact hn.hd.app⟩
   rw[e1,e2]
   simp only[List.append_assoc,List.cons_append,List.nil_append]
   exact Lx.name hn (Qb (by decide)) (Lx.sg (by simp) ((hF 0 x hx0).1 _ _ _ (Qb (by decide)) (Lx.sg (by simp) hx)))
  ·obtain⟨x,y,hx0,hy0,f1,t1⟩:=Fo.two hl
   rcases k with k|k
   ·have e1:Yw h ar=opd x.1 (Yw x.1 x.2)++([32,38,38,32]++opd y.1 (Yw y.1 y.2)):=by show Zj h _=_;rw[f1];unfold Zj;simp[k]
    have e2:Yh h ar=Qq x.1 (Yh x.1 x.2)++(sgX [38,38]::Qq y.1 (Yh y.1 y.2)):=by show Zy h _=_;rw[t1];unfold Zy;simp[k]
    refine⟨λ s r ts hs hx=>?_,by rw[e1];exact(hF 0 x hx0).opr.2.app⟩
    rw[e1,e2]
    simp only[List.append_assoc,List.cons_append,List.nil_append]
    exact(hF 0 x hx0).opr.1 _ _ _ (Qb (by decide)) (Lx.c32 (Lx.sgB (t:=[38,38]) (by decide) ((hF 1 y hy0).opr.1 _ _ _ hs hx)))
   have e1:Yw h ar=opd x.1 (Yw x.1 x.2)++([32,124,124,32]++opd y.1 (Yw y.1 y.2)):=by show Zj h _=_;rw[f1];unfold Zj;simp[k]
   have e2:Yh h ar=Qq x.1 (Yh x.1 x.2)++(sgX [124,124]::Qq y.1 (Yh y.1 y.2)):=by show Zy h _=_;rw[t1];unfold Zy;simp[k]
   refine⟨λ s r ts hs hx=>?_,by rw[e1];exact(hF 0 x hx0).opr.2.app⟩
   rw[e1,e2]
   simp only[List.append_assoc,List.cons_append,List.nil_append]
   exact(hF 0 x hx0).opr.1 _ _ _ (Qb (by decide)) (Lx.c32 (Lx.sgB (t:=[124,124]) (by decide) ((hF 1 y hy0).opr.1 _ _ _ hs hx)))
  ·have e1:Yw h ar=h.nm++Uj ((Yl ar).map (·.2)):=by show Zj h _=_;unfold Zj;simp[k]
   have e2:Yh h ar=nmX h.nm::Jb ((Zr ar).map (·.2)):=by show Zy h _=_;unfold Zy;simp[k]
   refine⟨λ s r ts hs hx=>?_,by rw[e1];exact hn.hd.app⟩
   rw[e1,e2]
   simp only[List.append_assoc,List.cons_append,List.nil_append]
   exact Lx.name hn (Qb (by decide)) (Lx.list ar hF hx)
  have h0:=hF 0 (g,bs) rfl
  by_cases hk:g.k=13\/g.k=2\/g.k=3
  ·have e1:Yw h (.cons g bs r0)=Ql (opd g (Yw g bs))++Uj ((Yl r0).map (·.2)):=by show Zj h ((g,Yw g bs)::Yl r0)=_;unfold Zj;simp[k,hk]
   have e2:Yh h (.cons g bs r0)=Vl (Qq g (Yh g bs))++Jb ((Zr r0).map (·.2)):=by show Zy h ((g,Yh g bs)::Zr r0)=_;unfold Zy;simp[k,hk]
   refine⟨λ s r ts hs hx=>?_,by rw[e1];exact hd1.app ⟨40,_,rfl,by decide⟩⟩
   rw[e1,e2]
   simp only[List.append_assoc]
   exact h0.par (Lx.list r0 (λ j y hy=>hF (j+1) y hy) hx)
  have e1:Yw h (.cons g bs r0)=opd g (Yw g bs)++Uj ((Yl r0).map (·.2)):=by show Zj h ((g,Yw g bs)::Yl r0)=_;unfold Zj;simp[k,hk]
  have e2:Yh h (.cons g bs r0)=Qq g (Yh g bs)++Jb ((Zr r0).map (·.2)):=by show Zy h ((g,Yh g bs)::Zr r0)=_;unfold Zy;simp[k,hk]
  refine⟨λ s r ts hs hx=>?_,by rw[e1];exact h0.opr.2.app⟩
  rw[e1,e2]
  simp only[List.append_assoc]
  exact h0.opr.1 _ _ _ (Qb (by decide)) (Lx.list r0 (λ j y hy=>hF (j+1) y hy) hx)
 ·have e1:Yw h ar=Lib.decDigits h.v.toNat:=by show Zj h _=_;unfold Zj;simp[k]
  have e2:Yh h ar=[(2,h.v,Lib.decDigits h.v.toNat)]:=by show Zy h _=_;unfold Zy;simp[k]
  obtain⟨z,hz⟩:∃ z:Nat,h.v=z:=Int.eq_ofNat_of_zero_le k0
  rw[hz] at e1 e2 k1
  rw[Int.toNat_natCast] at e1 e2
  refine⟨λ s r ts hs hx=>?_,?_⟩
  ·rw[e1,e2]
   exact Lx.num (by omega) hs hx
  rw[e1]
  obtain⟨c,r,hc,hd⟩:=Ld z
  exact⟨c,r,hc,λ e=>by subst e;exact absurd hd (by decide)⟩
 rcases k with⟨k,o1,o2,hl⟩|⟨k,o1,o2,hl⟩
 ·obtain⟨x,hx0,f1,t1⟩:=Fo.one hl
  obtain⟨b,hb,hbb⟩:=xzs o1 o2
  have h0:=(hF 0 x hx0).opr
  have e1:Yw h ar=b::opd x.1 (Yw x.1 x.2):=by show Zj h _=_;rw[f1];unfold Zj;simp[k,hb]
  have e2:Yh h ar=sgX [b]::Qq x.1 (Yh x.1 x.2):=by show Zy h _=_;rw[t1];unfold Zy;simp[k,hb]
  refine⟨λ s r ts hs hx=>?_,by rw[e1];exact⟨b,_,rfl,by rcases hbb with rfl|rfl<;>decide⟩⟩
  rw[e1,e2]
  simp only[List.cons_append]
  exact Lx.tok (tt:=[]) (by rcases hbb with rfl|rfl<;>decide) (by rcases hbb with rfl|rfl<;>decide) (by rcases hbb with rfl|rfl<;>decide) (by rcases hbb with rfl|rfl<;>decide)
   (Wl (s:=opd x.1 (Yw x.1 x.2)++s) (by rcases hbb with rfl|rfl<;>decide) (by rcases hbb with rfl|rfl<;>decide) (by rcases hbb with rfl|rfl<;>decide) (h0.2.un hbb)) (h0.1 _ _ _ hs hx)
 obtain⟨x,y,hx0,hy0,f1,t1⟩:=Fo.two hl
 have e1:Yw h ar=opd x.1 (Yw x.1 x.2)++([32]++(sgn h.op++([32]++opd y.1 (Yw y.1 y.2)))):=by show Zj h _=_;rw[f1];unfold Zj;simp[k]
 have e2:Yh h ar=Qq x.1 (Yh x.1 x.2)++(sgX (sgn h.op)::Qq y.1 (Yh y.1 y.2)):=by show Zy h _=_;rw[t1];unfold Zy;simp[k]
 refine⟨λ s r ts hs hx=>?_,by rw[e1];exact(hF 0 x hx0).opr.2.app⟩
 rw[e1,e2]
 simp only[List.append_assoc,List.cons_append,List.nil_append]
 exact(hF 0 x hx0).opr.1 _ _ _ (Qb (by decide)) (Lx.c32 (Lx.sgB (xvc o1 o2) ((hF 1 y hy0).opr.1 _ _ _ hs hx)))
theorem LxE.all (F:Fo) (hw:F.wg):∀ j x,F.get j=some x->LxE x.1 x.2:=by
 induction F with
 | nil=>intro j x hx;cases hx
 | cons h ar r ih1 ih2 =>
  intro j x hx
  cases j with
  | zero =>
   have e:(h,ar)=x:=by injection hx
   subst e
   exact LxE.one h ar hw.1 (ih1 hw.2.1)
  | succ j=>exact ih2 hw.2.2 j x hx
def Qt (xs:Fo) (i:Nat):List Xt:=match (Zr xs)[i]? with|some a=>a.2|none=>[]
def Zk:Sf->List Xt
 | .nil=>[]
 | .cons k _ nm xs th el r =>
  (if k=1 then wdX [118,97,114]::nmX nm::sgX [61]::(Qt xs 0++[sgX [59]])
   else if k=2 then nmX nm::sgX [61]::(Qt xs 0++[sgX [59]])
   else if k=3 then nmX nm::sgX [91]::(Qt xs 0++(sgX [93]::sgX [61]::(Qt xs 1++[sgX [59]])))
   else if k=6 then wdX [114,101,116,117,114,110]::(Qt xs 0++[sgX [59]])
   else if k=7 then wdX [112,114,105,110,116]::(Qt xs 0++[sgX [59]])
   else if k=8 then wdX [99,97,108,108]::(Qt xs 0++[sgX [59]])
   else if k=5 then wdX [119,104,105,108,101]::(Qt xs 0++(sgX [123]::(Zk th++[sgX [125]])))
   else if k=4 then wdX [105,102]::(Qt xs 0++(sgX [123]::(Zk th++(sgX [125] ::
    (if el.len=0 then [] else wdX [101,108,115,101]::sgX [123]::(Zk el++[sgX [125]]))))))
   else [])++Zk r
theorem Sq (xs:Fo) (hw:xs.wf) (i:Nat) (hi:i<xs.len) {s r:Bt} {ts:List Xt} (hs:nb s) (hx:Lx s r ts):Lx (Jj xs i++s) r (Qt xs i++ts):=by
 obtain⟨x,hg⟩:=Fo.get_lt hi
 unfold Jj Qt
 rw[Qf xs i x hg,Nm xs i x hg]
 exact(LxE.all xs hw.g i x hg).1 s r ts hs hx
theorem xqp (S:Sf) (hw:S.wf):∀ (n:Nat) (s r:Bt) (ts:List Xt),Lx s r ts->Lx (Qz S n++s) r (Zk S++ts):=by
 induction S with
 | nil=>intro n s r ts hx;exact hx
 | cons k ln nm xs th el R ih1 ih2 ih3 =>
  intro n s r ts hx
  obtain⟨hok,_,hxs,ht,he,hr⟩:=hw
  have i1:=ih1 ht
  have i2:=ih2 he
  have i3:=Lx.c10 (ih3 hr n s r ts hx)
  have v0:0<xs.len->∀ {s r:Bt} {ts:List Xt},nb s->Lx s r ts->Lx (Jj xs 0++s) r (Qt xs 0++ts):=λ h=>λ hs hx=>Sq xs hxs 0 h hs hx
  have v1:1<xs.len->∀ {s r:Bt} {ts:List Xt},nb s->Lx s r ts->Lx (Jj xs 1++s) r (Qt xs 1++ts):=λ h=>λ hs hx=>Sq xs hxs 1 h hs hx
  have n32:∀ s:Bt,nb (32::s):=λ s=>Qb (by decide)
  have n59:∀ s:Bt,nb (59::s):=λ s=>Qb (by decide)
  have n91:∀ s:Bt,nb (91::s):=λ s=>Qb (by decide)
  have n93:∀ s:Bt,nb (93::s):=λ s=>Qb (by decide)
  have s59:∀ {s r:Bt} {ts:List Xt},Lx s r ts->Lx (59::s) r (sgX [59]::ts):=λ h=>Lx.sg (by simp) h
  have s91:∀ {s r:Bt} {ts:List Xt},Lx s r ts->Lx (91::s) r (sgX [91]::ts):=λ h=>Lx.sg (by simp) h
  have s93:∀ {s r:Bt} {ts:List Xt},Lx s r ts->Lx (93::s) r (sgX [93]::ts):=λ h=>Lx.sg (by simp) h
  have s123:∀ {s r:Bt} {ts:List Xt},Lx s r ts->Lx (123::s) r (sgX [123]::ts):=λ h=>Lx.sg (by simp) h
  have s125:∀ {s r:Bt} {ts:List Xt},Lx s r ts->Lx (125::s) r (sgX [125]::ts):=λ h=>Lx.sg (by simp) h
  have s61:∀ {s r:Bt} {ts:List Xt},Lx s r ts->Lx (61::32::s) r (sgX [61]::ts):=λ h=>Lx.sgB (t:=[61]) (by decide) h
  rw[Qd]
  unfold Ys Zk
  rcases hok with⟨hk,hn,hl,_⟩|⟨hk,hn,hl,_⟩|⟨hk,hn,hl⟩|⟨hk,hn,hl,_⟩|⟨hk,hn,hl,_⟩|⟨hk,hn,_,_,hh,har,hl,_⟩
  ·rcases hk with hk|hk
   ·simp[hk,List.append_assoc]
    exact Lx.tabs n (Lx.word (w:=[118,97,114]) (by decide) (n32 _) (Lx.c32 (Lx.name hn.m (n32 _) (Lx.c32 (s61 (v0 (by omega) (n59 _) (s59 i3)))))))
   simp[hk,List.append_assoc]
   exact Lx.tabs n (Lx.name hn.m (n32 _) (Lx.c32 (s61 (v0 (by omega) (n59 _) (s59 i3)))))
  ·simp[hk,List.append_assoc]
   exact Lx.tabs n (Lx.name hn.m (n91 _) (s91 (v0 (by omega) (n93 _) (s93 (Lx.c32 (s61 (v1 (by omega) (n59 _) (s59 i3))))))))
  ·by_cases hz:el.len=0
   ·simp[hk,hz,List.append_assoc]
    exact Lx.tabs n (Lx.word (w:=[105,102]) (by decide) (n32 _) (Lx.c32 (v0 (by omega) (n32 _) (Lx.c32 (s123 (Lx.c10 (i1 (n+1) _ _ _ (Lx.tabs n (s125 i3)))))))))
   simp[hk,hz,List.append_assoc]
   exact Lx.tabs n (Lx.word (w:=[105,102]) (by decide) (n32 _) (Lx.c32 (v0 (by omega) (n32 _) (Lx.c32 (s123 (Lx.c10 (i1 (n+1) _ _ _ (Lx.tabs n (s125 (Lx.c32 (Lx.word (w:=[101,108,115,101]) (by decide) (n32 _) (Lx.c32 (s123 (Lx.c10 (i2 (n+1) _ _ _ (Lx.tabs n (s125 i3)))))))))))))))))
  ·simp[hk,List.append_assoc]
   exact Lx.tabs n (Lx.word (w:=[119,104,105,108,101]) (by decide) (n32 _) (Lx.c32 (v0 (by omega) (n32 _) (Lx.c32 (s123 (Lx.c10 (i1 (n+1) _ _ _ (Lx.tabs n (s125 i3)))))))))
  ·rcases hk with hk|hk
   ·simp[hk,List.append_assoc]
    exact Lx.tabs n (Lx.word (w:=[114,101,116,117,114,110]) (by decide) (n32 _) (Lx.c32 (v0 (by omega) (n59 _) (s59 i3))))
   simp[hk,List.append_assoc]
   exact Lx.tabs n (Lx.word (w:=[112,114,105,110,116]) (by decide) (n32 _) (Lx.c32 (v0 (by omega) (n59 _) (s59 i3))))
  have hl1:0<xs.len:=by rw[hl];simp[Fo.len]
  simp[hk,List.append_assoc]
  exact Lx.tabs n (Lx.word (w:=[99,97,108,108]) (by decide) (n32 _) (Lx.c32 (v0 hl1 (n59 _) (s59 i3))))
def Vh:List (Hd×List Xt)->Nat
 | []=>0
 | a::r=>Yc a.2+Vh r
theorem Jr (h:Hd) (s:List Xt):Yc (Qq h s)<=Yc s+42:=by
 unfold Qq Vl
 split
 ·simp[Yc,Yf];omega
 omega
theorem Dx (os:List (Hd×List Xt)):Yc (commX (os.map (·.2)))<=Vh os+21*(os.length-1):=by
 induction os with
 | nil=>simp[commX,Yc]
 | cons a r ih =>
  cases r with
  | nil=>simp[commX,Vh]
  | cons b r =>
   show Yc (a.2++(sgX [44]::commX ((b::r).map (λ (x:Hd×List Xt)=>x.2))))<=Yc a.2+Vh (b::r)+21*((b::r).length+1-1)
   rw[Yf]
   simp only[List.length_cons,Yc,List.length_nil] at ih ⊢
   omega
theorem Cb (F:Fo):(Zr F).length=F.len:=by
 induction F with
 | nil=>rfl
 | cons h ar r _ ih=>simp[Zr,Fo.len,ih]
theorem Cf (h:Hd) (ar:Fo) (hok:okH h ar) (os:List (Hd×List Xt)) (ho:os.length=ar.len) (hg:∀ a r,h.k=10->os=a::r->a.1.k≠13/\a.1.k≠2/\a.1.k≠3):Yc (Zy h os)<=own h ar.len+Vh os:=by
 unfold Zy own
 by_cases k1:h.k=1
 ·rw[if_pos k1,if_pos k1]
  rcases hok with hok|hok|hok
  ·omega
  ·have:=Zg (n:=h.v.toNat) (by omega)
   simp only[Yc];omega
  omega
 rw[if_neg k1,if_neg k1]
 have hnm:h.nm.length<=4:=by
  rcases hok with⟨_,_,hok⟩|⟨_,_,hok,_⟩|⟨_,hok,_⟩
  ·rcases hok with⟨_,hok,_⟩|⟨_,hok,_⟩|⟨_,hok,_⟩|⟨_,hok,_⟩|⟨_,hok,_⟩|⟨_,hok,_⟩|⟨_,hok,_⟩<;>first|exact hok.len|(rw[hok];simp)
  ·rw[hok];simp
  rw[hok];simp
 have hsl:=Eh h.op
 by_cases k13:h.k=13
 ·rw[if_pos (.inl k13),if_pos k13];simp only[Yc];omega
 by_cases k2:h.k=13\/h.k=2\/h.k=3
 ·rw[if_pos k2,if_neg k13]
  rcases hok with⟨_,_,hok⟩|⟨_,k,_⟩|⟨_,_,hok⟩
  ·rcases hok with⟨k,_⟩|⟨k,_⟩|⟨k,_⟩|⟨k,_⟩|⟨k,_⟩|⟨k,_⟩|⟨k,_⟩<;>omega
  ·omega
  rcases hok with⟨k,_⟩|⟨k,_⟩<;>omega
 rw[if_neg k2,if_neg k13]
 by_cases k12:h.k=12
 ·rw[if_pos k12,if_pos k12];simp[Yc]
 rw[if_neg k12,if_neg k12]
 by_cases k11:h.k=11
 ·rw[if_pos k11,if_pos k11];simp[Yc];omega
 rw[if_neg k11,if_neg k11]
 have hzf:(h.k=9->os.length<=2)/\(h.k=10->os.length<=3):=by
  rw[ho]
  rcases hok with⟨_,_,hok⟩|⟨_,_,_,_,_,hok⟩|⟨_,_,hok⟩
  ·rcases hok with⟨_,_,hok⟩|⟨_,_,hok⟩|⟨_,_,hok⟩|⟨_,_,hok⟩|⟨_,_,hok⟩|⟨_,_,hok⟩|⟨_,_,g,bs,r,hok,_,hr⟩<;>first|(subst hok;simp[Fo.len];done)|(subst hok;simp only[Fo.len];omega)|omega
  ·subst hok;simp[Fo.len]
  omega
 split
 ·split
  ·simp[Vh,Yc,Yf];omega
  simp[Yc]
 split
 ·split
  ·rename_i a
   have:=Jr a.1 a.2
   simp[Vh,Yc];omega
  simp[Yc]
 split
 ·split
  ·rename_i a b
   have:=Jr a.1 a.2
   have:=Jr b.1 b.2
   simp[Vh,Yc,Yf];omega
  simp[Yc]
 split
 ·split
  ·rename_i a b
   have:=Jr a.1 a.2
   have:=Jr b.1 b.2
   simp[Vh,Yc,Yf];omega
  simp[Yc]
 split
 ·split
  ·rename_i a b
   have:=Jr a.1 a.2
   have:=Jr b.1 b.2
   simp[Vh,Yc,Yf];omega
  simp[Yc]
 split
 ·rename_i k9
  have:=Dx os
  have:=hzf.1 k9
  simp[Jb,Vl,Yc,Yf];omega
 split
 ·rename_i k10
  have h3:=hzf.2 k10
  split
  ·rename_i a r
   have h1:=Jr a.1 a.2
   have h2:=Dx r
   have h4:=hg a r k10 rfl
   simp only[List.length_cons] at h3
   rw[if_neg (by omega)]
   simp only[Jb,Vl,Yc,Yf,Vh,List.length_cons,List.length_nil]
   omega
  simp[Yc]
 simp[Yc]
theorem Nc (F:Fo) (hw:F.wf):Vh (Zr F)<=F.cst:=by
 induction F with
 | nil=>exact Nat.le_refl _
 | cons h ar r ih1 ih2 =>
  have h1:=ih1 hw.2.2.1
  have h2:=ih2 hw.2.2.2
  have h3:=Cf h ar hw.1 (Zr ar) (Cb ar) (λ a r2 k e=>by
   have hok:=hw.1
   rcases hok with⟨_,_,hok⟩|⟨_,k',_⟩|⟨_,_,hok⟩
   ·rcases hok with⟨k',_⟩|⟨k',_⟩|⟨k',_⟩|⟨k',_⟩|⟨k',_⟩|⟨k',_⟩|⟨_,_,g,bs,r3,rfl,hg,_⟩<;>try omega
    have e2:(g,Zy g (Zr bs))::Zr r3=a::r2:=e
    injection e2 with e2 _
    subst e2
    have:=okH.not23 hw.2.2.1.1
    exact⟨hg,this⟩
   ·omega
   rcases hok with⟨k',_⟩|⟨k',_⟩<;>omega)
  show Yc (Zy h (Zr ar))+Vh (Zr r)<=own h ar.len+ar.cst+r.cst
  omega
theorem Cq (os:List (Hd×List Xt)) (i:Nat) (x:Hd×List Xt) (h:os[i]?=some x):Yc x.2<=Vh os:=by
 induction os generalizing i with
 | nil=>simp at h
 | cons a r ih =>
  cases i with
  | zero=>simp at h;subst h;simp[Vh]
  | succ i=>have:=ih i (by simpa using h);simp only[Vh];omega
theorem Gq (xs:Fo) (hw:xs.wf) (i:Nat):Yc (Qt xs i)<=xs.cst:=by
 unfold Qt
 cases h:(Zr xs)[i]? with
 | none=>simp[Yc]
 | some a=>exact Nat.le_trans (Cq _ _ _ h) (Nc xs hw)
theorem Aj (xs:Fo) (hw:xs.wf):Yc (Qt xs 0)+Yc (Qt xs 1)<=xs.cst:=by
 have h0:=Gq xs hw 0
 have h1:=Gq xs hw 1
 have hc:=Nc xs hw
 unfold Qt at h0 h1 ⊢
 cases e0:(Zr xs)[0]? with
 | none=>rw[e0] at h0;cases e1:(Zr xs)[1]? with
  | none=>simp[Yc]
  | some b=>rw[e1] at h1;simpa [Yc] using h1
 | some a=>rw[e0] at h0;cases e1:(Zr xs)[1]? with
  | none=>simpa [Yc] using h0
  | some b =>
   have key:Yc a.2+Yc b.2<=Vh (Zr xs):=by
    generalize Zr xs=l at e0 e1
    cases l with
    | nil=>simp at e0
    | cons x r =>
     cases r with
     | nil=>simp at e1
     | cons y r =>
      simp at e0 e1
      subst e0 e1
      simp only[Vh];omega
   exact Nat.le_trans key hc
theorem Cg (S:Sf) (hw:S.wf):Yc (Zk S)<=S.cst:=by
 induction S with
 | nil=>simp[Zk,Yc]
 | cons k ln nm xs th el r ih1 ih2 ih3 =>
  obtain⟨hok,_,hx,ht,he,hr⟩:=hw
  have h1:=ih1 ht
  have h2:=ih2 he
  have h3:=ih3 hr
  have hv0:=Gq xs hx 0
  have hv2:=Aj xs hx
  have hnm:=hok.nm
  unfold Zk
  rw[Yf]
  simp only[Sf.cst]
  split
  ·simp only[Yc,Yf,List.length_cons,List.length_nil];omega
  split
  ·simp only[Yc,Yf,List.length_cons,List.length_nil];omega
  split
  ·simp only[Yc,Yf,List.length_cons,List.length_nil];omega
  split
  ·simp only[Yc,Yf,List.length_cons,List.length_nil];omega
  split
  ·simp only[Yc,Yf,List.length_cons,List.length_nil];omega
  split
  ·simp only[Yc,Yf,List.length_cons,List.length_nil];omega
  split
  ·simp only[Yc,Yf,List.length_cons,List.length_nil];omega
  split
  ·split
   ·simp only[Yc,Yf,List.length_cons,List.length_nil];omega
   simp only[Yc,Yf,List.length_cons,List.length_nil];omega
  simp only[Yc];omega
def Wq (F:Fn):List Xt:=wdX [102,117,110,99]::nmX F.nm::sgX [40]::(commX (F.ps.map λ p=>[nmX p])++(sgX [41]::sgX [123]::(Zk F.bd++[sgX [125]])))
def Hb (x:Bt×Int):List Xt:=wdX [103,108,111,98,97,108]::nmX x.1::((if 0<x.2 then [sgX [91],(2,x.2,Lib.decDigits x.2.toNat),sgX [93]] else [])++[sgX [59]])
def Hu (gs:List (Bt×Int)) (Fs:List Fn):List Xt:=gs.flatMap Hb++Fs.flatMap Wq
theorem xvd (ps:List Bt) (h:∀ p∈ps,okN p):∀ {s r:Bt} {ts:List Xt},nb s->Lx s r ts->Lx (comm ps++s) r (commX (ps.map λ p=>[nmX p])++ts):=by
 induction ps with
 | nil=>intro s r ts _ hx;exact hx
 | cons p ps ih =>
  intro s r ts hs hx
  have hp:=h p (by simp)
  have hq:∀ q∈ps,okN q:=λ q hq=>h q (by simp[hq])
  cases ps with
  | nil=>exact Lx.name hp.m hs hx
  | cons q ps =>
   show Lx ((p++([44,32]++comm (q::ps)))++s) r (([nmX p]++(sgX [44]::commX ((q::ps).map λ p=>[nmX p])))++ts)
   simp only[List.append_assoc,List.cons_append,List.nil_append]
   exact Lx.name hp.m (Qb (by decide)) (Lx.sg (by simp) (Lx.c32 (ih hq hs hx)))
theorem xqm (F:Fn) (hn:okN F.nm) (hp:∀ p∈F.ps,okN p) (hb:F.bd.wf) {s r:Bt} {ts:List Xt} (hx:Lx s r ts):Lx (Gm F++s) r (Wq F++ts):=by
 unfold Gm Wq
 simp only[List.append_assoc,List.cons_append,List.nil_append]
 exact Lx.word (w:=[102,117,110,99]) (by decide) (Qb (by decide)) (Lx.c32 (Lx.name hn.m (Qb (by decide)) (Lx.sg (by simp) (xvd F.ps hp (Qb (by decide)) (Lx.sg (by simp) (Lx.c32 (Lx.sg (by simp) (Lx.c10 (xqp F.bd hb 1 _ _ _ (Lx.sg (by simp) (Lx.c10 hx)))))))))))
theorem xqg (x:Bt×Int) (h:okN x.1/\0<=x.2/\x.2<=5) {s r:Bt} {ts:List Xt} (hx:Lx s r ts):Lx (Jt x++s) r (Hb x++ts):=by
 obtain⟨nm,z⟩:=x
 obtain⟨hn,h0,h5⟩:=h
 obtain⟨n,rfl⟩:=Int.eq_ofNat_of_zero_le h0
 dsimp only at *
 unfold Jt Hb
 by_cases hz:(0:Int)<(n:Int)
 ·simp only[if_pos hz,List.append_assoc,List.cons_append,List.nil_append,Int.toNat_natCast]
  exact Lx.word (w:=[103,108,111,98,97,108]) (by decide) (Qb (by decide)) (Lx.c32 (Lx.name hn.m (Qb (by decide)) (Lx.sg (by simp) (Lx.num (by omega) (Qb (by decide)) (Lx.sg (by simp) (Lx.sg (by simp) (Lx.c10 hx)))))))
 simp only[if_neg hz,List.append_assoc,List.cons_append,List.nil_append]
 exact Lx.word (w:=[103,108,111,98,97,108]) (by decide) (Qb (by decide)) (Lx.c32 (Lx.name hn.m (Qb (by decide)) (Lx.sg (by simp) (Lx.c10 hx))))
theorem Ll (ps:List Bt) (h:∀ p∈ps,p.length<=4) (hl:ps.length<=2):Yc (commX (ps.map λ p=>[nmX p]))<=69:=by
 match ps,h,hl with
 | [],_,_=>simp[commX,Yc]
 | [a],h,_=>have:=h a (by simp);simp[commX,Yc];omega
 | [a,b],h,_=>have:=h a (by simp);have:=h b (by simp);simp[commX,Yc];omega
 | _::_::_::_,_,hl=>simp at hl
theorem Cc (F:Fn) (hn:F.nm.length<=4) (hp:∀ p∈F.ps,p.length<=4) (hl:F.ps.length<=2) (hb:F.bd.wf) (hc:F.bd.cst<=9100):Yc (Wq F)<=9301:=by
 have h1:=Ll F.ps hp hl
 have h2:=Cg F.bd hb
 unfold Wq
 simp only[Yc,Yf,List.length_cons,List.length_nil]
 omega
theorem Cm (x:Bt×Int) (h:okN x.1/\0<=x.2/\x.2<=5):Yc (Hb x)<=152:=by
 have h1:=h.1.len
 have h2:=Dz x.2 h.2.1 h.2.2
 unfold Hb
 split
 ·simp only[Yc,Yf,List.length_cons,List.length_nil];omega
 simp only[Yc,Yf,List.length_cons,List.length_nil];omega
theorem Ss {α:Type} (f:α->Bt) (g:α->List Xt) (l:List α) (h:∀ a∈l,∀ {s r:Bt} {ts:List Xt},Lx s r ts->Lx (f a++s) r (g a++ts)) {s r:Bt} {ts:List Xt} (hx:Lx s r ts):Lx (l.flatMap f++s) r (l.flatMap g++ts):=by
 induction l with
 | nil=>exact hx
 | cons a l ih =>
  rw[List.flatMap_cons,List.flatMap_cons,List.append_assoc,List.append_assoc]
  exact h a (by simp) (ih (λ b hb=>h b (by simp[hb])))
theorem Dq {α:Type} (g:α->List Xt) (c:Nat) (l:List α) (h:∀ a∈l,Yc (g a)<=c):Yc (l.flatMap g)<=l.length*c:=by
 induction l with
 | nil=>simp[Yc]
 | cons a r ih =>
  rw[List.flatMap_cons,Yf,List.length_cons,Nat.add_mul]
  have:=h a (by simp)
  have:=ih (λ x hx=>h x (by simp[hx]))
  omega
theorem Jk.fn {w:World} {gs:List (Bt×Int)} {fs:List Fr} {Fs:List Fn} {aa ab:Option Addr} {ca cb:Nat} (h:Jk w gs fs Fs aa ca ab cb):∀ F∈Fs,okN F.nm/\(∀ p∈F.ps,okN p)/\F.bd.wf/\F.bd.cst<=9100/\F.ps.length<=2:=by
 intro F hF
 obtain⟨j,hj,e⟩:=List.mem_iff_getElem.1 hF
 obtain⟨f,hf,hFn⟩:=h.fns.get2 (j:=j) (F:=F) (by rw[List.getElem?_eq_getElem hj,e])
 have hk:=h.fok f (List.mem_of_getElem? hf)
 obtain⟨h1,h2,_,_,_,_,h7,_,h9,h10,_⟩:=hFn
 exact⟨h1▸hk.1,h7,h9,h10,by have:=hk.2;omega⟩
theorem Jk.scan {w:World} {gs:List (Bt×Int)} {fs:List Fr} {Fs:List Fn} {aa ab:Option Addr} {ca cb:Nat} (h:Jk w gs fs Fs aa ca ab cb) :
  ∃ ys ln,Go.Proofs.YtldgghnjminhiaaGreatDoor.scan (An gs Fs)=(some (ys++[⟨0,ln,0,[]⟩]),0)/\unl ys=Hu gs Fs/\(∀ x∈ys,Uf x)/\Vc 20 ys<=38000/\ys≠[]:=by
 have hx:Lx (An gs Fs) [] (Hu gs Fs):=by
  have h1:Lx (Fs.flatMap Gm++[]) [] (Fs.flatMap Wq++[]):=Ss Gm Wq Fs (λ F hF=>by
   obtain⟨k1,k2,k3,_⟩:=h.fn F hF
   intro s r ts hx
   exact xqm F k1 k2 k3 hx) (Lx.refl [])
  rw[List.append_nil,List.append_nil] at h1
  exact Ss Jt Hb gs (λ x hx=>λ hs=>xqg x (h.gok x hx) hs) h1
 obtain⟨ys,ln,e1,e2,e3⟩:=hx [] 1
 have hc:Yc (Hu gs Fs)<=38000:=by
  have h1:=Dq Hb 152 gs (λ x hx=>Cm x (h.gok x hx))
  have h2:=Dq Wq 9301 Fs (λ F hF=>by
   obtain⟨k1,k2,k3,k4,k5⟩:=h.fn F hF
   exact Cc F k1.len (λ p hp=>(k2 p hp).len) k5 k3 k4)
  have h3:=h.fns.len
  have h4:=h.gn
  have h5:=h.f4
  have h6:gs.length*152<=4*152:=Nat.mul_le_mul_right _ h4
  have h7:Fs.length*9301<=4*9301:=Nat.mul_le_mul_right _ (by omega)
  unfold Hu
  rw[Yf]
  omega
 refine⟨ys,ln,?_,e2,e3,by rw[<- Cz,e2];exact hc,?_⟩
 ·rw[xxj,e1,Dg]
  rfl
 intro e
 subst e
 have hF:∃ F r,Fs=F::r:=by
  have h3:=h.fns.len
  have h5:=h.f1
  cases Fs with
  | nil=>rw[List.length_nil] at h3;omega
  | cons F r=>exact⟨F,r,rfl⟩
 obtain⟨F,r,rfl⟩:=hF
 have:Hu gs (F::r)=[]:=e2.symm
 unfold Hu at this
 rw[List.flatMap_cons] at this
 have h1:=(List.append_eq_nil_iff.1 this).2
 have h2:=(List.append_eq_nil_iff.1 h1).1
 unfold Wq at h2
 cases h2
section
def isT (t:Bt):List Tk->Bool
 | x::_=>(x.k==3||x.k==4)&&x.t==t
 | []=>false
def Qm (t:Bt):Int :=
 if t=[60] then 8 else if t=[60,61] then 9 else if t=[61,61] then 10 else if t=[33,61] then 11 else if t=[43] then 3 else if t=[45] then 4
 else if t=[42] then 5 else if t=[47] then 6 else if t=[37] then 7 else 0
def Zv (lo hi:Int):List Tk->Int
 | x::_=>if x.k=4/\lo<=Qm x.t/\Qm x.t<=hi then Qm x.t else 0
 | []=>0
def Yb:List Tk->Int
 | x::_=>x.n
 | []=>0
def kOf:List Tk->Int
 | x::_=>x.k
 | []=>0
def tOf:List Tk->Bt
 | x::_=>x.t
 | []=>[]
def vOf:List Tk->Int
 | x::_=>x.v
 | []=>0
inductive PR where
 | ok (F:Fo) (r:List Tk)
 | bad (r:List Tk)
inductive Lv where
 | ex
 | exL (x:Fo)
 | an
 | anL (x:Fo)
 | cm
 | su
 | suL (x:Fo)
 | te
 | teL (x:Fo)
 | un
 | ca
 | caL (plain:Bool) (x:Fo)
 | ag (first:Bool) (F:Fo)
 | pr
def Hm:Fo->Hd
 | .cons h _ _=>h
 | .nil=>⟨0,0,0,0,[]⟩
abbrev nd (k op v ln:Int) (nm:Bt) (ar:Fo):Fo:=.cons ⟨k,op,v,ln,nm⟩ ar .nil
def bnP (o:Option PR) (k:Fo->List Tk->Option PR):Option PR:=match o with
 | none=>none
 | some (.bad r)=>some (.bad r)
 | some (.ok F r)=>k F r
def Ul (f:Lv->List Tk->Option PR) (lv:Lv) (ts:List Tk):Option PR:=match lv with
 | .ex=>bnP (f .an ts) λ x r=>f (.exL x) r
 | .exL x=>if isT [124,124] ts=true then bnP (f .an ts.tail) λ y r=>f (.exL (nd 8 0 0 (Yb ts) [] (x.app y))) r else some (.ok x ts)
 | .an=>bnP (f .cm ts) λ x r=>f (.anL x) r
 | .anL x=>if isT [38,38] ts=true then bnP (f .cm ts.tail) λ y r=>f (.anL (nd 7 0 0 (Yb ts) [] (x.app y))) r else some (.ok x ts)
 | .cm=>bnP (f .su ts) λ x r=>if Zv 8 11 r=0 then some (.ok x r) else bnP (f .su r.tail) λ y r2=>some (.ok (nd 6 (Zv 8 11 r) 0 (Yb r) [] (x.app y)) r2)
 | .su=>bnP (f .te ts) λ x r=>f (.suL x) r
 | .suL x=>if Zv 3 4 ts=0 then some (.ok x ts) else bnP (f .te ts.tail) λ y r=>f (.suL (nd 6 (Zv 3 4 ts) 0 (Yb ts) [] (x.app y))) r
 | .te=>bnP (f .un ts) λ x r=>f (.teL x) r
 | .teL x=>if Zv 5 7 ts=0 then some (.ok x ts) else bnP (f .un ts.tail) λ y r=>f (.teL (nd 6 (Zv 5 7 ts) 0 (Yb ts) [] (x.app y))) r
 | .un=>if isT [45] ts=true then bnP (f .un ts.tail) λ x r=>some (.ok (nd 5 1 0 (Yb ts) [] x) r)
   else if isT [33] ts=true then bnP (f .un ts.tail) λ x r=>some (.ok (nd 5 2 0 (Yb ts) [] x) r)
   else f .ca ts
 | .ca=>bnP (f .pr ts) λ x r=>f (.caL (kOf ts==1&&(Hm x).k==13) x) r
 | .caL plain x=>if isT [40] ts=true then bnP (f (.ag true .nil) ts.tail) λ F r=>f (.caL false (if plain=true then nd 9 0 0 (Yb ts) (Hm x).nm F else nd 10 0 0 (Yb ts) [] (x.app F))) r else some (.ok x ts)
 | .ag first F=>if isT [41] ts=true then some (.ok F ts.tail)
   else if first=true then bnP (f .ex ts) λ x r=>f (.ag false (F.app x)) r
   else if isT [44] ts=true then bnP (f .ex ts.tail) λ x r=>f (.ag false (F.app x)) r
   else some (.bad ts)
 | .pr=>if kOf ts=2 then some (.ok (nd 1 0 (vOf ts) (Yb ts) [] .nil) ts.tail)
   else if kOf ts=1 then
    (if isT [91] ts.tail=true then bnP (f .ex ts.tail.tail) λ x r=>if isT [93] r=true then some (.ok (nd 4 0 0 (Yb ts) (tOf ts) x) r.tail) else some (.bad r)
    else some (.ok (nd 13 0 0 (Yb ts) (tOf ts) .nil) ts.tail))
   else if isT [38] ts=true then (if kOf ts.tail=1 then some (.ok (nd 11 0 0 (Yb ts) (tOf ts.tail) .nil) ts.tail.tail) else some (.bad ts.tail))
   else if isT [114,101,97,100] ts=true then some (.ok (nd 12 0 0 (Yb ts) [] .nil) ts.tail)
   else if isT [40] ts=true then bnP (f .ex ts.tail) λ x r=>if isT [41] r=true then some (.ok x r.tail) else some (.bad r)
   else some (.bad ts)
def Pn:Nat->Lv->List Tk->Option PR
 | 0=>λ _ _=>none
 | n+1=>Ul (Pn n)
theorem Ov {o o':Option PR} {k k':Fo->List Tk->Option PR} {y:PR} (h:bnP o k=some y) (ho:∀ x,o=some x->o'=some x) (hk:∀ F r,k F r=some y->k' F r=some y):bnP o' k'=some y:=by
 unfold bnP at h ⊢
 cases o with
 | none=>cases h
 | some x =>
  rw[ho x rfl]
  cases x with
  | ok F r=>exact hk F r h
  | bad r=>exact h
theorem Pf {f g:Lv->List Tk->Option PR} (hfg:∀ lv ts y,f lv ts=some y->g lv ts=some y) (lv:Lv) (ts:List Tk) (y:PR) (h:Ul f lv ts=some y):Ul g lv ts=some y:=by
 have hb:∀ {lv2 ts2} {k k':Fo->List Tk->Option PR} {y:PR},bnP (f lv2 ts2) k=some y->(∀ F r,k F r=some y->k' F r=some y)->bnP (g lv2 ts2) k'=some y:=λ h hk=>Ov h (λ x=>hfg _ _ x) hk
 cases lv with
 | ex=>exact hb h λ _ _=>hfg _ _ _
 | exL x =>
  unfold Ul at h ⊢
  dsimp only at h ⊢
  split
  ·rename_i hc;rw[if_pos hc] at h;exact hb h λ _ _=>hfg _ _ _
  rename_i hc;rw[if_neg hc] at h;exact h
 | an=>exact hb h λ _ _=>hfg _ _ _
 | anL x =>
  unfold Ul at h ⊢
  dsimp only at h ⊢
  split
  ·rename_i hc;rw[if_pos hc] at h;exact hb h λ _ _=>hfg _ _ _
  rename_i hc;rw[if_neg hc] at h;exact h
 | cm =>
  refine hb h λ F r h=>?_
  split
  ·rename_i hc;rw[if_pos hc] at h;exact h
  rename_i hc;rw[if_neg hc] at h;exact hb h λ _ _ h=>h
 | su=>exact hb h λ _ _=>hfg _ _ _
 | suL x =>
  unfold Ul at h ⊢
  dsimp only at h ⊢
  split
  ·rename_i hc;rw[if_pos hc] at h;exact h
  rename_i hc;rw[if_neg hc] at h;exact hb h λ _ _=>hfg _ _ _
 | te=>exact hb h λ _ _=>hfg _ _ _
 | teL x =>
  unfold Ul at h ⊢
  dsimp only at h ⊢
  split
  ·rename_i hc;rw[if_pos hc] at h;exact h
  rename_i hc;rw[if_neg hc] at h;exact hb h λ _ _=>hfg _ _ _
 | un =>
  unfold Ul at h ⊢
  dsimp only at h ⊢
  split
  ·rename_i hc;rw[if_pos hc] at h;exact hb h λ _ _ h=>h
  rename_i hc
  rw[if_neg hc] at h
  split
  ·rename_i hc2;rw[if_pos hc2] at h;exact hb h λ _ _ h=>h
  rename_i hc2;rw[if_neg hc2] at h;exact hfg _ _ _ h
 | ca=>exact hb h λ _ _=>hfg _ _ _
 | caL p x =>
  unfold Ul at h ⊢
  dsimp only at h ⊢
  split
  ·rename_i hc;rw[if_pos hc] at h;exact hb h λ _ _=>hfg _ _ _
  rename_i hc;rw[if_neg hc] at h;exact h
 | ag b F =>
  unfold Ul at h ⊢
  dsimp only at h ⊢
  split
  ·rename_i hc;rw[if_pos hc] at h;exact h
  rename_i hc
  rw[if_neg hc] at h
  split
  ·rename_i hc2;rw[if_pos hc2] at h;exact hb h λ _ _=>hfg _ _ _
  rename_i hc2
  rw[if_neg hc2] at h
  split
  ·rename_i hc3;rw[if_pos hc3] at h;exact hb h λ _ _=>hfg _ _ _
  rename_i hc3;rw[if_neg hc3] at h;exact h
 | pr =>
  unfold Ul at h ⊢
  dsimp only at h ⊢
  split
  ·rename_i hc;rw[if_pos hc] at h;exact h
  rename_i c1
  rw[if_neg c1] at h
  split
  ·rename_i c2
   rw[if_pos c2] at h
   split
   ·rename_i c3;rw[if_pos c3] at h;exact hb h λ _ _ h=>h
   rename_i c3;rw[if_neg c3] at h;exact h
  rename_i c2
  rw[if_neg c2] at h
  split
  ·rename_i c3;rw[if_pos c3] at h;exact h
  rename_i c3
  rw[if_neg c3] at h
  split
  ·rename_i c4;rw[if_pos c4] at h;exact h
  rename_i c4
  rw[if_neg c4] at h
  split
  ·rename_i c5;rw[if_pos c5] at h;exact hb h λ _ _ h=>h
  rename_i c5;rw[if_neg c5] at h;exact h
theorem Tu (n:Nat):∀ lv ts y,Pn n lv ts=some y->Pn (n+1) lv ts=some y:=by
 induction n with
 | zero=>intro lv ts y h;cases h
 | succ n ih=>intro lv ts y h;exact Pf ih lv ts y h
theorem Pq {n m:Nat} (h:n<=m) {lv:Lv} {ts:List Tk} {y:PR} (hn:Pn n lv ts=some y):Pn m lv ts=some y:=by
 induction h with
 | refl=>exact hn
 | step _ ih=>exact Tu _ _ _ _ ih
def Ps (lv:Lv) (ts:List Tk) (y:PR):Prop:=∃ n,Pn n lv ts=some y
theorem Ps.det {lv:Lv} {ts:List Tk} {y z:PR} (h:Ps lv ts y) (k:Ps lv ts z):y=z:=by
 obtain⟨n,hn⟩:=h
 obtain⟨m,hm⟩:=k
 have h1:=Pq (Nat.le_max_left n m) hn
 have h2:=Pq (Nat.le_max_right n m) hm
 rw[h1] at h2
 injection h2
theorem Ps.mk0 {lv:Lv} {ts:List Tk} {y:PR} (h:∀ f,Ul f lv ts=some y):Ps lv ts y:=⟨1,h _⟩
theorem Ps.mk1 {lv l1:Lv} {ts t1:List Tk} {y y1:PR} (h1:Ps l1 t1 y1) (h:∀ f,f l1 t1=some y1->Ul f lv ts=some y):Ps lv ts y:=by
 obtain⟨n,hn⟩:=h1
 exact⟨n+1,h _ hn⟩
theorem Ps.mk2 {lv l1 l2:Lv} {ts t1 t2:List Tk} {y y1 y2:PR} (h1:Ps l1 t1 y1) (h2:Ps l2 t2 y2) (h:∀ f,f l1 t1=some y1->f l2 t2=some y2->Ul f lv ts=some y):Ps lv ts y:=by
 obtain⟨n,hn⟩:=h1
 obtain⟨m,hm⟩:=h2
 exact⟨max n m+1,h _ (Pq (Nat.le_max_left n m) hn) (Pq (Nat.le_max_right n m) hm)⟩
section
variable {ts r:List Tk} {x y:Fo} {z:PR}
theorem Ps.ex_ok (h:Ps .an ts (.ok x r)) (k:Ps (.exL x) r z):Ps .ex ts z:=.mk2 h k λ f e1 e2=>by show bnP _ _=_;rw[e1];exact e2
theorem Ps.ex_bad (h:Ps .an ts (.bad r)):Ps .ex ts (.bad r):=.mk1 h λ f e1=>by show bnP _ _=_;rw[e1];rfl
theorem Ps.exL_end (h:isT [124,124] ts=false):Ps (.exL x) ts (.ok x ts):=.mk0 λ f=>by show (if _ then _ else _)=_;rw[if_neg (by rw[h];simp)]
theorem Ps.exL_ok (h:isT [124,124] ts=true) (h1:Ps .an ts.tail (.ok y r)) (h2:Ps (.exL (nd 8 0 0 (Yb ts) [] (x.app y))) r z):Ps (.exL x) ts z:=.mk2 h1 h2 λ f e1 e2=>by show (if _ then _ else _)=_;rw[if_pos h,e1];exact e2
theorem Ps.exL_bad (h:isT [124,124] ts=true) (h1:Ps .an ts.tail (.bad r)):Ps (.exL x) ts (.bad r):=.mk1 h1 λ f e1=>by show (if _ then _ else _)=_;rw[if_pos h,e1];rfl
theorem Ps.an_ok (h:Ps .cm ts (.ok x r)) (k:Ps (.anL x) r z):Ps .an ts z:=.mk2 h k λ f e1 e2=>by show bnP _ _=_;rw[e1];exact e2
theorem Ps.an_bad (h:Ps .cm ts (.bad r)):Ps .an ts (.bad r):=.mk1 h λ f e1=>by show bnP _ _=_;rw[e1];rfl
theorem Ps.anL_end (h:isT [38,38] ts=false):Ps (.anL x) ts (.ok x ts):=.mk0 λ f=>by show (if _ then _ else _)=_;rw[if_neg (by rw[h];simp)]
theorem Ps.anL_ok (h:isT [38,38] ts=true) (h1:Ps .cm ts.tail (.ok y r)) (h2:Ps (.anL (nd 7 0 0 (Yb ts) [] (x.app y))) r z):Ps (.anL x) ts z:=.mk2 h1 h2 λ f e1 e2=>by show (if _ then _ else _)=_;rw[if_pos h,e1];exact e2
theorem Ps.anL_bad (h:isT [38,38] ts=true) (h1:Ps .cm ts.tail (.bad r)):Ps (.anL x) ts (.bad r):=.mk1 h1 λ f e1=>by show (if _ then _ else _)=_;rw[if_pos h,e1];rfl
theorem Ps.cm_end (h:Ps .su ts (.ok x r)) (h0:Zv 8 11 r=0):Ps .cm ts (.ok x r):=.mk1 h λ f e1=>by show bnP _ _=_;rw[e1];show (if _ then _ else _)=_;rw[if_pos h0]
theorem Ps.cm_bad (h:Ps .su ts (.bad r)):Ps .cm ts (.bad r):=.mk1 h λ f e1=>by show bnP _ _=_;rw[e1];rfl
theorem Ps.cm_two {r2:List Tk} (h:Ps .su ts (.ok x r)) (h0:Zv 8 11 r≠0) (k:Ps .su r.tail (.ok y r2)):Ps .cm ts (.ok (nd 6 (Zv 8 11 r) 0 (Yb r) [] (x.app y)) r2):=.mk2 h k λ f e1 e2=>by show bnP _ _=_;rw[e1];show (if _ then _ else _)=_;rw[if_neg h0,e2];rfl
theorem Ps.cm_two_bad {r2:List Tk} (h:Ps .su ts (.ok x r)) (h0:Zv 8 11 r≠0) (k:Ps .su r.tail (.bad r2)):Ps .cm ts (.bad r2):=.mk2 h k λ f e1 e2=>by show bnP _ _=_;rw[e1];show (if _ then _ else _)=_;rw[if_neg h0,e2];rfl
theorem Ps.su_ok (h:Ps .te ts (.ok x r)) (k:Ps (.suL x) r z):Ps .su ts z:=.mk2 h k λ f e1 e2=>by show bnP _ _=_;rw[e1];exact e2
theorem Ps.su_bad (h:Ps .te ts (.bad r)):Ps .su ts (.bad r):=.mk1 h λ f e1=>by show bnP _ _=_;rw[e1];rfl
theorem Ps.suL_end (h:Zv 3 4 ts=0):Ps (.suL x) ts (.ok x ts):=.mk0 λ f=>by show (if _ then _ else _)=_;rw[if_pos h]
theorem Ps.suL_ok (h:Zv 3 4 ts≠0) (h1:Ps .te ts.tail (.ok y r)) (h2:Ps (.suL (nd 6 (Zv 3 4 ts) 0 (Yb ts) [] (x.app y))) r z):Ps (.suL x) ts z:=.mk2 h1 h2 λ f e1 e2=>by show (if _ then _ else _)=_;rw[if_neg h,e1];exact e2
theorem Ps.suL_bad (h:Zv 3 4 ts≠0) (h1:Ps .te ts.tail (.bad r)):Ps (.suL x) ts (.bad r):=.mk1 h1 λ f e1=>by show (if _ then _ else _)=_;rw[if_neg h,e1];rfl
theorem Ps.te_ok (h:Ps .un ts (.ok x r)) (k:Ps (.teL x) r z):Ps .te ts z:=.mk2 h k λ f e1 e2=>by show bnP _ _=_;rw[e1];exact e2
theorem Ps.te_bad (h:Ps .un ts (.bad r)):Ps .te ts (.bad r):=.mk1 h λ f e1=>by show bnP _ _=_;rw[e1];rfl
theorem Ps.teL_end (h:Zv 5 7 ts=0):Ps (.teL x) ts (.ok x ts):=.mk0 λ f=>by show (if _ then _ else _)=_;rw[if_pos h]
theorem Ps.teL_ok (h:Zv 5 7 ts≠0) (h1:Ps .un ts.tail (.ok y r)) (h2:Ps (.teL (nd 6 (Zv 5 7 ts) 0 (Yb ts) [] (x.app y))) r z):Ps (.teL x) ts z:=.mk2 h1 h2 λ f e1 e2=>by show (if _ then _ else _)=_;rw[if_neg h,e1];exact e2
theorem Ps.teL_bad (h:Zv 5 7 ts≠0) (h1:Ps .un ts.tail (.bad r)):Ps (.teL x) ts (.bad r):=.mk1 h1 λ f e1=>by show (if _ then _ else _)=_;rw[if_neg h,e1];rfl
theorem Ps.un_neg (h:isT [45] ts=true) (h1:Ps .un ts.tail (.ok x r)):Ps .un ts (.ok (nd 5 1 0 (Yb ts) [] x) r):=.mk1 h1 λ f e1=>by show (if _ then _ else _)=_;rw[if_pos h,e1];rfl
theorem Ps.un_neg_bad (h:isT [45] ts=true) (h1:Ps .un ts.tail (.bad r)):Ps .un ts (.bad r):=.mk1 h1 λ f e1=>by show (if _ then _ else _)=_;rw[if_pos h,e1];rfl
theorem Ps.un_not (h0:isT [45] ts=false) (h:isT [33] ts=true) (h1:Ps .un ts.tail (.ok x r)):Ps .un ts (.ok (nd 5 2 0 (Yb ts) [] x) r):=.mk1 h1 λ f e1=>by show (if _ then _ else _)=_;rw[if_neg (by rw[h0];simp),if_pos h,e1];rfl
theorem Ps.un_not_bad (h0:isT [45] ts=false) (h:isT [33] ts=true) (h1:Ps .un ts.tail (.bad r)):Ps .un ts (.bad r):=.mk1 h1 λ f e1=>by show (if _ then _ else _)=_;rw[if_neg (by rw[h0];simp),if_pos h,e1];rfl
theorem Ps.un_ca (h0:isT [45] ts=false) (h:isT [33] ts=false) (h1:Ps .ca ts z):Ps .un ts z:=.mk1 h1 λ f e1=>by show (if _ then _ else _)=_;rw[if_neg (by rw[h0];simp),if_neg (by rw[h];simp)];exact e1
theorem Ps.ca_ok {p:Bool} (h:Ps .pr ts (.ok x r)) (hp:p=(kOf ts==1&&(Hm x).k==13)) (k:Ps (.caL p x) r z):Ps .ca ts z:=.mk2 h k λ f e1 e2=>by show bnP _ _=_;rw[e1];rw[hp] at e2;exact e2
theorem Ps.ca_bad (h:Ps .pr ts (.bad r)):Ps .ca ts (.bad r):=.mk1 h λ f e1=>by show bnP _ _=_;rw[e1];rfl
theorem Ps.caL_end {p:Bool} (h:isT [40] ts=false):Ps (.caL p x) ts (.ok x ts):=.mk0 λ f=>by show (if _ then _ else _)=_;rw[if_neg (by rw[h];simp)]
theorem Ps.caL_call (h:isT [40] ts=true) (h1:Ps (.ag true .nil) ts.tail (.ok y r)) (h2:Ps (.caL false (nd 9 0 0 (Yb ts) (Hm x).nm y)) r z):Ps (.caL true x) ts z:=.mk2 h1 h2 λ f e1 e2=>by show (if _ then _ else _)=_;rw[if_pos h,e1];exact e2
theorem Ps.caL_value (h:isT [40] ts=true) (h1:Ps (.ag true .nil) ts.tail (.ok y r)) (h2:Ps (.caL false (nd 10 0 0 (Yb ts) [] (x.app y))) r z):Ps (.caL false x) ts z:=.mk2 h1 h2 λ f e1 e2=>by show (if _ then _ else _)=_;rw[if_pos h,e1];exact e2
theorem Ps.caL_bad {p:Bool} (h:isT [40] ts=true) (h1:Ps (.ag true .nil) ts.tail (.bad r)):Ps (.caL p x) ts (.bad r):=.mk1 h1 λ f e1=>by show (if _ then _ else _)=_;rw[if_pos h,e1];rfl
theorem Ps.ag_end {b:Bool} {F:Fo} (h:isT [41] ts=true):Ps (.ag b F) ts (.ok F ts.tail):=.mk0 λ f=>by show (if _ then _ else _)=_;rw[if_pos h]
theorem Ps.ag_first {F:Fo} (h:isT [41] ts=false) (h1:Ps .ex ts (.ok x r)) (h2:Ps (.ag false (F.app x)) r z):Ps (.ag true F) ts z:=.mk2 h1 h2 λ f e1 e2=>by show (if _ then _ else _)=_;rw[if_neg (by rw[h];simp),if_pos rfl,e1];exact e2
theorem Ps.ag_first_bad {F:Fo} (h:isT [41] ts=false) (h1:Ps .ex ts (.bad r)):Ps (.ag true F) ts (.bad r):=.mk1 h1 λ f e1=>by show (if _ then _ else _)=_;rw[if_neg (by rw[h];simp),if_pos rfl,e1];rfl
theorem Ps.ag_next {F:Fo} (h:isT [41] ts=false) (hc:isT [44] ts=true) (h1:Ps .ex ts.tail (.ok x r)) (h2:Ps (.ag false (F.app x)) r z):Ps (.ag false F) ts z:=.mk2 h1 h2 λ f e1 e2=>by show (if _ then _ else _)=_;rw[if_neg (by rw[h];simp),if_neg (by simp),if_pos hc,e1];exact e2
theorem Ps.ag_next_bad {F:Fo} (h:isT [41] ts=false) (hc:isT [44] ts=true) (h1:Ps .ex ts.tail (.bad r)):Ps (.ag false F) ts (.bad r):=.mk1 h1 λ f e1=>by show (if _ then _ else _)=_;rw[if_neg (by rw[h];simp),if_neg (by simp),if_pos hc,e1];rfl
theorem Ps.ag_bad {F:Fo} (h:isT [41] ts=false) (hc:isT [44] ts=false):Ps (.ag false F) ts (.bad ts):=.mk0 λ f=>by show (if _ then _ else _)=_;rw[if_neg (by rw[h];simp),if_neg (by simp),if_neg (by rw[hc];simp)]
theorem Ps.pr_num (h:kOf ts=2):Ps .pr ts (.ok (nd 1 0 (vOf ts) (Yb ts) [] .nil) ts.tail):=.mk0 λ f=>by show (if _ then _ else _)=_;rw[if_pos h]
theorem Ps.pr_name (h:kOf ts=1) (hb:isT [91] ts.tail=false):Ps .pr ts (.ok (nd 13 0 0 (Yb ts) (tOf ts) .nil) ts.tail):=.mk0 λ f=>by show (if _ then _ else _)=_;rw[if_neg (by omega),if_pos h,if_neg (by rw[hb];simp)]
theorem Ps.pr_el (h:kOf ts=1) (hb:isT [91] ts.tail=true) (h1:Ps .ex ts.tail.tail (.ok x r)) (hc:isT [93] r=true):Ps .pr ts (.ok (nd 4 0 0 (Yb ts) (tOf ts) x) r.tail):=.mk1 h1 λ f e1=>by show (if _ then _ else _)=_;rw[if_neg (by omega),if_pos h,if_pos hb,e1];show (if _ then _ else _)=_;rw[if_pos hc]
theorem Ps.pr_el_bad (h:kOf ts=1) (hb:isT [91] ts.tail=true) (h1:Ps .ex ts.tail.tail (.bad r)):Ps .pr ts (.bad r):=.mk1 h1 λ f e1=>by show (if _ then _ else _)=_;rw[if_neg (by omega),if_pos h,if_pos hb,e1];rfl
theorem Ps.pr_el_bad2 (h:kOf ts=1) (hb:isT [91] ts.tail=true) (h1:Ps .ex ts.tail.tail (.ok x r)) (hc:isT [93] r=false):Ps .pr ts (.bad r):=.mk1 h1 λ f e1=>by show (if _ then _ else _)=_;rw[if_neg (by omega),if_pos h,if_pos hb,e1];show (if _ then _ else _)=_;rw[if_neg (by rw[hc];simp)]
theorem Qx {t:Bt} (h:isT t ts=true):kOf ts≠1/\kOf ts≠2/\kOf ts≠0/\tOf ts=t:=by
 cases ts with
 | nil=>cases h
 | cons x r =>
  simp only[isT,Bool.and_eq_true,Bool.or_eq_true,beq_iff_eq] at h
  exact⟨by show x.k≠1;omega,by show x.k≠2;omega,by show x.k≠0;omega,h.2⟩
theorem Kx {t u:Bt} (h:isT t ts=true) (hne:t≠u):isT u ts=false:=by
 cases ts with
 | nil=>cases h
 | cons x r =>
  simp only[isT,Bool.and_eq_true,beq_iff_eq] at h
  cases hh:isT u (x::r) with
  | false=>rfl
  | true =>
   simp only[isT,Bool.and_eq_true,beq_iff_eq] at hh
   exact absurd (h.2.symm.trans hh.2) hne
theorem Ps.pr_func (h:isT [38] ts=true) (hb:kOf ts.tail=1):Ps .pr ts (.ok (nd 11 0 0 (Yb ts) (tOf ts.tail) .nil) ts.tail.tail):=.mk0 λ f=>by
 obtain⟨h1,h2,_⟩:=Qx h
 show (if _ then _ else _)=_;rw[if_neg h2,if_neg h1,if_pos h,if_pos hb]
theorem Ps.pr_func_bad (h:isT [38] ts=true) (hb:kOf ts.tail≠1):Ps .pr ts (.bad ts.tail):=.mk0 λ f=>by
 obtain⟨h1,h2,_⟩:=Qx h
 show (if _ then _ else _)=_;rw[if_neg h2,if_neg h1,if_pos h,if_neg hb]
theorem Ps.pr_read (h:isT [114,101,97,100] ts=true):Ps .pr ts (.ok (nd 12 0 0 (Yb ts) [] .nil) ts.tail):=.mk0 λ f=>by
 obtain⟨h1,h2,_⟩:=Qx h
 show (if _ then _ else _)=_;rw[if_neg h2,if_neg h1,if_neg (by rw[Kx h (by decide)];simp),if_pos h]
theorem Ps.pr_par (h:isT [40] ts=true) (h1:Ps .ex ts.tail (.ok x r)) (hc:isT [41] r=true):Ps .pr ts (.ok x r.tail):=.mk1 h1 λ f e1=>by
 obtain⟨k1,k2,_⟩:=Qx h
 show (if _ then _ else _)=_;rw[if_neg k2,if_neg k1,if_neg (by rw[Kx h (by decide)];simp),if_neg (by rw[Kx h (by decide)];simp),if_pos h,e1];show (if _ then _ else _)=_;rw[if_pos hc]
theorem Ps.pr_par_bad (h:isT [40] ts=true) (h1:Ps .ex ts.tail (.bad r)):Ps .pr ts (.bad r):=.mk1 h1 λ f e1=>by
 obtain⟨k1,k2,_⟩:=Qx h
 show (if _ then _ else _)=_;rw[if_neg k2,if_neg k1,if_neg (by rw[Kx h (by decide)];simp),if_neg (by rw[Kx h (by decide)];simp),if_pos h,e1];rfl
theorem Ps.pr_par_bad2 (h:isT [40] ts=true) (h1:Ps .ex ts.tail (.ok x r)) (hc:isT [41] r=false):Ps .pr ts (.bad r):=.mk1 h1 λ f e1=>by
 obtain⟨k1,k2,_⟩:=Qx h
 show (if _ then _ else _)=_;rw[if_neg k2,if_neg k1,if_neg (by rw[Kx h (by decide)];simp),if_neg (by rw[Kx h (by decide)];simp),if_pos h,e1];show (if _ then _ else _)=_;rw[if_neg (by rw[hc];simp)]
theorem Ps.pr_bad (h1:kOf ts≠1) (h2:kOf ts≠2) (h3:isT [38] ts=false) (h4:isT [114,101,97,100] ts=false) (h5:isT [40] ts=false):Ps .pr ts (.bad ts):=.mk0 λ f=>by
 show (if _ then _ else _)=_;rw[if_neg h2,if_neg h1,if_neg (by rw[h3];simp),if_neg (by rw[h4];simp),if_neg (by rw[h5];simp)]
end
theorem Uq {ts:List Tk} (h:ts≠[]):ts.tail.length<ts.length:=by
 cases ts with
 | nil=>exact absurd rfl h
 | cons x r=>simp
end
def Tv (x:Tk):Prop:=(x.k=1\/x.k=2\/x.k=3\/x.k=4)/\(x.k=3->isW x.t=true)/\(x.k=4->isS x.t=true)
theorem Uf.tv {x:Tk} (h:Uf x):Tv x:=by
 obtain⟨ln0,b,l,hst⟩:=h
 obtain⟨_,_,_,_,h5,_⟩:=Uy hst
 unfold nxI at h5
 dsimp only at h5
 split at h5
 ·injection h5 with e h5
  injection h5 with _ h5
  injection h5 with e2 h5
  rw[e2] at e
  split at e
  ·rename_i hw;exact⟨by omega,λ _=>hw,λ e3=>by omega⟩
  exact⟨by omega,λ e3=>by omega,λ e3=>by omega⟩
 split at h5
 ·split at h5
  ·injection h5 with e _;exact⟨by omega,λ e3=>by omega,λ e3=>by omega⟩
  injection h5 with e _;exact⟨by omega,λ e3=>by omega,λ e3=>by omega⟩
 split at h5
 ·rename_i hc
  injection h5 with e h5
  injection h5 with _ h5
  injection h5 with e2 _
  exact⟨by omega,λ e3=>by omega,λ _=>by rw[<- e2];exact hc.2⟩
 injection h5 with e h5
 injection h5 with _ h5
 injection h5 with e2 h5
 exact⟨by omega,λ e3=>by omega,λ _=>by rw[<- e2];exact h5⟩
def Jd:List Tk->Prop
 | []=>False
 | [x]=>x.k=0
 | x::y::r=>Tv x/\Jd (y::r)
theorem Jd.of {ys:List Tk} {ln:Int} (h:∀ x∈ys,Tv x):Jd (ys++[⟨0,ln,0,[]⟩]):=by
 induction ys with
 | nil=>rfl
 | cons x ys ih =>
  have h1:=ih (λ z hz=>h z (by simp[hz]))
  cases ys with
  | nil=>exact⟨h x (by simp),h1⟩
  | cons y ys=>exact⟨h x (by simp),h1⟩
theorem Jd.scan {l:Bt} {ts:List Tk} {y:Int} (h:Go.Proofs.YtldgghnjminhiaaGreatDoor.scan l=(some ts,y)):Jd ts:=by
 obtain⟨ys,ln,rfl,_,h3,_⟩:=Hn h
 exact Jd.of λ x hx=>(h3 x hx).tv
theorem Jd.cons {ts:List Tk} (h:Jd ts):∃ x r,ts=x::r:=by
 cases ts with
 | nil=>exact absurd h id
 | cons x r=>exact⟨x,r,rfl⟩
theorem Jd.more {x:Tk} {r:List Tk} (h:Jd (x::r)) (hk:x.k≠0):Jd r/\Tv x:=by
 cases r with
 | nil=>exact absurd h hk
 | cons y r=>exact⟨h.2,h.1⟩
theorem Jd.tv {x:Tk} {r:List Tk} (h:Jd (x::r)):x.k=0\/Tv x:=by
 cases r with
 | nil=>exact .inl h
 | cons y r=>exact .inr h.1
theorem Jd.isT {t:Bt} {ts:List Tk} (h:Jd ts) (k:Go.Proofs.YtldgghnjminhiaaGreatDoor.isT t ts=true):Jd ts.tail:=by
 obtain⟨x,r,rfl⟩:=h.cons
 have h0:=(Qx k).2.2.1
 exact(h.more h0).1
theorem Jd.kOf {ts:List Tk} (h:Jd ts) (k:Go.Proofs.YtldgghnjminhiaaGreatDoor.kOf ts≠0):Jd ts.tail:=by
 obtain⟨x,r,rfl⟩:=h.cons
 exact(h.more k).1
theorem Mj (t:Bt):0<=Qm t/\Qm t<=11:=by
 unfold Qm
 (repeat' split)<;>omega
theorem xjl {lo hi:Int} (ts:List Tk):0<=Zv lo hi ts/\Zv lo hi ts<=11:=by
 cases ts with
 | nil=>exact⟨Int.le_refl _,by show (0:Int)<=11;omega⟩
 | cons x r =>
  show 0<=(if x.k=4/\lo<=Qm x.t/\Qm x.t<=hi then Qm x.t else 0)/\(if x.k=4/\lo<=Qm x.t/\Qm x.t<=hi then Qm x.t else 0)<=11
  split
  ·exact Mj x.t
  omega
def Fo.drop:Fo->Nat->Fo
 | F,0=>F
 | .nil,_+1=>.nil
 | .cons _ _ r,i+1=>r.drop i
def eqF (lines:Bool):Fo->Fo->Bool
 | .nil,.nil=>true
 | .cons h a r,.cons h' a' r'=>(h.k==h'.k&&(h.op==h'.op&&(h.v==h'.v&&(h.nm==h'.nm&&((!lines||h.ln==h'.ln)&&eqF lines a a')))))&&eqF lines r r'
 | _,_=>false
theorem Tz {lines:Bool} {F G:Fo} (h:F.len≠G.len):eqF lines F G=false:=by
 induction F generalizing G with
 | nil=>cases G with
  | nil=>exact absurd rfl h
  | cons h a r=>rfl
 | cons h1 a1 r1 _ ih =>
  cases G with
  | nil=>rfl
  | cons h2 a2 r2 =>
   have:=ih (G:=r2) (λ e=>h (by simp only[Fo.len,e]))
   simp[eqF,this]
theorem Fo.drop_get {F:Fo} {i:Nat} {x:Hd×Fo} (h:F.get i=some x):F.drop i=.cons x.1 x.2 (F.drop (i+1)):=by
 induction F generalizing i with
 | nil=>cases h
 | cons h1 a1 r1 _ ih =>
  cases i with
  | zero=>injection h with h;subst h;cases r1<;>rfl
  | succ i =>
   have:=ih (i:=i) h
   show r1.drop i=_
   rw[this]
   rfl
theorem Fo.drop_len (F:Fo):F.drop F.len=.nil:=by
 induction F with
 | nil=>rfl
 | cons h1 a1 r1 _ ih=>exact ih
theorem Fo.app_asc (F G H:Fo):(F.app G).app H=F.app (G.app H):=by
 induction F with
 | nil=>rfl
 | cons h a r _ ih=>show Fo.cons h a _=Fo.cons h a _;rw[ih]
theorem Fo.app_nil3 (F:Fo):F.app .nil=F:=by
 induction F with
 | nil=>rfl
 | cons h a r _ ih=>show Fo.cons h a _=Fo.cons h a _;rw[ih]
theorem Kh {l:Bool} {F F' G G':Fo} (h:eqF l F F'=true) (k:eqF l G G'=true):eqF l (F.app G) (F'.app G')=true:=by
 induction F generalizing F' with
 | nil =>
  cases F' with
  | nil=>exact k
  | cons h a r=>cases h
 | cons h1 a1 r1 _ ih =>
  cases F' with
  | nil=>cases h
  | cons h2 a2 r2 =>
   simp only[eqF,Bool.and_eq_true] at h
   show eqF l (.cons h1 a1 (r1.app G)) (.cons h2 a2 (r2.app G'))=true
   simp only[eqF,Bool.and_eq_true]
   exact⟨h.1,ih h.2⟩
theorem xqs {F:Fo} {h:Hd} {ar:Fo} (e:eqF false F (Xb h ar)=true):∃ h' ar',F=Xb h' ar'/\h'.k=h.k/\h'.op=h.op/\h'.v=h.v/\h'.nm=h.nm/\eqF false ar' ar=true:=by
 cases F with
 | nil=>cases e
 | cons h1 a1 r1 =>
  cases r1 with
  | nil=>simp[eqF] at e;exact⟨h1,a1,rfl,e.1,e.2.1,e.2.2.1,e.2.2.2.1,e.2.2.2.2⟩
  | cons h2 a2 r2=>simp[eqF] at e
theorem Uc {h' h:Hd} {ar' ar:Fo} (h1:h'.k=h.k) (h2:h'.op=h.op) (h3:h'.v=h.v) (h4:h'.nm=h.nm) (h5:eqF false ar' ar=true):eqF false (Xb h' ar') (Xb h ar)=true:=by
 simp[eqF,h1,h2,h3,h4,h5]
theorem Xd {ts:List Tk} {k v:Int} {t:Bt} {R:List Xt} (h:unl ts=(k,v,t)::R):kOf ts=k/\vOf ts=v/\tOf ts=t/\unl ts.tail=R/\(∀ u,isT u ts=((k==3||k==4)&&t==u))/\∀ lo hi,Zv lo hi ts=(if k=4/\lo<=Qm t/\Qm t<=hi then Qm t else 0):=by
 cases ts with
 | nil=>cases h
 | cons x r =>
  unfold unl at h
  rw[List.map_cons] at h
  injection h with h1 h2
  injection h1 with h1 h3
  injection h3 with h3 h4
  subst h1 h3 h4
  exact⟨rfl,rfl,rfl,h2,λ u=>rfl,λ lo hi=>rfl⟩
def enX:Bt->Xt
 | []=>(0,0,[])
 | b::t=>sgX (b::t)
def xxh:List Bt:=[[],[41],[93],[44],[59],[123]]
def stE (R:List Xt):Prop:=∃ t R',R=enX t::R'/\t∈xxh
def xjh:List Bt:=[[41],[93],[44],[59],[123],[38,38],[124,124],[43],[45],[42],[47],[37],[60],[60,61],[61,61],[33,61]]
def stO (R:List Xt):Prop:=(∃ t R',R=sgX t::R'/\t∈xjh)\/∃ R',R=(0,0,[])::R'
theorem stE.o {R:List Xt} (h:stE R):stO R:=by
 obtain⟨t,R',e,h⟩:=h
 simp only[xxh,List.mem_cons,List.not_mem_nil,or_false] at h
 rcases h with rfl|rfl|rfl|rfl|rfl|rfl
 ·exact .inr ⟨R',e⟩
 all_goals exact .inl ⟨_,R',e,by decide⟩
theorem stO.no {R:List Xt} (h:stO R) {ts:List Tk} (e:unl ts=R):isT [40] ts=false/\isT [91] ts=false:=by
 rcases h with⟨t,R',rfl,h⟩|⟨R',rfl⟩
 ·obtain⟨_,_,_,_,h5,_⟩:=Xd e
  rw[h5,h5]
  simp only[xjh,List.mem_cons,List.not_mem_nil,or_false] at h
  rcases h with rfl|rfl|rfl|rfl|rfl|rfl|rfl|rfl|rfl|rfl|rfl|rfl|rfl|rfl|rfl|rfl<;>decide
 obtain⟨_,_,_,_,h5,_⟩:=Xd e
 rw[h5,h5]
 decide
theorem stE.no {R:List Xt} (h:stE R) {ts:List Tk} (e:unl ts=R):Zv 5 7 ts=0/\Zv 3 4 ts=0/\Zv 8 11 ts=0/\isT [38,38] ts=false/\isT [124,124] ts=false:=by
 obtain⟨t,R',rfl,h⟩:=h
 simp only[xxh,List.mem_cons,List.not_mem_nil,or_false] at h
 rcases h with rfl|rfl|rfl|rfl|rfl|rfl
 all_goals (
  obtain⟨_,_,_,_,h5,h6⟩:=Xd e
  rw[h5,h5,h6,h6,h6]
  exact⟨by decide,by decide,by decide,by decide,by decide⟩)
theorem Ps.up_te {ts r:List Tk} {F:Fo} (h:Ps .un ts (.ok F r)) (h1:Zv 5 7 r=0):Ps .te ts (.ok F r):=Ps.te_ok h (Ps.teL_end h1)
theorem Ps.up_su {ts r:List Tk} {F:Fo} (h:Ps .te ts (.ok F r)) (h1:Zv 3 4 r=0):Ps .su ts (.ok F r):=Ps.su_ok h (Ps.suL_end h1)
theorem Ps.up_ex {ts r:List Tk} {F:Fo} (h:Ps .cm ts (.ok F r)) (h1:isT [38,38] r=false) (h2:isT [124,124] r=false):Ps .ex ts (.ok F r):=Ps.ex_ok (Ps.an_ok h (Ps.anL_end h1)) (Ps.exL_end h2)
theorem Ps.up_all {ts r:List Tk} {F:Fo} {R:List Xt} (h:Ps .un ts (.ok F r)) (he:unl r=R) (hs:stE R):Ps .ex ts (.ok F r):=by
 obtain⟨h1,h2,h3,h4,h5⟩:=hs.no he
 exact Ps.up_ex (Ps.cm_end (Ps.up_su (Ps.up_te h h1) h2) h3) h4 h5
def PaE (h:Hd) (ar:Fo):Prop :=
 (∀ ts R,unl ts=Yh h ar++R->isT [41] ts=false/\isT [125] ts=false) /\
 (∀ ts R,unl ts=Yh h ar++R->stE R->∃ F r,Ps .ex ts (.ok F r)/\unl r=R/\eqF false F (Xb h ar)=true) /\
 (Uw h=false->∀ ts R,unl ts=Yh h ar++R->isT [45] ts=false/\isT [33] ts=false/\((∀ (r:List Tk),unl r=R->isT [91] r=false) ->
  ∃ F r,unl r=R/\eqF false F (Xb h ar)=true/\∀ z,Ps (.caL (h.k==13) F) r z->Ps .ca ts z))
theorem PaE.opr {h:Hd} {ar:Fo} (k:PaE h ar) {ts:List Tk} {R:List Xt} (e:unl ts=Qq h (Yh h ar)++R) (hs:∀ r:List Tk,unl r=R->isT [40] r=false/\isT [91] r=false) :
  ∃ F r,Ps .un ts (.ok F r)/\unl r=R/\eqF false F (Xb h ar)=true:=by
 unfold Qq at e
 by_cases hc:Uw h=true
 ·rw[if_pos hc] at e
  unfold Vl at e
  simp only[List.cons_append,List.append_assoc,List.nil_append] at e
  obtain⟨a1,a2,a3,a4,a5,a6⟩:=Xd e
  obtain⟨F,r,p1,p2,p3⟩:=k.2.1 _ _ a4 ⟨[41],R,rfl,by decide⟩
  obtain⟨b1,b2,b3,b4,b5,b6⟩:=Xd p2
  refine⟨F,r.tail,?_,b4,p3⟩
  have hp:Ps .pr ts (.ok F r.tail):=Ps.pr_par (by rw[a5];decide) p1 (by rw[b5];decide)
  exact Ps.un_ca (by rw[a5];decide) (by rw[a5];decide) (Ps.ca_ok (p:=false) hp (by rw[a1];rfl) (Ps.caL_end (hs _ b4).1))
 rw[if_neg hc] at e
 obtain⟨h1,h2,h3⟩:=k.2.2 (by simpa using hc) _ _ e
 obtain⟨F,r,q1,q2,q3⟩:=h3 (λ r hr=>(hs r hr).2)
 exact⟨F,r,Ps.un_ca h1 h2 (q3 _ (Ps.caL_end (hs _ q1).1)),q1,q2⟩
theorem PaE.hd {h:Hd} {ar:Fo} (k:PaE h ar) (hk:h.k≠13) {ts:List Tk} {R:List Xt} (e:unl ts=Qq h (Yh h ar)++(sgX [40]::R)) :
  isT [45] ts=false/\isT [33] ts=false/\∃ F r,unl r=sgX [40]::R/\eqF false F (Xb h ar)=true/\∀ z,Ps (.caL false F) r z->Ps .ca ts z:=by
 unfold Qq at e
 by_cases hc:Uw h=true
 ·rw[if_pos hc] at e
  unfold Vl at e
  simp only[List.cons_append,List.append_assoc,List.nil_append] at e
  obtain⟨a1,a2,a3,a4,a5,a6⟩:=Xd e
  obtain⟨F,r,p1,p2,p3⟩:=k.2.1 _ _ a4 ⟨[41],_,rfl,by decide⟩
  obtain⟨b1,b2,b3,b4,b5,b6⟩:=Xd p2
  refine⟨by rw[a5];decide,by rw[a5];decide,F,r.tail,b4,p3,λ z hz=>?_⟩
  have hp:Ps .pr ts (.ok F r.tail):=Ps.pr_par (by rw[a5];decide) p1 (by rw[b5];decide)
  exact Ps.ca_ok (p:=false) hp (by rw[a1];rfl) hz
 rw[if_neg hc] at e
 obtain⟨h1,h2,h3⟩:=k.2.2 (by simpa using hc) _ _ e
 obtain⟨F,r,q1,q2,q3⟩:=h3 (λ r hr=>by obtain⟨_,_,_,_,h5,_⟩:=Xd hr;rw[h5];decide)
 refine⟨h1,h2,F,r,q1,q2,λ z hz=>q3 z ?_⟩
 rw[show (h.k==13)=false by simpa using hk]
 exact hz
def tlX:List (List Xt)->List Xt
 | []=>[]
 | s::r=>sgX [44]::(s++tlX r)
theorem Gn (s:List Xt) (l:List (List Xt)):commX (s::l)=s++tlX l:=by
 induction l generalizing s with
 | nil=>simp[commX,tlX]
 | cons a l ih =>
  show s++(sgX [44]::commX (a::l))=_
  rw[ih a]
  rfl
theorem PaE.agN (F:Fo) (hF:∀ j x,F.get j=some x->PaE x.1 x.2):∀ ts R (acc:Fo),unl ts=tlX ((Zr F).map (·.2))++(sgX [41]::R)->∃ G r,Ps (.ag false acc) ts (.ok (acc.app G) r)/\unl r=R/\eqF false G F=true:=by
 induction F with
 | nil =>
  intro ts R acc e
  obtain⟨a1,a2,a3,a4,a5,a6⟩:=Xd (show unl ts=sgX [41]::R from e)
  exact⟨.nil,ts.tail,by rw[Fo.app_nil3];exact Ps.ag_end (by rw[a5];decide),a4,rfl⟩
 | cons h ar F _ ih =>
  intro ts R acc e
  have e:unl ts=sgX [44]::(Yh h ar++(tlX ((Zr F).map (·.2))++(sgX [41]::R))):=by
   rw[e]
   show (sgX [44]::(Yh h ar++tlX ((Zr F).map (·.2))))++_=_
   simp
  obtain⟨a1,a2,a3,a4,a5,a6⟩:=Xd e
  obtain⟨G,r,p1,p2,p3⟩:=(hF 0 (h,ar) rfl).2.1 _ _ a4 (by
   cases F with
   | nil=>exact⟨[41],R,rfl,by decide⟩
   | cons h2 a2 F2=>exact⟨[44],_,rfl,by decide⟩)
  obtain⟨G2,r2,q1,q2,q3⟩:=ih (λ j x hj=>hF (j+1) x hj) r R (acc.app G) p2
  refine⟨G.app G2,r2,?_,q2,?_⟩
  ·rw[<- Fo.app_asc]
   exact Ps.ag_next (by rw[a5];decide) (by rw[a5];decide) p1 q1
  exact Kh (F':=Xb h ar) p3 q3
theorem PaE.ags (F:Fo) (hF:∀ j x,F.get j=some x->PaE x.1 x.2) {ts:List Tk} {R:List Xt} (e:unl ts=commX ((Zr F).map (·.2))++(sgX [41]::R)):∃ G r,Ps (.ag true .nil) ts (.ok G r)/\unl r=R/\eqF false G F=true:=by
 cases F with
 | nil =>
  obtain⟨a1,a2,a3,a4,a5,a6⟩:=Xd (show unl ts=sgX [41]::R from e)
  exact⟨.nil,ts.tail,Ps.ag_end (by rw[a5];decide),a4,rfl⟩
 | cons h ar F =>
  have e:unl ts=Yh h ar++(tlX ((Zr F).map (·.2))++(sgX [41]::R)):=by
   rw[e]
   show commX (Yh h ar::(Zr F).map (·.2))++_=_
   rw[Gn]
   simp
  have k:=hF 0 (h,ar) rfl
  obtain⟨G,r,p1,p2,p3⟩:=k.2.1 _ _ e (by
   cases F with
   | nil=>exact⟨[41],R,rfl,by decide⟩
   | cons h2 a2 F2=>exact⟨[44],_,rfl,by decide⟩)
  obtain⟨G2,r2,q1,q2,q3⟩:=PaE.agN F (λ j x hj=>hF (j+1) x hj) r R G p2
  exact⟨G.app G2,r2,Ps.ag_first (k.1 _ _ e).1 p1 q1,q2,Kh (F':=Xb h ar) p3 q3⟩
theorem PaE.lst (F:Fo) (hF:∀ j x,F.get j=some x->PaE x.1 x.2) {ts:List Tk} {R:List Xt} (e:unl ts=Jb ((Zr F).map (·.2))++R):isT [40] ts=true/\∃ G r,Ps (.ag true .nil) ts.tail (.ok G r)/\unl r=R/\eqF false G F=true:=by
 unfold Jb Vl at e
 simp only[List.cons_append,List.append_assoc,List.nil_append] at e
 obtain⟨a1,a2,a3,a4,a5,a6⟩:=Xd e
 exact⟨by rw[a5];decide,PaE.ags F hF a4⟩
theorem xxn {op:Int} (h3:3<=op) (h11:op<=11) {ts r r2:List Tk} {A B:Fo} {R R2:List Xt} (hA:Ps .un ts (.ok A r)) (hr:unl r=sgX (sgn op)::R) (hB:Ps .un r.tail (.ok B r2)) (hr2:unl r2=R2) (hs:stE R2) :
  ∃ ln,Ps .ex ts (.ok (nd 6 op 0 ln [] (A.app B)) r2):=by
 obtain⟨n1,n2,n3,n4,n5⟩:=hs.no hr2
 obtain⟨a1,a2,a3,a4,a5,a6⟩:=Xd hr
 have hc:op=3\/op=4\/op=5\/op=6\/op=7\/op=8\/op=9\/op=10\/op=11:=by omega
 refine⟨Yb r,?_⟩
 have add:(op=3\/op=4)->Ps .ex ts (.ok (nd 6 op 0 (Yb r) [] (A.app B)) r2):=λ h=>by
  have e34:Zv 3 4 r=op:=by rw[a6];rcases h with rfl|rfl<;>decide
  have e57:Zv 5 7 r=0:=by rw[a6];rcases h with rfl|rfl<;>decide
  refine Ps.up_ex (Ps.cm_end (Ps.su_ok (Ps.up_te hA e57) (Ps.suL_ok (by rw[e34];omega) (Ps.up_te hB n1) ?_)) n3) n4 n5
  rw[e34]
  exact Ps.suL_end n2
 have mul:(op=5\/op=6\/op=7)->Ps .ex ts (.ok (nd 6 op 0 (Yb r) [] (A.app B)) r2):=λ h=>by
  have e57:Zv 5 7 r=op:=by rw[a6];rcases h with rfl|rfl|rfl<;>decide
  refine Ps.up_ex (Ps.cm_end (Ps.up_su (Ps.te_ok hA (Ps.teL_ok (by rw[e57];omega) hB ?_)) n2) n3) n4 n5
  rw[e57]
  exact Ps.teL_end n1
 have cmp:(op=8\/op=9\/op=10\/op=11)->Ps .ex ts (.ok (nd 6 op 0 (Yb r) [] (A.app B)) r2):=λ h=>by
  have e34:Zv 3 4 r=0:=by rw[a6];rcases h with rfl|rfl|rfl|rfl<;>decide
  have e57:Zv 5 7 r=0:=by rw[a6];rcases h with rfl|rfl|rfl|rfl<;>decide
  have e811:Zv 8 11 r=op:=by rw[a6];rcases h with rfl|rfl|rfl|rfl<;>decide
  have:=Ps.cm_two (Ps.up_su (Ps.up_te hA e57) e34) (by rw[e811];omega) (Ps.up_su (Ps.up_te hB n1) n2)
  rw[e811] at this
  exact Ps.up_ex this n4 n5
 rcases hc with h|h|h|h|h|h|h|h|h
 ·exact add (.inl h)
 ·exact add (.inr h)
 ·exact mul (.inl h)
 ·exact mul (.inr (.inl h))
 ·exact mul (.inr (.inr h))
 ·exact cmp (.inl h)
 ·exact cmp (.inr (.inl h))
 ·exact cmp (.inr (.inr (.inl h)))
 exact cmp (.inr (.inr (.inr h)))
theorem xjw {op:Int} (h3:3<=op) (h11:op<=11):sgn op∈xjh:=by
 have hc:op=3\/op=4\/op=5\/op=6\/op=7\/op=8\/op=9\/op=10\/op=11:=by omega
 rcases hc with rfl|rfl|rfl|rfl|rfl|rfl|rfl|rfl|rfl<;>decide
theorem PaE.atom {h:Hd} {ar:Fo} (hc:Uw h=false)
  (k1:∀ ts R,unl ts=Yh h ar++R->isT [41] ts=false/\isT [125] ts=false/\isT [45] ts=false/\isT [33] ts=false/\((∀ (r:List Tk),unl r=R->isT [91] r=false)->∃ F r,unl r=R/\eqF false F (Xb h ar)=true/\∀ z,Ps (.caL (h.k==13) F) r z->Ps .ca ts z)):PaE h ar:=by
 refine⟨λ ts R e=>⟨(k1 ts R e).1,(k1 ts R e).2.1⟩,λ ts R e hs=>?_,λ _ ts R e=>(k1 ts R e).2.2⟩
 obtain⟨_,_,h1,h2,h3⟩:=k1 ts R e
 obtain⟨F,r,q1,q2,q3⟩:=h3 (λ r hr=>(hs.o.no hr).2)
 exact⟨F,r,Ps.up_all (Ps.un_ca h1 h2 (q3 _ (Ps.caL_end (hs.o.no q1).1))) q1 hs,q1,q2⟩
theorem PaE.prim {h:Hd} {ar:Fo} (hc:Uw h=false) (hk:(h.k==13)=true->∀ ts R,unl ts=Yh h ar++R->kOf ts=1)
  (k1:∀ ts R,unl ts=Yh h ar++R->isT [41] ts=false/\isT [125] ts=false/\isT [45] ts=false/\isT [33] ts=false/\((∀ (r:List Tk),unl r=R->isT [91] r=false)->∃ F r,unl r=R/\eqF false F (Xb h ar)=true/\Ps .pr ts (.ok F r))):PaE h ar:=by
 refine PaE.atom hc λ ts R e=>?_
 obtain⟨h1,h2,h3,h4,h5⟩:=k1 ts R e
 refine⟨h1,h2,h3,h4,λ hb=>?_⟩
 obtain⟨F,r,q1,q2,q3⟩:=h5 hb
 refine⟨F,r,q1,q2,λ z hz=>Ps.ca_ok (p:=(h.k==13)) q3 ?_ hz⟩
 obtain⟨h',ar',rfl,e1,_⟩:=xqs q2
 show (h.k==13)=(kOf ts==1&&h'.k==13)
 rw[e1]
 cases hh:(h.k==13) with
 | false=>simp
 | true=>rw[hk hh ts R e];rfl
theorem PaE.one (h:Hd) (ar:Fo) (hok:okG h ar) (hF:∀ j x,ar.get j=some x->PaE x.1 x.2):PaE h ar:=by
 rcases hok with⟨hop,hv,k⟩|⟨hop,k,hnm,k0,k1,rfl⟩|⟨hv,hnm,k⟩
 ·rcases k with⟨k,hn,rfl⟩|⟨k,hnm,rfl⟩|⟨k,hn,rfl⟩|⟨k,hn,hl⟩|⟨k,hnm,hl⟩|⟨k,hn⟩|⟨k,hnm,g,bs,r0,rfl⟩
  ·have e2:Yh h .nil=[nmX h.nm]:=by show Zy h _=_;unfold Zy;simp[k]
   refine PaE.prim (by simp[Uw,k]) (λ _ ts R e=>?_) (λ ts R e=>?_)
   ·rw[e2] at e;exact(Xd e).1
   rw[e2] at e
   obtain⟨a1,a2,a3,a4,a5,a6⟩:=Xd e
   refine⟨by rw[a5];rfl,by rw[a5];rfl,by rw[a5];rfl,by rw[a5];rfl,λ hb=>⟨_,ts.tail,a4,?_,Ps.pr_name a1 (hb _ a4)⟩⟩
   exact Uc (by simp[k]) (by simp[hop]) (by simp[hv]) (by simp[a3]) rfl
  ·have e2:Yh h .nil=[wdX [114,101,97,100]]:=by show Zy h _=_;unfold Zy;simp[k]
   refine PaE.prim (by simp[Uw,k]) (λ hh=>by simp[k] at hh) (λ ts R e=>?_)
   rw[e2] at e
   obtain⟨a1,a2,a3,a4,a5,a6⟩:=Xd e
   refine⟨by rw[a5];rfl,by rw[a5];rfl,by rw[a5];rfl,by rw[a5];rfl,λ hb=>⟨_,ts.tail,a4,?_,Ps.pr_read (by rw[a5];rfl)⟩⟩
   exact Uc (by simp[k]) (by simp[hop]) (by simp[hv]) (by simp[hnm]) rfl
  ·have e2:Yh h .nil=[sgX [38],nmX h.nm]:=by show Zy h _=_;unfold Zy;simp[k]
   refine PaE.prim (by simp[Uw,k]) (λ hh=>by simp[k] at hh) (λ ts R e=>?_)
   rw[e2] at e
   obtain⟨a1,a2,a3,a4,a5,a6⟩:=Xd e
   obtain⟨b1,b2,b3,b4,b5,b6⟩:=Xd a4
   refine⟨by rw[a5];rfl,by rw[a5];rfl,by rw[a5];rfl,by rw[a5];rfl,λ hb=>⟨_,ts.tail.tail,b4,?_,Ps.pr_func (by rw[a5];rfl) b1⟩⟩
   exact Uc (by simp[k]) (by simp[hop]) (by simp[hv]) (by simp[b3]) rfl
  ·obtain⟨x,hx0,f1,t1⟩:=Fo.one hl
   have e2:Yh h ar=nmX h.nm::sgX [91]::(Yh x.1 x.2++[sgX [93]]):=by show Zy h _=_;rw[t1];unfold Zy;simp[k]
   refine PaE.prim (by simp[Uw,k]) (λ hh=>by simp[k] at hh) (λ ts R e=>?_)
   rw[e2] at e
   simp only[List.cons_append,List.append_assoc,List.nil_append] at e
   obtain⟨a1,a2,a3,a4,a5,a6⟩:=Xd e
   obtain⟨b1,b2,b3,b4,b5,b6⟩:=Xd a4
   obtain⟨F,r,p1,p2,p3⟩:=(hF 0 x hx0).2.1 _ _ b4 ⟨[93],R,rfl,by decide⟩
   obtain⟨c1,c2,c3,c4,c5,c6⟩:=Xd p2
   refine⟨by rw[a5];rfl,by rw[a5];rfl,by rw[a5];rfl,by rw[a5];rfl,λ hb=>⟨_,r.tail,c4,?_,Ps.pr_el a1 (by rw[b5];rfl) p1 (by rw[c5];rfl)⟩⟩
   refine Uc (by simp[k]) (by simp[hop]) (by simp[hv]) (by simp[a3]) ?_
   cases ar with
   | nil=>cases hx0
   | cons h2 a2 r2 =>
    injection hx0 with hx0
    subst hx0
    cases r2 with
    | nil=>exact p3
    | cons _ _ _=>simp[Fo.len] at hl
  ·obtain⟨x,y,hx0,hy0,f1,t1⟩:=Fo.two hl
   have hab:ar=(Xb x.1 x.2).app (Xb y.1 y.2):=by
    cases ar with
    | nil=>cases hx0
    | cons h2 a2 r2 =>
     cases r2 with
     | nil=>cases hy0
     | cons h3 a3 r3 =>
      injection hx0 with hx0
      injection hy0 with hy0
      subst hx0 hy0
      cases r3 with
      | nil=>rfl
      | cons _ _ _=>simp[Fo.len] at hl
   have hx:=hF 0 x hx0
   have hy:=hF 1 y hy0
   have key:∀ (s:Bt),s∈xjh->Yh h ar=Qq x.1 (Yh x.1 x.2)++(sgX s::Qq y.1 (Yh y.1 y.2))->(∀ ts r r2 A B,Ps .un ts (.ok A r)->isT s r=true->Zv 5 7 r=0->Zv 3 4 r=0->Zv 8 11 r=0->(s=[124,124]->isT [38,38] r=false)->Ps .cm r.tail (.ok B r2)->isT [38,38] r2=false->isT [124,124] r2=false->∃ ln,Ps .ex ts (.ok (nd h.k 0 0 ln [] (A.app B)) r2))->(s=[38,38]\/s=[124,124])->PaE h ar:=by
    intro s hs e2 hkey hss
    refine⟨λ ts R e=>?_,λ ts R e hst=>?_,λ hcc=>?_⟩
    ·rw[e2] at e
     unfold Qq at e
     by_cases hcx:Uw x.1=true
     ·rw[if_pos hcx] at e
      obtain⟨_,_,_,_,a5,_⟩:=Xd (show unl ts=sgX [40]::_ from e)
      exact⟨by rw[a5];rfl,by rw[a5];rfl⟩
     rw[if_neg hcx,List.append_assoc] at e
     exact hx.1 _ _ e
    ·rw[e2,List.append_assoc,List.cons_append] at e
     have hsO:stO (sgX s::(Qq y.1 (Yh y.1 y.2)++R)):=.inl ⟨s,_,rfl,hs⟩
     obtain⟨A,r,p1,p2,p3⟩:=hx.opr e (λ r hr=>hsO.no hr)
     obtain⟨a1,a2,a3,a4,a5,a6⟩:=Xd p2
     obtain⟨B,r2,q1,q2,q3⟩:=hy.opr a4 (λ r hr=>hst.o.no hr)
     obtain⟨n1,n2,n3,n4,n5⟩:=hst.no q2
     obtain⟨ln,hln⟩:=hkey ts r r2 A B p1 (by rw[a5];rcases hss with rfl|rfl<;>rfl) (by rw[a6];rcases hss with rfl|rfl<;>decide) (by rw[a6];rcases hss with rfl|rfl<;>decide) (by rw[a6];rcases hss with rfl|rfl<;>decide) (λ e3=>by rw[a5,e3];rfl) (Ps.cm_end (Ps.up_su (Ps.up_te q1 n1) n2) n3) n4 n5
     refine⟨_,r2,hln,q2,Uc rfl (by simp[hop]) (by simp[hv]) (by simp[hnm]) ?_⟩
     rw[hab]
     exact Kh p3 q3
    rcases k with k|k<;>simp[Uw,k] at hcc
   rcases k with k|k
   ·refine key [38,38] (by decide) (by show Zy h _=_;rw[t1];unfold Zy;simp[k]) (λ ts r r2 A B hA hi h57 h34 hcn _ hB n4 n5=>⟨Yb r,?_⟩) (.inl rfl)
    rw[k]
    exact Ps.ex_ok (Ps.an_ok (Ps.cm_end (Ps.up_su (Ps.up_te hA h57) h34) hcn) (Ps.anL_ok hi hB (Ps.anL_end n4))) (Ps.exL_end n5)
   refine key [124,124] (by decide) (by show Zy h _=_;rw[t1];unfold Zy;simp[k]) (λ ts r r2 A B hA hi h57 h34 hcn hno hB n4 n5=>⟨Yb r,?_⟩) (.inr rfl)
   rw[k]
   exact Ps.ex_ok (Ps.an_ok (Ps.cm_end (Ps.up_su (Ps.up_te hA h57) h34) hcn) (Ps.anL_end (hno rfl))) (Ps.exL_ok hi (Ps.an_ok hB (Ps.anL_end n4)) (Ps.exL_end n5))
  ·have e2:Yh h ar=nmX h.nm::Jb ((Zr ar).map (·.2)):=by show Zy h _=_;unfold Zy;simp[k]
   refine PaE.atom (by simp[Uw,k]) (λ ts R e=>?_)
   rw[e2,List.cons_append] at e
   obtain⟨a1,a2,a3,a4,a5,a6⟩:=Xd e
   obtain⟨b1,G,r,b2,b3,b4⟩:=PaE.lst ar hF a4
   refine⟨by rw[a5];rfl,by rw[a5];rfl,by rw[a5];rfl,by rw[a5];rfl,λ hb=>⟨nd 9 0 0 (Yb ts.tail) h.nm G,r,b3,Uc (by simp[k]) (by simp[hop]) (by simp[hv]) rfl b4,λ z hz=>?_⟩⟩
   rw[show (h.k==13)=false by simp[k]] at hz
   refine Ps.ca_ok (p:=true) (Ps.pr_name a1 (Kx b1 (by decide))) (by rw[a1];rfl) (Ps.caL_call b1 b2 ?_)
   show Ps (.caL false (nd 9 0 0 _ (tOf ts) G)) r z
   rw[a3]
   exact hz
  have h0:=hF 0 (g,bs) rfl
  have key:∀ ts R,unl ts=Yh h (.cons g bs r0)++R->∃ X,((X=Qq g (Yh g bs)/\g.k≠13)\/X=Vl (Qq g (Yh g bs)))/\unl ts=X++(Jb ((Zr r0).map (·.2))++R):=λ ts R e=>by
   by_cases hk2:g.k=13\/g.k=2\/g.k=3
   ·have e2:Yh h (.cons g bs r0)=Vl (Qq g (Yh g bs))++Jb ((Zr r0).map (·.2)):=by show Zy h ((g,Yh g bs)::Zr r0)=_;unfold Zy;simp[k,hk2]
    exact⟨_,.inr rfl,by rw[e,e2,List.append_assoc]⟩
   have e2:Yh h (.cons g bs r0)=Qq g (Yh g bs)++Jb ((Zr r0).map (·.2)):=by show Zy h ((g,Yh g bs)::Zr r0)=_;unfold Zy;simp[k,hk2]
   exact⟨_,.inl ⟨rfl,λ h=>hk2 (.inl h)⟩,by rw[e,e2,List.append_assoc]⟩
  refine PaE.atom (by simp[Uw,k]) (λ ts R e=>?_)
  obtain⟨X,hX,e3⟩:=key ts R e
  have hlst:Jb ((Zr r0).map (·.2))++R=sgX [40]::(commX ((Zr r0).map (·.2))++(sgX [41]::R)):=by simp[Jb,Vl]
  have fin:∀ (F:Fo) (r:List Tk),unl r=Jb ((Zr r0).map (·.2))++R->eqF false F (Xb g bs)=true->(∀ z,Ps (.caL false F) r z->Ps .ca ts z)->∃ F r,unl r=R/\eqF false F (Xb h (.cons g bs r0))=true/\∀ z,Ps (.caL (h.k==13) F) r z->Ps .ca ts z:=λ F r hr hF2 hz=>by
   obtain⟨b1,G,r2,b2,b3,b4⟩:=PaE.lst r0 (λ j y hy=>hF (j+1) y hy) hr
   refine⟨nd 10 0 0 (Yb r) [] (F.app G),r2,b3,Uc (by simp[k]) (by simp[hop]) (by simp[hv]) (by simp[hnm]) ?_,λ z k2=>hz z (Ps.caL_value b1 b2 ?_)⟩
   ·exact Kh (F':=Xb g bs) hF2 b4
   rw[show (h.k==13)=false by simp[k]] at k2
   exact k2
  rcases hX with⟨rfl,hg⟩|rfl
  ·rw[hlst] at e3
   obtain⟨h1,h2,F,r,q1,q2,q3⟩:=h0.hd hg e3
   have h12:isT [41] ts=false/\isT [125] ts=false:=by
    unfold Qq at e3
    by_cases hcx:Uw g=true
    ·rw[if_pos hcx] at e3
     obtain⟨_,_,_,_,a5,_⟩:=Xd (show unl ts=sgX [40]::_ from e3)
     exact⟨by rw[a5];rfl,by rw[a5];rfl⟩
    rw[if_neg hcx] at e3
    exact h0.1 _ _ e3
   exact⟨h12.1,h12.2,h1,h2,λ _=>fin F r (by rw[q1,hlst]) q2 q3⟩
  unfold Vl at e3
  simp only[List.cons_append,List.append_assoc,List.nil_append] at e3
  obtain⟨a1,a2,a3,a4,a5,a6⟩:=Xd e3
  have hsE:stE (sgX [41]::(Jb ((Zr r0).map (·.2))++R)):=⟨[41],_,rfl,by decide⟩
  obtain⟨F,r,p1,p2,p3⟩:=h0.opr a4 (λ r hr=>hsE.o.no hr)
  obtain⟨b1,b2,b3,b4,b5,b6⟩:=Xd p2
  have hp:Ps .pr ts (.ok F r.tail):=Ps.pr_par (by rw[a5];rfl) (Ps.up_all p1 p2 hsE) (by rw[b5];rfl)
  exact⟨by rw[a5];rfl,by rw[a5];rfl,by rw[a5];rfl,by rw[a5];rfl,λ _=>fin F r.tail b4 p3 (λ z hz=>Ps.ca_ok (p:=false) hp (by rw[a1];rfl) hz)⟩
 ·have e2:Yh h .nil=[(2,h.v,Lib.decDigits h.v.toNat)]:=by show Zy h _=_;unfold Zy;simp[k]
  refine PaE.prim (by simp[Uw,k]) (λ hh=>by simp[k] at hh) (λ ts R e=>?_)
  rw[e2] at e
  obtain⟨a1,a2,a3,a4,a5,a6⟩:=Xd e
  refine⟨by rw[a5];rfl,by rw[a5];rfl,by rw[a5];rfl,by rw[a5];rfl,λ hb=>⟨_,ts.tail,a4,?_,Ps.pr_num a1⟩⟩
  exact Uc (by simp[k]) (by simp[hop]) (by simp[a2]) (by simp[hnm]) rfl
 rcases k with⟨k,o1,o2,hl⟩|⟨k,o1,o2,hl⟩
 ·obtain⟨x,hx0,f1,t1⟩:=Fo.one hl
  have hab:ar=Xb x.1 x.2:=by
   cases ar with
   | nil=>cases hx0
   | cons h2 a2 r2 =>
    injection hx0 with hx0
    subst hx0
    cases r2 with
    | nil=>rfl
    | cons _ _ _=>simp[Fo.len] at hl
  have e2:Yh h ar=sgX (sgn h.op)::Qq x.1 (Yh x.1 x.2):=by show Zy h _=_;rw[t1];unfold Zy;simp[k]
  have hx:=hF 0 x hx0
  refine⟨λ ts R e=>?_,λ ts R e hst=>?_,λ hcc=>by simp[Uw,k] at hcc⟩
  ·rw[e2] at e
   obtain⟨a1,a2,a3,a4,a5,a6⟩:=Xd e
   have:h.op=1\/h.op=2:=by omega
   rw[a5,a5]
   rcases this with e3|e3<;>rw[e3]<;>exact⟨rfl,rfl⟩
  rw[e2,List.cons_append] at e
  obtain⟨a1,a2,a3,a4,a5,a6⟩:=Xd e
  obtain⟨A,r,p1,p2,p3⟩:=hx.opr a4 (λ r hr=>hst.o.no hr)
  have:h.op=1\/h.op=2:=by omega
  rcases this with e3|e3
  ·refine⟨_,r,Ps.up_all (Ps.un_neg (by rw[a5,e3];rfl) p1) p2 hst,p2,Uc (by simp[k]) (by simp[e3]) (by simp[hv]) (by simp[hnm]) ?_⟩
   rw[hab];exact p3
  refine⟨_,r,Ps.up_all (Ps.un_not (by rw[a5,e3];rfl) (by rw[a5,e3];rfl) p1) p2 hst,p2,Uc (by simp[k]) (by simp[e3]) (by simp[hv]) (by simp[hnm]) ?_⟩
  rw[hab];exact p3
 obtain⟨x,y,hx0,hy0,f1,t1⟩:=Fo.two hl
 have hab:ar=(Xb x.1 x.2).app (Xb y.1 y.2):=by
  cases ar with
  | nil=>cases hx0
  | cons h2 a2 r2 =>
   cases r2 with
   | nil=>cases hy0
   | cons h3 a3 r3 =>
    injection hx0 with hx0
    injection hy0 with hy0
    subst hx0 hy0
    cases r3 with
    | nil=>rfl
    | cons _ _ _=>simp[Fo.len] at hl
 have e2:Yh h ar=Qq x.1 (Yh x.1 x.2)++(sgX (sgn h.op)::Qq y.1 (Yh y.1 y.2)):=by show Zy h _=_;rw[t1];unfold Zy;simp[k]
 have hx:=hF 0 x hx0
 have hy:=hF 1 y hy0
 refine⟨λ ts R e=>?_,λ ts R e hst=>?_,λ hcc=>by simp[Uw,k] at hcc⟩
 ·rw[e2] at e
  unfold Qq at e
  by_cases hcx:Uw x.1=true
  ·rw[if_pos hcx] at e
   obtain⟨_,_,_,_,a5,_⟩:=Xd (show unl ts=sgX [40]::_ from e)
   exact⟨by rw[a5];rfl,by rw[a5];rfl⟩
  rw[if_neg hcx,List.append_assoc] at e
  exact hx.1 _ _ e
 rw[e2,List.append_assoc,List.cons_append] at e
 have hsO:stO (sgX (sgn h.op)::(Qq y.1 (Yh y.1 y.2)++R)):=.inl ⟨_,_,rfl,xjw o1 o2⟩
 obtain⟨A,r,p1,p2,p3⟩:=hx.opr e (λ r hr=>hsO.no hr)
 obtain⟨a1,a2,a3,a4,a5,a6⟩:=Xd p2
 obtain⟨B,r2,q1,q2,q3⟩:=hy.opr a4 (λ r hr=>hst.o.no hr)
 obtain⟨ln,hln⟩:=xxn o1 o2 p1 p2 q1 q2 hst
 refine⟨_,r2,hln,q2,Uc (by simp[k]) rfl (by simp[hv]) (by simp[hnm]) ?_⟩
 rw[hab]
 exact Kh p3 q3
theorem PaE.all (F:Fo) (hw:F.wg):∀ j x,F.get j=some x->PaE x.1 x.2:=by
 induction F with
 | nil=>intro j x hx;cases hx
 | cons h ar r ih1 ih2 =>
  intro j x hx
  cases j with
  | zero =>
   have e:(h,ar)=x:=by injection hx
   subst e
   exact PaE.one h ar hw.1 (ih1 hw.2.1)
  | succ j=>exact ih2 hw.2.2 j x hx
section
inductive PQ where
 | ok (S:Sf) (r:List Tk)
 | bad (r:List Tk)
inductive Lq where
 | st
 | bl
 | bk (S:Sf)
inductive Hk where
 | bad (r:List Tk)
 | val (k:Int) (nm:Bt) (r:List Tk)
 | sto (nm:Bt) (r:List Tk)
 | cho (k:Int) (r:List Tk)
def hk (ts:List Tk):Hk :=
 if isT [118,97,114] ts=true then (if kOf ts.tail=1 then (if isT [61] ts.tail.tail=true then .val 1 (tOf ts.tail) ts.tail.tail.tail else .bad ts.tail.tail) else .bad ts.tail)
 else if isT [105,102] ts=true then .cho 4 ts.tail
 else if isT [119,104,105,108,101] ts=true then .cho 5 ts.tail
 else if isT [114,101,116,117,114,110] ts=true then .val 6 [] ts.tail
 else if isT [112,114,105,110,116] ts=true then .val 7 [] ts.tail
 else if isT [99,97,108,108] ts=true then .val 8 [] ts.tail
 else if kOf ts=1 then (if isT [91] ts.tail=true then .sto (tOf ts) ts.tail.tail else if isT [61] ts.tail=true then .val 2 (tOf ts) ts.tail.tail else .bad ts.tail)
 else .bad ts
def Dr (k ln:Int) (nm:Bt) (F:Fo):PR->PQ
 | .bad r=>.bad r
 | .ok x r=>if isT [59] r=true then .ok (Zq k ln nm (F.app x) .nil .nil) r.tail else .bad r
def bnE (o:Option PR) (k:Fo->List Tk->Option PQ):Option PQ:=match o with
 | none=>none
 | some (.bad r)=>some (.bad r)
 | some (.ok F r)=>k F r
def bnQ (o:Option PQ) (k:Sf->List Tk->Option PQ):Option PQ:=match o with
 | none=>none
 | some (.bad r)=>some (.bad r)
 | some (.ok F r)=>k F r
abbrev elW:Bt:=[101,108,115,101]
def Vf (p:List Tk->Option PR) (f:Lq->List Tk->Option PQ) (ln:Int):Hk->Option PQ
 | .bad r=>some (.bad r)
 | .val k nm r=>(p r).map (Dr k ln nm .nil)
 | .sto nm r=>bnE (p r) λ x r2=>if isT [93] r2=true then (if isT [61] r2.tail=true then (p r2.tail.tail).map (Dr 3 ln nm x) else some (.bad r2.tail)) else some (.bad r2)
 | .cho k r=>bnE (p r) λ x r2=>bnQ (f .bl r2) λ th r3=>if k=4/\isT elW r3=true then bnQ (f .bl r3.tail) (λ el r4=>some (.ok (Zq k ln [] x th el) r4)) else some (.ok (Zq k ln [] x th .nil) r3)
def Gx (p:List Tk->Option PR) (f:Lq->List Tk->Option PQ) (lv:Lq) (ts:List Tk):Option PQ:=match lv with
 | .st=>Vf p f (Yb ts) (hk ts)
 | .bl=>if isT [123] ts=true then f (.bk .nil) ts.tail else some (.bad ts)
 | .bk S=>if isT [125] ts=true then some (.ok S ts.tail) else bnQ (f .st ts) λ s r=>f (.bk (S.app s)) r
def Qn:Nat->Lq->List Tk->Option PQ
 | 0=>λ _ _=>none
 | n+1=>Gx (Pn n .ex) (Qn n)
theorem Mn {o o':Option PR} {k k':Fo->List Tk->Option PQ} {y:PQ} (h:bnE o k=some y) (ho:∀ x,o=some x->o'=some x) (hk:∀ F r,k F r=some y->k' F r=some y):bnE o' k'=some y:=by
 unfold bnE at h ⊢
 cases o with
 | none=>cases h
 | some x =>
  rw[ho x rfl]
  cases x with
  | ok F r=>exact hk F r h
  | bad r=>exact h
theorem Gr {o o':Option PQ} {k k':Sf->List Tk->Option PQ} {y:PQ} (h:bnQ o k=some y) (ho:∀ x,o=some x->o'=some x) (hk:∀ F r,k F r=some y->k' F r=some y):bnQ o' k'=some y:=by
 unfold bnQ at h ⊢
 cases o with
 | none=>cases h
 | some x =>
  rw[ho x rfl]
  cases x with
  | ok F r=>exact hk F r h
  | bad r=>exact h
theorem Mz {o o':Option PR} {g:PR->PQ} {y:PQ} (h:o.map g=some y) (ho:∀ x,o=some x->o'=some x):o'.map g=some y:=by
 cases o with
 | none=>cases h
 | some x=>rw[ho x rfl];exact h
theorem Pc {p p':List Tk->Option PR} {f g:Lq->List Tk->Option PQ} (hp:∀ ts y,p ts=some y->p' ts=some y) (hfg:∀ lv ts y,f lv ts=some y->g lv ts=some y) (lv:Lq) (ts:List Tk) (y:PQ) (h:Gx p f lv ts=some y):Gx p' g lv ts=some y:=by
 cases lv with
 | st =>
  unfold Gx at h ⊢
  dsimp only at h ⊢
  generalize hk ts=q at h ⊢
  cases q with
  | bad r=>exact h
  | val k nm r=>exact Mz h λ x hx=>hp _ x hx
  | sto nm r =>
   refine Mn h (λ x hx=>hp _ x hx) λ F r h=>?_
   split
   ·rename_i h1
    rw[if_pos h1] at h
    split
    ·rename_i h2
     rw[if_pos h2] at h
     exact Mz h λ x hx=>hp _ x hx
    rename_i h2
    rw[if_neg h2] at h
    exact h
   rename_i h1
   rw[if_neg h1] at h
   exact h
  | cho k r =>
   refine Mn h (λ x hx=>hp _ x hx) λ F r h=>Gr h (λ x hx=>hfg _ _ x hx) λ S r2 h=>?_
   split
   ·rename_i h1
    rw[if_pos h1] at h
    exact Gr h (λ x hx=>hfg _ _ x hx) λ _ _ h=>h
   rename_i h1
   rw[if_neg h1] at h
   exact h
 | bl =>
  unfold Gx at h ⊢
  dsimp only at h ⊢
  split
  ·rename_i h1;rw[if_pos h1] at h;exact hfg _ _ _ h
  rename_i h1;rw[if_neg h1] at h;exact h
 | bk S =>
  unfold Gx at h ⊢
  dsimp only at h ⊢
  split
  ·rename_i h1;rw[if_pos h1] at h;exact h
  rename_i h1;rw[if_neg h1] at h;exact Gr h (λ x hx=>hfg _ _ x hx) λ _ _ h=>hfg _ _ _ h
theorem xzx (n:Nat):∀ lv ts y,Qn n lv ts=some y->Qn (n+1) lv ts=some y:=by
 induction n with
 | zero=>intro lv ts y h;cases h
 | succ n ih=>intro lv ts y h;exact Pc (λ ts y=>Tu n .ex ts y) ih lv ts y h
theorem Ob {n m:Nat} (h:n<=m) {lv:Lq} {ts:List Tk} {y:PQ} (hn:Qn n lv ts=some y):Qn m lv ts=some y:=by
 induction h with
 | refl=>exact hn
 | step _ ih=>exact xzx _ _ _ _ ih
def Qs (lv:Lq) (ts:List Tk) (y:PQ):Prop:=∃ n,Qn n lv ts=some y
theorem Qs.det {lv:Lq} {ts:List Tk} {y z:PQ} (h:Qs lv ts y) (k:Qs lv ts z):y=z:=by
 obtain⟨n,hn⟩:=h
 obtain⟨m,hm⟩:=k
 have h1:=Ob (Nat.le_max_left n m) hn
 have h2:=Ob (Nat.le_max_right n m) hm
 rw[h1] at h2
 injection h2
theorem Qs.ev {lv:Lq} {ts:List Tk} {y:PQ} (h:∃ n0,∀ n,n0<=n->Gx (Pn n .ex) (Qn n) lv ts=some y):Qs lv ts y:=by
 obtain⟨n0,h⟩:=h
 exact⟨n0+1,h n0 (Nat.le_refl _)⟩
theorem Ps.ev {lv:Lv} {ts:List Tk} {y:PR} (h:Ps lv ts y):∃ n0,∀ n,n0<=n->Pn n lv ts=some y:=by
 obtain⟨n0,h⟩:=h
 exact⟨n0,λ n hn=>Pq hn h⟩
theorem Qs.ev' {lv:Lq} {ts:List Tk} {y:PQ} (h:Qs lv ts y):∃ n0,∀ n,n0<=n->Qn n lv ts=some y:=by
 obtain⟨n0,h⟩:=h
 exact⟨n0,λ n hn=>Ob hn h⟩
section
variable {ts r r2 r3:List Tk} {k:Int} {nm:Bt} {x:Fo} {S th el s:Sf} {y:PR} {z:PQ}
theorem Qs.st_bad (h:hk ts=.bad r):Qs .st ts (.bad r):=.ev ⟨0,λ n _=>by show Vf _ _ _ (hk ts)=_;rw[h];rfl⟩
theorem Qs.st_val (h:hk ts=.val k nm r) (hx:Ps .ex r y):Qs .st ts (Dr k (Yb ts) nm .nil y):=by
 obtain⟨a,ha⟩:=hx.ev
 exact .ev ⟨a,λ n hn=>by show Vf _ _ _ (hk ts)=_;rw[h];show Option.map _ _=_;rw[ha n hn];rfl⟩
theorem Qs.sto_bad (h:hk ts=.sto nm r) (hx:Ps .ex r (.bad r2)):Qs .st ts (.bad r2):=by
 obtain⟨a,ha⟩:=hx.ev
 exact .ev ⟨a,λ n hn=>by show Vf _ _ _ (hk ts)=_;rw[h];show bnE _ _=_;rw[ha n hn];rfl⟩
theorem Qs.sto_no1 (h:hk ts=.sto nm r) (hx:Ps .ex r (.ok x r2)) (h1:isT [93] r2=false):Qs .st ts (.bad r2):=by
 obtain⟨a,ha⟩:=hx.ev
 exact .ev ⟨a,λ n hn=>by show Vf _ _ _ (hk ts)=_;rw[h];show bnE _ _=_;rw[ha n hn];show (if _ then _ else _)=_;rw[if_neg (by rw[h1];simp)]⟩
theorem Qs.sto_no2 (h:hk ts=.sto nm r) (hx:Ps .ex r (.ok x r2)) (h1:isT [93] r2=true) (h2:isT [61] r2.tail=false):Qs .st ts (.bad r2.tail):=by
 obtain⟨a,ha⟩:=hx.ev
 exact .ev ⟨a,λ n hn=>by show Vf _ _ _ (hk ts)=_;rw[h];show bnE _ _=_;rw[ha n hn];show (if _ then _ else _)=_;rw[if_pos h1,if_neg (by rw[h2];simp)]⟩
theorem Qs.sto_ok (h:hk ts=.sto nm r) (hx:Ps .ex r (.ok x r2)) (h1:isT [93] r2=true) (h2:isT [61] r2.tail=true) (hy:Ps .ex r2.tail.tail y):Qs .st ts (Dr 3 (Yb ts) nm x y):=by
 obtain⟨a,ha⟩:=hx.ev
 obtain⟨b,hb⟩:=hy.ev
 exact .ev ⟨max a b,λ n hn=>by show Vf _ _ _ (hk ts)=_;rw[h];show bnE _ _=_;rw[ha n (by omega)];show (if _ then _ else _)=_;rw[if_pos h1,if_pos h2,hb n (by omega)];rfl⟩
theorem Qs.cho_bad (h:hk ts=.cho k r) (hx:Ps .ex r (.bad r2)):Qs .st ts (.bad r2):=by
 obtain⟨a,ha⟩:=hx.ev
 exact .ev ⟨a,λ n hn=>by show Vf _ _ _ (hk ts)=_;rw[h];show bnE _ _=_;rw[ha n hn];rfl⟩
theorem Qs.cho_bl (h:hk ts=.cho k r) (hx:Ps .ex r (.ok x r2)) (hb:Qs .bl r2 (.bad r3)):Qs .st ts (.bad r3):=by
 obtain⟨a,ha⟩:=hx.ev
 obtain⟨b,hb⟩:=hb.ev'
 exact .ev ⟨max a b,λ n hn=>by show Vf _ _ _ (hk ts)=_;rw[h];show bnE _ _=_;rw[ha n (by omega)];show bnQ _ _=_;rw[hb n (by omega)];rfl⟩
theorem Qs.cho_one (h:hk ts=.cho k r) (hx:Ps .ex r (.ok x r2)) (hb:Qs .bl r2 (.ok th r3)) (hn:¬ (k=4/\isT elW r3=true)):Qs .st ts (.ok (Zq k (Yb ts) [] x th .nil) r3):=by
 obtain⟨a,ha⟩:=hx.ev
 obtain⟨b,hb⟩:=hb.ev'
 exact .ev ⟨max a b,λ n hn2=>by show Vf _ _ _ (hk ts)=_;rw[h];show bnE _ _=_;rw[ha n (by omega)];show bnQ _ _=_;rw[hb n (by omega)];show (if _ then _ else _)=_;rw[if_neg hn]⟩
theorem Qs.cho_two {r4:List Tk} (h:hk ts=.cho k r) (hx:Ps .ex r (.ok x r2)) (hb:Qs .bl r2 (.ok th r3)) (hn:k=4/\isT elW r3=true) (hc:Qs .bl r3.tail (.ok el r4)):Qs .st ts (.ok (Zq k (Yb ts) [] x th el) r4):=by
 obtain⟨a,ha⟩:=hx.ev
 obtain⟨b,hb⟩:=hb.ev'
 obtain⟨c,hc⟩:=hc.ev'
 exact .ev ⟨max a (max b c),λ n hn2=>by show Vf _ _ _ (hk ts)=_;rw[h];show bnE _ _=_;rw[ha n (by omega)];show bnQ _ _=_;rw[hb n (by omega)];show (if _ then _ else _)=_;rw[if_pos hn,hc n (by omega)];rfl⟩
theorem Qs.cho_two_bad {r4:List Tk} (h:hk ts=.cho k r) (hx:Ps .ex r (.ok x r2)) (hb:Qs .bl r2 (.ok th r3)) (hn:k=4/\isT elW r3=true) (hc:Qs .bl r3.tail (.bad r4)):Qs .st ts (.bad r4):=by
 obtain⟨a,ha⟩:=hx.ev
 obtain⟨b,hb⟩:=hb.ev'
 obtain⟨c,hc⟩:=hc.ev'
 exact .ev ⟨max a (max b c),λ n hn2=>by show Vf _ _ _ (hk ts)=_;rw[h];show bnE _ _=_;rw[ha n (by omega)];show bnQ _ _=_;rw[hb n (by omega)];show (if _ then _ else _)=_;rw[if_pos hn,hc n (by omega)];rfl⟩
theorem Qs.bl_no (h:isT [123] ts=false):Qs .bl ts (.bad ts):=.ev ⟨0,λ n _=>by show (if _ then _ else _)=_;rw[if_neg (by rw[h];simp)]⟩
theorem Qs.bl_ok (h:isT [123] ts=true) (hb:Qs (.bk .nil) ts.tail z):Qs .bl ts z:=by
 obtain⟨b,hb⟩:=hb.ev'
 exact .ev ⟨b,λ n hn=>by show (if _ then _ else _)=_;rw[if_pos h,hb n hn]⟩
theorem Qs.bk_end (h:isT [125] ts=true):Qs (.bk S) ts (.ok S ts.tail):=.ev ⟨0,λ n _=>by show (if _ then _ else _)=_;rw[if_pos h]⟩
theorem Qs.bk_bad (h:isT [125] ts=false) (hs:Qs .st ts (.bad r)):Qs (.bk S) ts (.bad r):=by
 obtain⟨b,hb⟩:=hs.ev'
 exact .ev ⟨b,λ n hn=>by show (if _ then _ else _)=_;rw[if_neg (by rw[h];simp),hb n hn];rfl⟩
theorem Qs.bk_ok (h:isT [125] ts=false) (hs:Qs .st ts (.ok s r)) (hb:Qs (.bk (S.app s)) r z):Qs (.bk S) ts z:=by
 obtain⟨a,ha⟩:=hs.ev'
 obtain⟨b,hb⟩:=hb.ev'
 exact .ev ⟨max a b,λ n hn=>by show (if _ then _ else _)=_;rw[if_neg (by rw[h];simp),ha n (by omega)];exact hb n (by omega)⟩
end
end
section
section
variable {ts:List Tk}
theorem Zt {s t:Bt} (h:isT s ts=true) (hn:s≠t):isT t ts=false:=by
 cases ts with
 | nil=>rfl
 | cons x r =>
  simp only[isT,Bool.and_eq_true,beq_iff_eq] at h
  cases hk:isT t (x::r)
  ·rfl
  simp only[isT,Bool.and_eq_true,beq_iff_eq] at hk
  exact absurd (h.2.symm.trans hk.2) hn
theorem Dh (h:isT [118,97,114] ts=true):hk ts=(if kOf ts.tail=1 then (if isT [61] ts.tail.tail=true then .val 1 (tOf ts.tail) ts.tail.tail.tail else .bad ts.tail.tail) else .bad ts.tail):=by unfold hk;rw[if_pos h]
theorem Ig (h:isT [105,102] ts=true):hk ts=.cho 4 ts.tail:=by simp[hk,h,Zt h (t:=[118,97,114]) (by decide)]
theorem Mv (h:isT [119,104,105,108,101] ts=true):hk ts=.cho 5 ts.tail:=by simp[hk,h,Zt h (t:=[118,97,114]) (by decide),Zt h (t:=[105,102]) (by decide)]
theorem Dj (h:isT [114,101,116,117,114,110] ts=true):hk ts=.val 6 [] ts.tail:=by simp[hk,h,Zt h (t:=[118,97,114]) (by decide),Zt h (t:=[105,102]) (by decide),Zt h (t:=[119,104,105,108,101]) (by decide)]
theorem Mw (h:isT [112,114,105,110,116] ts=true):hk ts=.val 7 [] ts.tail:=by simp[hk,h,Zt h (t:=[118,97,114]) (by decide),Zt h (t:=[105,102]) (by decide),Zt h (t:=[119,104,105,108,101]) (by decide),Zt h (t:=[114,101,116,117,114,110]) (by decide)]
theorem Sl (h:isT [99,97,108,108] ts=true):hk ts=.val 8 [] ts.tail:=by simp[hk,h,Zt h (t:=[118,97,114]) (by decide),Zt h (t:=[105,102]) (by decide),Zt h (t:=[119,104,105,108,101]) (by decide),Zt h (t:=[114,101,116,117,114,110]) (by decide),Zt h (t:=[112,114,105,110,116]) (by decide)]
def noW (ts:List Tk):Prop:=isT [118,97,114] ts=false/\isT [105,102] ts=false/\isT [119,104,105,108,101] ts=false/\isT [114,101,116,117,114,110] ts=false/\isT [112,114,105,110,116] ts=false/\isT [99,97,108,108] ts=false
theorem Kd (h:noW ts):hk ts=(if kOf ts=1 then (if isT [91] ts.tail=true then .sto (tOf ts) ts.tail.tail else if isT [61] ts.tail=true then .val 2 (tOf ts) ts.tail.tail else .bad ts.tail) else .bad ts):=by
 obtain⟨h1,h2,h3,h4,h5,h6⟩:=h
 unfold hk
 rw[h1,h2,h3,h4,h5,h6]
 simp only[Bool.false_eq_true,if_false]
end
inductive PG where
 | ok (nm:Bt) (sz wr:Int) (r:List Tk)
 | bad (r:List Tk)
def Pw (v ln wr:Int):Int:=if (v<1\/1024<v)/\wr=0 then ln else wr
def glP (wr:Int) (ts:List Tk):PG :=
 if kOf ts=1 then
  (if isT [91] ts.tail=true then
   (if kOf ts.tail.tail=2 then
    (if isT [93] ts.tail.tail.tail=true then
     (if isT [59] ts.tail.tail.tail.tail=true then .ok (tOf ts) (vOf ts.tail.tail) (Pw (vOf ts.tail.tail) (Yb ts.tail.tail) wr) ts.tail.tail.tail.tail.tail else .bad ts.tail.tail.tail.tail)
    else .bad ts.tail.tail.tail)
   else .bad ts.tail.tail)
  else if isT [59] ts.tail=true then .ok (tOf ts) 0 wr ts.tail.tail else .bad ts.tail)
 else .bad ts
inductive PP where
 | ok (ps:List Bt) (r:List Tk)
 | bad (r:List Tk)
def uP (ps:List Bt) (ts:List Tk):List Tk:=if ps=[] then ts else ts.tail
def paF:Nat->List Bt->List Tk->Option PP
 | 0,_,_=>none
 | n+1,ps,ts=>if isT [41] ts=true then some (.ok ps ts.tail)
   else if ps≠[]/\isT [44] ts=false then some (.bad ts)
   else if kOf (uP ps ts)=1 then paF n (ps++[tOf (uP ps ts)]) (uP ps ts).tail else some (.bad (uP ps ts))
theorem Ff (n:Nat):∀ ps ts y,paF n ps ts=some y->paF (n+1) ps ts=some y:=by
 induction n with
 | zero=>intro ps ts y h;cases h
 | succ n ih =>
  intro ps ts y h
  unfold paF at h ⊢
  split
  ·rename_i h1;rw[if_pos h1] at h;exact h
  rename_i h1
  rw[if_neg h1] at h
  split
  ·rename_i h2;rw[if_pos h2] at h;exact h
  rename_i h2
  rw[if_neg h2] at h
  split
  ·rename_i h3;rw[if_pos h3] at h;exact ih _ _ _ h
  rename_i h3;rw[if_neg h3] at h;exact h
theorem Fd {n m:Nat} (h:n<=m) {ps:List Bt} {ts:List Tk} {y:PP} (hn:paF n ps ts=some y):paF m ps ts=some y:=by
 induction h with
 | refl=>exact hn
 | step _ ih=>exact Ff _ _ _ _ ih
def Pr (ps:List Bt) (ts:List Tk) (y:PP):Prop:=∃ n,paF n ps ts=some y
theorem Pr.det {ps:List Bt} {ts:List Tk} {y z:PP} (h:Pr ps ts y) (k:Pr ps ts z):y=z:=by
 obtain⟨n,hn⟩:=h
 obtain⟨m,hm⟩:=k
 have h1:=Fd (Nat.le_max_left n m) hn
 have h2:=Fd (Nat.le_max_right n m) hm
 rw[h1] at h2
 injection h2
theorem Pr.fin {ps:List Bt} {ts:List Tk} (h:isT [41] ts=true):Pr ps ts (.ok ps ts.tail):=⟨1,by unfold paF;rw[if_pos h]⟩
theorem Pr.no {ps:List Bt} {ts:List Tk} (h:isT [41] ts=false) (h2:ps≠[]) (h3:isT [44] ts=false):Pr ps ts (.bad ts):=⟨1,by unfold paF;rw[if_neg (by rw[h];simp),if_pos ⟨h2,h3⟩]⟩
theorem Pr.nm {ps:List Bt} {ts u:List Tk} (h:isT [41] ts=false) (h2:ps≠[]->isT [44] ts=true) (hu:u=uP ps ts) (hk:kOf u≠1):Pr ps ts (.bad u):=⟨1,by
 unfold paF
 rw[if_neg (by rw[h];simp),if_neg (by intro e;rw[h2 e.1] at e;cases e.2),if_neg (by rw[<- hu];exact hk),hu]⟩
theorem Pr.more {ps:List Bt} {ts u:List Tk} {y:PP} (h:isT [41] ts=false) (h2:ps≠[]->isT [44] ts=true) (hu:u=uP ps ts) (hk:kOf u=1) (k:Pr (ps++[tOf u]) u.tail y):Pr ps ts y:=by
 obtain⟨n,hn⟩:=k
 refine⟨n+1,?_⟩
 unfold paF
 rw[if_neg (by rw[h];simp),if_neg (by intro e;rw[h2 e.1] at e;cases e.2),if_pos (by rw[<- hu];exact hk),<- hu]
 exact hn
inductive PF where
 | ok (nm:Bt) (ps:List Bt) (S:Sf) (r:List Tk)
 | bad (r:List Tk)
inductive Fs (ts:List Tk):PF->Prop where
 | name (h:kOf ts≠1):Fs ts (.bad ts)
 | par (h:kOf ts=1) (h2:isT [40] ts.tail=false):Fs ts (.bad ts.tail)
 | pbad {r:List Tk} (h:kOf ts=1) (h2:isT [40] ts.tail=true) (h3:Pr [] ts.tail.tail (.bad r)):Fs ts (.bad r)
 | bbad {ps:List Bt} {r r2:List Tk} (h:kOf ts=1) (h2:isT [40] ts.tail=true) (h3:Pr [] ts.tail.tail (.ok ps r)) (h4:Qs .bl r (.bad r2)):Fs ts (.bad r2)
 | ok {ps:List Bt} {S:Sf} {r r2:List Tk} (h:kOf ts=1) (h2:isT [40] ts.tail=true) (h3:Pr [] ts.tail.tail (.ok ps r)) (h4:Qs .bl r (.ok S r2)):Fs ts (.ok (tOf ts) ps S r2)
theorem Fs.det {ts:List Tk} {y z:PF} (h:Fs ts y) (k:Fs ts z):y=z:=by
 cases h with
 | name a1=>cases k<;>first|rfl|(exact absurd (by assumption) a1)
 | par a1 a2=>cases k<;>first|rfl|(exact absurd a1 (by assumption))|(rename_i b1 b2 _ ;rw[a2] at b2;cases b2)|(rename_i b1 b2 _ _;rw[a2] at b2;cases b2)
 | pbad a1 a2 a3 =>
  cases k with
  | name b1=>exact absurd a1 b1
  | par b1 b2=>rw[a2] at b2;cases b2
  | pbad b1 b2 b3=>have:=a3.det b3;injection this with this;rw[this]
  | bbad b1 b2 b3 b4=>have:=a3.det b3;cases this
  | ok b1 b2 b3 b4=>have:=a3.det b3;cases this
 | bbad a1 a2 a3 a4 =>
  cases k with
  | name b1=>exact absurd a1 b1
  | par b1 b2=>rw[a2] at b2;cases b2
  | pbad b1 b2 b3=>have:=a3.det b3;cases this
  | bbad b1 b2 b3 b4=>have:=a3.det b3;injection this with _ this;subst this;have:=a4.det b4;injection this with this;rw[this]
  | ok b1 b2 b3 b4=>have:=a3.det b3;injection this with _ this;subst this;have:=a4.det b4;cases this
 | ok a1 a2 a3 a4 =>
  cases k with
  | name b1=>exact absurd a1 b1
  | par b1 b2=>rw[a2] at b2;cases b2
  | pbad b1 b2 b3=>have:=a3.det b3;cases this
  | bbad b1 b2 b3 b4=>have:=a3.det b3;injection this with _ this;subst this;have:=a4.det b4;cases this
  | ok b1 b2 b3 b4=>have:=a3.det b3;injection this with t1 this;subst t1 this;have:=a4.det b4;injection this with t2 t3;rw[t2,t3]
structure Fu where
 nm:Bt
 ln:Int
 ps:List Bt
 S:Sf
inductive PO where
 | ok (gs:List (Bt×Int)) (fs:List Fu) (wr:Int) (r:List Tk)
 | bad (r:List Tk)
abbrev glW:Bt:=[103,108,111,98,97,108]
abbrev fnW:Bt:=[102,117,110,99]
inductive So:Int->List (Bt×Int)->List Fu->List Tk->PO->Prop where
 | fin {wr:Int} {gs:List (Bt×Int)} {fs:List Fu} {ts:List Tk} (h:kOf ts=0):So wr gs fs ts (.ok gs fs wr ts)
 | gl {wr wr2 sz:Int} {gs:List (Bt×Int)} {fs:List Fu} {ts r:List Tk} {nm:Bt} {y:PO} (h:isT glW ts=true) (h2:glP wr ts.tail=.ok nm sz wr2 r) (k:So wr2 (gs++[(nm,sz)]) fs r y):So wr gs fs ts y
 | glb {wr:Int} {gs:List (Bt×Int)} {fs:List Fu} {ts r:List Tk} (h:isT glW ts=true) (h2:glP wr ts.tail=.bad r):So wr gs fs ts (.bad r)
 | fn {wr:Int} {gs:List (Bt×Int)} {fs:List Fu} {ts r:List Tk} {nm:Bt} {ps:List Bt} {S:Sf} {y:PO} (h:isT fnW ts=true) (h2:Fs ts.tail (.ok nm ps S r)) (k:So wr gs (fs++[⟨nm,Yb ts,ps,S⟩]) r y):So wr gs fs ts y
 | fnb {wr:Int} {gs:List (Bt×Int)} {fs:List Fu} {ts r:List Tk} (h:isT fnW ts=true) (h2:Fs ts.tail (.bad r)):So wr gs fs ts (.bad r)
 | no {wr:Int} {gs:List (Bt×Int)} {fs:List Fu} {ts:List Tk} (h:kOf ts≠0) (h1:isT glW ts=false) (h2:isT fnW ts=false):So wr gs fs ts (.bad ts)
theorem Ey {ts:List Tk} (h:isT glW ts=true) (k:isT fnW ts=true):False:=by
 have:=Zt h (t:=fnW) (by decide)
 rw[k] at this
 cases this
theorem So.det {wr:Int} {gs:List (Bt×Int)} {fs:List Fu} {ts:List Tk} {y z:PO} (h:So wr gs fs ts y) (k:So wr gs fs ts z):y=z:=by
 induction h generalizing z with
 | fin h =>
  cases k with
  | fin _=>rfl
  | gl h2=>exact absurd h (Qx h2).2.2.1
  | glb h2=>exact absurd h (Qx h2).2.2.1
  | fn h2=>exact absurd h (Qx h2).2.2.1
  | fnb h2=>exact absurd h (Qx h2).2.2.1
  | no h2=>exact absurd h h2
 | gl h h2 _ ih =>
  cases k with
  | fin h3=>exact absurd h3 (Qx h).2.2.1
  | gl h3 h4 h5 =>
   rw[h2] at h4
   injection h4 with e1 e2 e3 e4
   subst e1 e2 e3 e4
   exact ih h5
  | glb h3 h4=>rw[h2] at h4;cases h4
  | fn h3=>exact(Ey h h3).elim
  | fnb h3=>exact(Ey h h3).elim
  | no _ h3=>rw[h] at h3;cases h3
 | glb h h2 =>
  cases k with
  | fin h3=>exact absurd h3 (Qx h).2.2.1
  | gl h3 h4 h5=>rw[h2] at h4;cases h4
  | glb h3 h4=>rw[h2] at h4;injection h4 with e;rw[e]
  | fn h3=>exact(Ey h h3).elim
  | fnb h3=>exact(Ey h h3).elim
  | no _ h3=>rw[h] at h3;cases h3
 | fn h h2 _ ih =>
  cases k with
  | fin h3=>exact absurd h3 (Qx h).2.2.1
  | gl h3=>exact(Ey h3 h).elim
  | glb h3=>exact(Ey h3 h).elim
  | fn h3 h4 h5 =>
   have e:=h2.det h4
   injection e with e1 e2 e3 e4
   subst e1 e2 e3 e4
   exact ih h5
  | fnb h3 h4=>have e:=h2.det h4;cases e
  | no _ _ h3=>rw[h] at h3;cases h3
 | fnb h h2 =>
  cases k with
  | fin h3=>exact absurd h3 (Qx h).2.2.1
  | gl h3=>exact(Ey h3 h).elim
  | glb h3=>exact(Ey h3 h).elim
  | fn h3 h4 h5=>have e:=h2.det h4;cases e
  | fnb h3 h4=>have e:=h2.det h4;injection e with e;rw[e]
  | no _ _ h3=>rw[h] at h3;cases h3
 | no h h1 h2 =>
  cases k with
  | fin h3=>exact absurd h3 h
  | gl h3=>rw[h1] at h3;cases h3
  | glb h3=>rw[h1] at h3;cases h3
  | fn h3=>rw[h2] at h3;cases h3
  | fnb h3=>rw[h2] at h3;cases h3
  | no _ _ _=>rfl
end
end Go.Proofs.YtldgghnjminhiaaGreatDoor
