/-
  PLAIN LAW: the tokens of the texts that chapter 5's reference writes. No walk. (Filled in from a template of this repo.)
  PLAIN LAW: the tokens of the texts of statements and of sources, and what they cost. No walk. (Filled in from a template of this repo.)
-/
import Derived.Test.YtpcdinelpfbpfaaDoorMtk
import Derived.Test.YtpcdinelpfbpfaaDoorMfm
namespace Go.Proofs.YtpcdinelpfbpfaaDoor
set_option linter.unusedVariables false
set_option linter.unusedSimpArgs false

abbrev Xt:=Int×Int×Bt
def Lx (s r:Bt) (ts:List Xt):Prop := ∀ (acc:List Tk) (ln:Int),∃ ys ln2,scF acc s ln=scF (acc++ys) r ln2/\unl ys=ts /\ ∀ x∈ys,TokOk x
theorem Lx.refl (s:Bt):Lx s s []:=fun acc ln=>⟨[],ln,by simp,rfl,by simp⟩
theorem Lx.trans {s m r:Bt} {t1 t2:List Xt} (h:Lx s m t1) (k:Lx m r t2):Lx s r (t1++t2):=fun acc ln=>by
 obtain⟨ys,ln2,h1,h2,h3⟩:=h acc ln
 obtain⟨zs,ln3,k1,k2,k3⟩:=k (acc++ys) ln2
 refine⟨ys++zs,ln3,by rw [h1,k1,List.append_assoc],?_,?_⟩
 ·unfold unl at h2 k2 ⊢
  rw [List.map_append,h2,k2]
 ·intro x hx
  rw [List.mem_append] at hx
  rcases hx with hx | hx
  ·exact h3 x hx
  ·exact k3 x hx
theorem Lx.c32 {s r:Bt} {ts:List Xt} (h:Lx s r ts):Lx (32::s) r ts:=fun acc ln=>by rw [scF_32];exact h acc ln
theorem Lx.c9 {s r:Bt} {ts:List Xt} (h:Lx s r ts):Lx (9::s) r ts:=fun acc ln=>by rw [scF_9];exact h acc ln
theorem Lx.c10 {s r:Bt} {ts:List Xt} (h:Lx s r ts):Lx (10::s) r ts:=fun acc ln=>by rw [scF_10];exact h acc (ln+1)
theorem Lx.tabs {s r:Bt} {ts:List Xt} (n:Nat) (h:Lx s r ts):Lx (tabs n++s) r ts:=by
 induction n with
 | zero=>exact h
 | succ n ih=>exact Lx.c9 ih
theorem Lx.tok {b:UInt8} {tt s r:Bt} {k v:Int} {ts:List Xt} (h1:b.toNat≠10) (h2:b.toNat≠32) (h3:b.toNat≠9) (h4:b.toNat≠35) (hn:nxI (b::(tt++s))=(k,v,b::tt,true)) (h:Lx s r ts) :
  Lx (b::(tt++s)) r ((k,v,b::tt)::ts):=fun acc ln=>by
 have hs:=step_of (ln:=ln) h1 h2 h3 h4 hn
 obtain⟨ys,ln2,e1,e2,e3⟩:=h (acc++[⟨k,ln,v,b::tt⟩]) ln
 refine⟨⟨k,ln,v,b::tt⟩::ys,ln2,?_,?_,?_⟩
 ·rw [scF_tok hs]
  show scF _ ((b::(tt++s)).drop (b::tt).length) ln=_
  rw [<- List.cons_append,List.drop_left,e1]
  simp
 ·unfold unl at e2 ⊢
  rw [List.map_cons,e2]
 ·intro x hx
  rw [List.mem_cons] at hx
  rcases hx with rfl | hx
  ·exact⟨ln,b,tt++s,hs⟩
  ·exact e3 x hx
def nb (r:Bt):Prop := ∀ c r2,r=c::r2->in8 c=false
theorem sg_b {b c:UInt8} (h:isS [b,c]=true):b=60\/b=61\/b=33\/b=38\/b=124:=by
 simp [isS,signsL] at h
 rcases h with⟨h,_⟩ | ⟨h,_⟩ | ⟨h,_⟩ | ⟨h,_⟩ | ⟨h,_⟩ <;> simp [h]
theorem nxf_sign {b:UInt8} {s:Bt} (h1:lt8 b=false) (h2:dg8 b=false) (hs:isS [b]=true) (h : ∀ c r2,s=c::r2->isS [b,c]=false):nxI (b::s)=(4,0,[b],true):=by
 show (if lt8 b then _ else _)=_
 rw [if_neg (by rw [h1];simp),if_neg (by rw [h2];simp),if_neg]
 ·show (4,0,[b],isS [b])=_
  rw [hs]
 ·intro ⟨k1,k2⟩
  cases s with
  | nil=>simp at k1
  | cons c r2 =>
   have:=h c r2 rfl
   rw [show List.take 2 (b::c::r2)=[b,c] from rfl,this] at k2
   cases k2
theorem Lx.sg {b:UInt8} {s r:Bt} {ts:List Xt} (hb:b=40\/b=41\/b=123\/b=125\/b=91\/b=93\/b=44\/b=59) (h:Lx s r ts):Lx (b::s) r ((4,0,[b])::ts):=by
 have hn:nxI (b::s)=(4,0,[b],true):=nxf_sign (by rcases hb with rfl | rfl | rfl | rfl | rfl | rfl | rfl | rfl <;> decide) (by rcases hb with rfl | rfl | rfl | rfl | rfl | rfl | rfl | rfl <;> decide) (by rcases hb with rfl | rfl | rfl | rfl | rfl | rfl | rfl | rfl <;> decide) (fun c r2 e=>by
  cases hh:isS [b,c] with
  | false=>rfl
  | true=>exact absurd (sg_b hh) (by rcases hb with rfl | rfl | rfl | rfl | rfl | rfl | rfl | rfl <;> decide))
 exact Lx.tok (tt:=[]) (by rcases hb with rfl | rfl | rfl | rfl | rfl | rfl | rfl | rfl <;> decide) (by rcases hb with rfl | rfl | rfl | rfl | rfl | rfl | rfl | rfl <;> decide) (by rcases hb with rfl | rfl | rfl | rfl | rfl | rfl | rfl | rfl <;> decide) (by rcases hb with rfl | rfl | rfl | rfl | rfl | rfl | rfl | rfl <;> decide) hn h
theorem Lx.sgB {t s r:Bt} {ts:List Xt} (ht:isS t=true) (h:Lx s r ts):Lx (t++(32::s)) r ((4,0,t)::ts):=by
 have hmem:t∈signsL:=by unfold isS at ht;simpa using ht
 have key : ∃ b tt,t=b::tt/\b.toNat≠10/\b.toNat≠32/\b.toNat≠9/\b.toNat≠35/\nxI (b::(tt++(32::s)))=(4,0,b::tt,true):=by
  simp only [signsL,List.mem_cons,List.not_mem_nil,or_false] at hmem
  rcases hmem with rfl | rfl | rfl | rfl | rfl | rfl | rfl | rfl | rfl | rfl | rfl | rfl | rfl | rfl | rfl | rfl | rfl | rfl | rfl | rfl | rfl | rfl <;>
   first
   | exact⟨_,[],rfl,by decide,by decide,by decide,by decide,nxf_sign (by decide) (by decide) (by decide) (fun c r2 e=>by injection e with e _;subst e;decide)⟩
   | exact⟨_,[_],rfl,by decide,by decide,by decide,by decide,rfl⟩
 obtain⟨b,tt,rfl,h1,h2,h3,h4,hn⟩:=key
 exact Lx.tok h1 h2 h3 h4 hn (Lx.c32 h)
theorem nx_name {b:UInt8} {t s:Bt} (hb:lt8 b=true) (ht : ∀ c∈t,in8 c=true) (hl:(b::t).length<=32) (hs:nb s):nxI (b::(t++s))=(if isW (b::t) then 3 else 1,0,b::t,true):=by
 have hin:in8 b=true:=by unfold in8;rw [hb];rfl
 have hrun:run in8 (b::(t++s))=b::t:=by
  rw [<- List.cons_append,run_app (fun c hc=>by rw [List.mem_cons] at hc;rcases hc with rfl | hc;exact hin;exact ht c hc),run_stop hs,List.append_nil]
 show (if lt8 b then _ else _)=_
 rw [if_pos hb]
 show (if isW (run in8 (b::(t++s))) then 3 else 1,0,run in8 (b::(t++s)),decide ((run in8 (b::(t++s))).length<=32))=_
 rw [hrun,decide_eq_true hl]
theorem lt8_ne {b:UInt8} (h:in8 b=true):b.toNat≠10/\b.toNat≠32/\b.toNat≠9/\b.toNat≠35/\b.toNat≠61/\b.toNat≠38/\b.toNat≠124:=by
 unfold in8 lt8 dg8 at h
 simp at h
 omega
theorem lt8_in {b:UInt8} (h:lt8 b=true):in8 b=true:=by unfold in8;rw [h];rfl
theorem Lx.name {nm s r:Bt} {ts:List Xt} (hn:okN nm) (hs:nb s) (h:Lx s r ts):Lx (nm++s) r ((1,0,nm)::ts):=by
 obtain⟨b,t,rfl,h1,h2,h3,h4⟩:=hn
 have e:=nx_name (s:=s) h1 h2 (by omega) hs
 rw [h3] at e
 obtain⟨q1,q2,q3,q4,_⟩:=lt8_ne (lt8_in h1)
 exact Lx.tok q1 q2 q3 q4 e h
theorem Lx.word {w s r:Bt} {ts:List Xt} (hw:isW w=true) (hs:nb s) (h:Lx s r ts):Lx (w++s) r ((3,0,w)::ts):=by
 have hmem:w∈wordsL:=by unfold isW at hw;simpa using hw
 have key : ∃ b t,w=b::t/\lt8 b=true/\(∀ c∈t,in8 c=true)/\(b::t).length<=32:=by
  simp only [wordsL,List.mem_cons,List.not_mem_nil,or_false] at hmem
  rcases hmem with rfl | rfl | rfl | rfl | rfl | rfl | rfl | rfl | rfl | rfl <;> exact⟨_,_,rfl,by decide,by decide,by decide⟩
 obtain⟨b,t,rfl,h1,h2,h3⟩:=key
 have e:=nx_name (s:=s) h1 h2 h3 hs
 rw [hw] at e
 obtain⟨q1,q2,q3,q4,_⟩:=lt8_ne (lt8_in h1)
 exact Lx.tok q1 q2 q3 q4 e h
theorem dec_all (n:Nat):allD (Lib.decDigits n)/\decN (Lib.decDigits n)=n:=by
 induction n using Nat.strongRecOn with
 | _ n ih =>
  rw [Lib.decDigits]
  split
  ·rename_i h
   have e:(UInt8.ofNat (48+n)).toNat=48+n:=by simp;omega
   refine⟨?_,?_⟩
   ·intro c hc
    rw [List.mem_singleton] at hc
    subst hc
    omega
   ·show decF 0 [_]=n
    rw [decF_cons,decF_nil,e];omega
  ·rename_i h
   obtain⟨h1,h2⟩:=ih (n / 10) (by omega)
   have e:(UInt8.ofNat (48+n % 10)).toNat=48+n % 10:=by simp;omega
   refine⟨?_,?_⟩
   ·intro c hc
    rw [List.mem_append,List.mem_singleton] at hc
    rcases hc with hc | rfl
    ·exact h1 c hc
    ·omega
   ·show decF 0 (_++[_])=n
    rw [decF_push,show decF 0 (Lib.decDigits (n / 10))=n / 10 from h2,e];omega
theorem dec_ne (n:Nat) : ∃ c r,Lib.decDigits n=c::r/\dg8 c=true:=by
 obtain⟨h1,_⟩:=dec_all n
 cases h:Lib.decDigits n with
 | nil =>
  rw [Lib.decDigits] at h
  split at h <;> simp at h
 | cons c r =>
  rw [h] at h1
  exact⟨c,r,rfl,by have:=h1 c (by simp);unfold dg8;simp;exact this⟩
theorem Lx.num {n:Nat} {s r:Bt} {ts:List Xt} (hn:n<=9223372036854775807) (hs:nb s) (h:Lx s r ts):Lx (Lib.decDigits n++s) r ((2,n,Lib.decDigits n)::ts):=by
 obtain⟨h1,h2⟩:=dec_all n
 obtain⟨c,t,hc,hd⟩:=dec_ne n
 have hall : ∀ x∈Lib.decDigits n,dg8 x=true:=fun x hx=>by have:=h1 x hx;unfold dg8;simp;exact this
 have hsd : ∀ c r2,s=c::r2->dg8 c=false:=fun c r2 e=>by
  have:=hs c r2 e
  unfold in8 at this
  cases hh:dg8 c with
  | false=>rfl
  | true=>rw [hh] at this;simp at this
 have hrun:run dg8 (Lib.decDigits n++s)=Lib.decDigits n:=by rw [run_app hall,run_stop hsd,List.append_nil]
 have hrin:run in8 (Lib.decDigits n++s)=Lib.decDigits n:=by rw [run_app (fun x hx=>dg_in (hall x hx)),run_stop hs,List.append_nil]
 have ha:Lib.atoiAll (Lib.decDigits n)=.ok (n:Int):=by
  rw [atoi_dec _ h1 (by rw [hc];simp),h2,if_pos (by omega)]
 have hlt:lt8 c=false:=by
  cases hh:lt8 c with
  | false=>rfl
  | true =>
   unfold dg8 at hd
   unfold lt8 at hh
   simp at hd hh
   omega
 have e:=nx_digits2 (b:=c) (r:=t++s) hlt hd
 rw [<- List.cons_append,<- hc,hrun,hrin,ha] at e
 have e2:nxI (Lib.decDigits n++s)=(2,(n:Int),Lib.decDigits n,true):=by
  rw [e]
  simp [Lib.itoa_nonneg]
 rw [hc,List.cons_append] at e2
 rw [hc,List.cons_append]
 obtain⟨q1,q2,q3,q4,_⟩:=lt8_ne (dg_in hd)
 exact Lx.tok q1 q2 q3 q4 e2 h
def xlen:List Xt->Nat
 | []=>0
 | x::l=>x.2.2.length+20+xlen l
theorem xlen_app (a b:List Xt):xlen (a++b)=xlen a+xlen b:=by
 induction a with
 | nil=>simp [xlen]
 | cons x a ih=>simp only [List.cons_append,xlen,ih];omega
theorem xlen_unl (l:List Tk):xlen (unl l)=tkLen 20 l:=by
 induction l with
 | nil=>rfl
 | cons x l ih =>
  unfold unl at ih ⊢
  simp only [List.map_cons,xlen,tkLen,ih]
abbrev sgX (t:Bt):Xt:=(4,0,t)
abbrev wdX (t:Bt):Xt:=(3,0,t)
abbrev nmX (t:Bt):Xt:=(1,0,t)
def parX (s:List Xt):List Xt:=sgX [40]::(s++[sgX [41]])
def opdX (h:Hd) (s:List Xt):List Xt:=if cmpd h=true then parX s else s
def commX:List (List Xt)->List Xt
 | []=>[]
 | [s]=>s
 | s::r=>s++(sgX [44]::commX r)
def listX (ss:List (List Xt)):List Xt:=parX (commX ss)
def tok1 (h:Hd) (os:List (Hd×List Xt)):List Xt :=
 if h.k=1 then [(2,h.v,Lib.decDigits h.v.toNat)]
 else if h.k=13\/h.k=2\/h.k=3 then [nmX h.nm]
 else if h.k=12 then [wdX [114,101,97,100]]
 else if h.k=11 then [sgX [38],nmX h.nm]
 else if h.k=4 then (match os with | [a]=>nmX h.nm::sgX [91]::(a.2++[sgX [93]]) | _=>[])
 else if h.k=5 then (match os with | [a]=>sgX (sgn h.op)::opdX a.1 a.2 | _=>[])
 else if h.k=6 then (match os with | [a,b]=>opdX a.1 a.2++(sgX (sgn h.op)::opdX b.1 b.2) | _=>[])
 else if h.k=7 then (match os with | [a,b]=>opdX a.1 a.2++(sgX [38,38]::opdX b.1 b.2) | _=>[])
 else if h.k=8 then (match os with | [a,b]=>opdX a.1 a.2++(sgX [124,124]::opdX b.1 b.2) | _=>[])
 else if h.k=9 then nmX h.nm::listX (os.map (·.2))
 else if h.k=10 then (match os with | a::r=>(if a.1.k=13\/a.1.k=2\/a.1.k=3 then parX (opdX a.1 a.2) else opdX a.1 a.2)++listX (r.map (·.2)) | []=>[])
 else []
def toks:Fo->List (Hd×List Xt)
 | .nil=>[]
 | .cons h ar r=>(h,tok1 h (toks ar))::toks r
abbrev tokE (h:Hd) (ar:Fo):List Xt:=tok1 h (toks ar)
theorem toks_get (F:Fo) (j:Nat) (x:Hd×Fo) (h:F.get j=some x):(toks F)[j]?=some (x.1,tokE x.1 x.2):=by
 induction F generalizing j with
 | nil=>cases h
 | cons hd ar r _ ih =>
  cases j with
  | zero =>
   have e:(hd,ar)=x:=by injection h
   subst e;rfl
  | succ j=>exact ih j h
def hd1 (s:Bt):Prop := ∃ c r,s=c::r/\c≠61
def LxE (h:Hd) (ar:Fo):Prop:=(∀ s r ts,nb s->Lx s r ts->Lx (fmtE h ar++s) r (tokE h ar++ts))/\hd1 (fmtE h ar)
theorem nb_of {c:UInt8} {s:Bt} (h:in8 c=false):nb (c::s):=fun d r2 e=>by injection e with e _;subst e;exact h
theorem LxE.opr {h:Hd} {ar:Fo} (k:LxE h ar):(∀ s r ts,nb s->Lx s r ts->Lx (opd h (fmtE h ar)++s) r (opdX h (tokE h ar)++ts))/\hd1 (opd h (fmtE h ar)):=by
 unfold Go.Proofs.YtpcdinelpfbpfaaDoor.opd opdX
 by_cases hc:cmpd h=true
 ·rw [if_pos hc,if_pos hc]
  refine⟨fun s r ts hs hx=>?_,40,_,rfl,by decide⟩
  unfold paren parX
  simp only [List.cons_append,List.append_assoc,List.nil_append]
  exact Lx.sg (by simp) (k.1 _ _ _ (nb_of (by decide)) (Lx.sg (by simp) hx))
 ·rw [if_neg hc,if_neg hc]
  exact k
theorem LxE.par {h:Hd} {ar:Fo} (k:LxE h ar) {s r:Bt} {ts:List Xt} (hx:Lx s r ts):Lx (paren (Go.Proofs.YtpcdinelpfbpfaaDoor.opd h (fmtE h ar))++s) r (parX (opdX h (tokE h ar))++ts):=by
 unfold paren parX
 simp only [List.cons_append,List.append_assoc,List.nil_append]
 exact Lx.sg (by simp) (k.opr.1 _ _ _ (nb_of (by decide)) (Lx.sg (by simp) hx))
theorem Lx.comm (F:Fo) (hF : ∀ j x,F.get j=some x->LxE x.1 x.2) : ∀ s r ts,nb s->Lx s r ts->Lx (comm ((fmts F).map (·.2))++s) r (commX ((toks F).map (·.2))++ts):=by
 induction F with
 | nil=>intro s r ts _ hx;exact hx
 | cons h ar R _ ih =>
  intro s r ts hs hx
  have h0:=hF 0 (h,ar) rfl
  have ih:=ih (fun j x hj=>hF (j+1) x hj)
  cases R with
  | nil=>exact h0.1 _ _ _ hs hx
  | cons h2 ar2 R2 =>
   show Lx ((fmtE h ar++([44,32]++Go.Proofs.YtpcdinelpfbpfaaDoor.comm ((fmts (.cons h2 ar2 R2)).map (·.2))))++s) r ((tokE h ar++(sgX [44]::commX ((toks (.cons h2 ar2 R2)).map (·.2))))++ts)
   simp only [List.append_assoc,List.cons_append,List.nil_append]
   exact h0.1 _ _ _ (nb_of (by decide)) (Lx.sg (by simp) (Lx.c32 (ih s r ts hs hx)))
theorem Lx.list (F:Fo) (hF : ∀ j x,F.get j=some x->LxE x.1 x.2) {s r:Bt} {ts:List Xt} (hx:Lx s r ts):Lx (listB ((fmts F).map (·.2))++s) r (listX ((toks F).map (·.2))++ts):=by
 unfold listB listX paren parX
 simp only [List.cons_append,List.append_assoc,List.nil_append]
 exact Lx.sg (by simp) (Lx.comm F hF _ _ _ (nb_of (by decide)) (Lx.sg (by simp) hx))
theorem hd1.app {s t:Bt} (h:hd1 s):hd1 (s++t):=by
 obtain⟨c,r,rfl,h⟩:=h
 exact⟨c,r++t,rfl,h⟩
theorem okN.hd {nm:Bt} (h:okN nm):hd1 nm:=by
 obtain⟨b,t,rfl,h1,_⟩:=h
 exact⟨b,t,rfl,fun e=>by subst e;exact absurd h1 (by decide)⟩
theorem okN.amp {nm s:Bt} (h:okN nm) : ∀ c r2,nm++s=c::r2->isS [38,c]=false:=by
 obtain⟨b,t,rfl,h1,_⟩:=h
 intro c r2 e
 rw [List.cons_append] at e
 injection e with e _
 subst e
 cases hh:isS [38,b] with
 | false=>rfl
 | true =>
  have:=isS_two hh
  rcases this with rfl | rfl | rfl <;> exact absurd h1 (by decide)
theorem hd1.un {s t:Bt} {b:UInt8} (hb:b=45\/b=33) (h:hd1 s) : ∀ c r2,s++t=c::r2->isS [b,c]=false:=by
 obtain⟨d,r,rfl,hd⟩:=h
 intro c r2 e
 rw [List.cons_append] at e
 injection e with e _
 subst e
 cases hh:isS [b,d] with
 | false=>rfl
 | true =>
  simp [isS,signsL] at hh
  rcases hb with rfl | rfl
  ·simp at hh
  ·simp at hh;exact absurd hh hd
theorem sgn_S {op:Int} (h3:3<=op) (h11:op<=11):isS (sgn op)=true:=by
 have:op=3\/op=4\/op=5\/op=6\/op=7\/op=8\/op=9\/op=10\/op=11:=by omega
 rcases this with rfl | rfl | rfl | rfl | rfl | rfl | rfl | rfl | rfl <;> decide
theorem sgn_un {op:Int} (h3:1<=op) (h11:op<=2) : ∃ b,sgn op=[b]/\(b=45\/b=33):=by
 have:op=1\/op=2:=by omega
 rcases this with rfl | rfl
 ·exact⟨45,rfl,.inl rfl⟩
 ·exact⟨33,rfl,.inr rfl⟩
theorem Fo.one {F:Fo} (h:F.len=1) : ∃ x:Hd×Fo,F.get 0=some x/\fmts F=[(x.1,fmtE x.1 x.2)]/\toks F=[(x.1,tokE x.1 x.2)]:=by
 cases F with
 | nil=>simp [Fo.len] at h
 | cons h1 a1 r =>
  cases r with
  | nil=>exact⟨(h1,a1),rfl,rfl,rfl⟩
  | cons h2 a2 r=>simp [Fo.len] at h
theorem Fo.two {F:Fo} (h:F.len=2) : ∃ x y:Hd×Fo,F.get 0=some x/\F.get 1=some y/\fmts F=[(x.1,fmtE x.1 x.2),(y.1,fmtE y.1 y.2)]/\toks F=[(x.1,tokE x.1 x.2),(y.1,tokE y.1 y.2)]:=by
 cases F with
 | nil=>simp [Fo.len] at h
 | cons h1 a1 r =>
  cases r with
  | nil=>simp [Fo.len] at h
  | cons h2 a2 r =>
   cases r with
   | nil=>exact⟨(h1,a1),(h2,a2),rfl,rfl,rfl,rfl⟩
   | cons h3 a3 r=>simp [Fo.len] at h
theorem LxE.one (h:Hd) (ar:Fo) (hok:okH h ar) (hF : ∀ j x,ar.get j=some x->LxE x.1 x.2):LxE h ar:=by
 rcases hok with⟨_,_,k⟩ | ⟨_,k,_,k0,k1,_⟩ | ⟨_,_,k⟩
 ·rcases k with⟨k,hn,_⟩ | ⟨k,_⟩ | ⟨k,hn,_⟩ | ⟨k,hn,hl⟩ | ⟨k,_,hl⟩ | ⟨k,hn,hl⟩ | ⟨k,_,g,bs,r0,rfl,hg,hr⟩
  ·have e1:fmtE h ar=h.nm:=by show fmt1 h _=_;unfold fmt1;simp [k]
   have e2:tokE h ar=[nmX h.nm]:=by show tok1 h _=_;unfold tok1;simp [k]
   refine⟨fun s r ts hs hx=>?_,by rw [e1];exact hn.hd⟩
   rw [e1,e2]
   exact Lx.name hn hs hx
  ·have e1:fmtE h ar=[114,101,97,100]:=by show fmt1 h _=_;unfold fmt1;simp [k]
   have e2:tokE h ar=[wdX [114,101,97,100]]:=by show tok1 h _=_;unfold tok1;simp [k]
   refine⟨fun s r ts hs hx=>?_,by rw [e1];exact⟨_,_,rfl,by decide⟩⟩
   rw [e1,e2]
   exact Lx.word (by decide) hs hx
  ·have e1:fmtE h ar=38::h.nm:=by show fmt1 h _=_;unfold fmt1;simp [k]
   have e2:tokE h ar=[sgX [38],nmX h.nm]:=by show tok1 h _=_;unfold tok1;simp [k]
   refine⟨fun s r ts hs hx=>?_,by rw [e1];exact⟨_,_,rfl,by decide⟩⟩
   rw [e1,e2]
   exact Lx.tok (tt:=[]) (by decide) (by decide) (by decide) (by decide) (nxf_sign (by decide) (by decide) (by decide) hn.amp) (Lx.name hn hs hx)
  ·obtain⟨x,hx0,f1,t1⟩:=Fo.one hl
   have e1:fmtE h ar=h.nm++([91]++(fmtE x.1 x.2++[93])):=by show fmt1 h _=_;rw [f1];unfold fmt1;simp [k]
   have e2:tokE h ar=nmX h.nm::sgX [91]::(tokE x.1 x.2++[sgX [93]]):=by show tok1 h _=_;rw [t1];unfold tok1;simp [k]
   refine⟨fun s r ts hs hx=>?_,by rw [e1];exact hn.hd.app⟩
   rw [e1,e2]
   simp only [List.append_assoc,List.cons_append,List.nil_append]
   exact Lx.name hn (nb_of (by decide)) (Lx.sg (by simp) ((hF 0 x hx0).1 _ _ _ (nb_of (by decide)) (Lx.sg (by simp) hx)))
  ·obtain⟨x,y,hx0,hy0,f1,t1⟩:=Fo.two hl
   rcases k with k | k
   ·have e1:fmtE h ar=opd x.1 (fmtE x.1 x.2)++([32,38,38,32]++opd y.1 (fmtE y.1 y.2)):=by show fmt1 h _=_;rw [f1];unfold fmt1;simp [k]
    have e2:tokE h ar=opdX x.1 (tokE x.1 x.2)++(sgX [38,38]::opdX y.1 (tokE y.1 y.2)):=by show tok1 h _=_;rw [t1];unfold tok1;simp [k]
    refine⟨fun s r ts hs hx=>?_,by rw [e1];exact(hF 0 x hx0).opr.2.app⟩
    rw [e1,e2]
    simp only [List.append_assoc,List.cons_append,List.nil_append]
    exact(hF 0 x hx0).opr.1 _ _ _ (nb_of (by decide)) (Lx.c32 (Lx.sgB (t:=[38,38]) (by decide) ((hF 1 y hy0).opr.1 _ _ _ hs hx)))
   ·have e1:fmtE h ar=opd x.1 (fmtE x.1 x.2)++([32,124,124,32]++opd y.1 (fmtE y.1 y.2)):=by show fmt1 h _=_;rw [f1];unfold fmt1;simp [k]
    have e2:tokE h ar=opdX x.1 (tokE x.1 x.2)++(sgX [124,124]::opdX y.1 (tokE y.1 y.2)):=by show tok1 h _=_;rw [t1];unfold tok1;simp [k]
    refine⟨fun s r ts hs hx=>?_,by rw [e1];exact(hF 0 x hx0).opr.2.app⟩
    rw [e1,e2]
    simp only [List.append_assoc,List.cons_append,List.nil_append]
    exact(hF 0 x hx0).opr.1 _ _ _ (nb_of (by decide)) (Lx.c32 (Lx.sgB (t:=[124,124]) (by decide) ((hF 1 y hy0).opr.1 _ _ _ hs hx)))
  ·have e1:fmtE h ar=h.nm++listB ((fmts ar).map (·.2)):=by show fmt1 h _=_;unfold fmt1;simp [k]
   have e2:tokE h ar=nmX h.nm::listX ((toks ar).map (·.2)):=by show tok1 h _=_;unfold tok1;simp [k]
   refine⟨fun s r ts hs hx=>?_,by rw [e1];exact hn.hd.app⟩
   rw [e1,e2]
   simp only [List.append_assoc,List.cons_append,List.nil_append]
   exact Lx.name hn (nb_of (by decide)) (Lx.list ar hF hx)
  ·have h0:=hF 0 (g,bs) rfl
   by_cases hk:g.k=13\/g.k=2\/g.k=3
   ·have e1:fmtE h (.cons g bs r0)=paren (opd g (fmtE g bs))++listB ((fmts r0).map (·.2)):=by show fmt1 h ((g,fmtE g bs)::fmts r0)=_;unfold fmt1;simp [k,hk]
    have e2:tokE h (.cons g bs r0)=parX (opdX g (tokE g bs))++listX ((toks r0).map (·.2)):=by show tok1 h ((g,tokE g bs)::toks r0)=_;unfold tok1;simp [k,hk]
    refine⟨fun s r ts hs hx=>?_,by rw [e1];exact hd1.app ⟨40,_,rfl,by decide⟩⟩
    rw [e1,e2]
    simp only [List.append_assoc]
    exact h0.par (Lx.list r0 (fun j y hy=>hF (j+1) y hy) hx)
   ·have e1:fmtE h (.cons g bs r0)=opd g (fmtE g bs)++listB ((fmts r0).map (·.2)):=by show fmt1 h ((g,fmtE g bs)::fmts r0)=_;unfold fmt1;simp [k,hk]
    have e2:tokE h (.cons g bs r0)=opdX g (tokE g bs)++listX ((toks r0).map (·.2)):=by show tok1 h ((g,tokE g bs)::toks r0)=_;unfold tok1;simp [k,hk]
    refine⟨fun s r ts hs hx=>?_,by rw [e1];exact h0.opr.2.app⟩
    rw [e1,e2]
    simp only [List.append_assoc]
    exact h0.opr.1 _ _ _ (nb_of (by decide)) (Lx.list r0 (fun j y hy=>hF (j+1) y hy) hx)
 ·have e1:fmtE h ar=Lib.decDigits h.v.toNat:=by show fmt1 h _=_;unfold fmt1;simp [k]
  have e2:tokE h ar=[(2,h.v,Lib.decDigits h.v.toNat)]:=by show tok1 h _=_;unfold tok1;simp [k]
  obtain⟨z,hz⟩ : ∃ z:Nat,h.v=z:=Int.eq_ofNat_of_zero_le k0
  rw [hz] at e1 e2 k1
  rw [Int.toNat_natCast] at e1 e2
  refine⟨fun s r ts hs hx=>?_,?_⟩
  ·rw [e1,e2]
   exact Lx.num (by omega) hs hx
  ·rw [e1]
   obtain⟨c,r,hc,hd⟩:=dec_ne z
   exact⟨c,r,hc,fun e=>by subst e;exact absurd hd (by decide)⟩
 ·rcases k with⟨k,o1,o2,hl⟩ | ⟨k,o1,o2,hl⟩
  ·obtain⟨x,hx0,f1,t1⟩:=Fo.one hl
   obtain⟨b,hb,hbb⟩:=sgn_un o1 o2
   have h0:=(hF 0 x hx0).opr
   have e1:fmtE h ar=b::opd x.1 (fmtE x.1 x.2):=by show fmt1 h _=_;rw [f1];unfold fmt1;simp [k,hb]
   have e2:tokE h ar=sgX [b]::opdX x.1 (tokE x.1 x.2):=by show tok1 h _=_;rw [t1];unfold tok1;simp [k,hb]
   refine⟨fun s r ts hs hx=>?_,by rw [e1];exact⟨b,_,rfl,by rcases hbb with rfl | rfl <;> decide⟩⟩
   rw [e1,e2]
   simp only [List.cons_append]
   exact Lx.tok (tt:=[]) (by rcases hbb with rfl | rfl <;> decide) (by rcases hbb with rfl | rfl <;> decide) (by rcases hbb with rfl | rfl <;> decide) (by rcases hbb with rfl | rfl <;> decide)
    (nxf_sign (s:=opd x.1 (fmtE x.1 x.2)++s) (by rcases hbb with rfl | rfl <;> decide) (by rcases hbb with rfl | rfl <;> decide) (by rcases hbb with rfl | rfl <;> decide) (h0.2.un hbb)) (h0.1 _ _ _ hs hx)
  ·obtain⟨x,y,hx0,hy0,f1,t1⟩:=Fo.two hl
   have e1:fmtE h ar=opd x.1 (fmtE x.1 x.2)++([32]++(sgn h.op++([32]++opd y.1 (fmtE y.1 y.2)))):=by show fmt1 h _=_;rw [f1];unfold fmt1;simp [k]
   have e2:tokE h ar=opdX x.1 (tokE x.1 x.2)++(sgX (sgn h.op)::opdX y.1 (tokE y.1 y.2)):=by show tok1 h _=_;rw [t1];unfold tok1;simp [k]
   refine⟨fun s r ts hs hx=>?_,by rw [e1];exact(hF 0 x hx0).opr.2.app⟩
   rw [e1,e2]
   simp only [List.append_assoc,List.cons_append,List.nil_append]
   exact(hF 0 x hx0).opr.1 _ _ _ (nb_of (by decide)) (Lx.c32 (Lx.sgB (sgn_S o1 o2) ((hF 1 y hy0).opr.1 _ _ _ hs hx)))
theorem LxE.all (F:Fo) (hw:F.wf) : ∀ j x,F.get j=some x->LxE x.1 x.2:=by
 induction F with
 | nil=>intro j x hx;cases hx
 | cons h ar r ih1 ih2 =>
  intro j x hx
  cases j with
  | zero =>
   have e:(h,ar)=x:=by injection hx
   subst e
   exact LxE.one h ar hw.1 (ih1 hw.2.2.1)
  | succ j=>exact ih2 hw.2.2.2 j x hx
end Go.Proofs.YtpcdinelpfbpfaaDoor
namespace Go.Proofs.YtpcdinelpfbpfaaDoor
set_option linter.unusedVariables false
set_option linter.unusedSimpArgs false

def valX (xs:Fo) (i:Nat):List Xt:=match (toks xs)[i]? with | some a=>a.2 | none=>[]
def tokS:Sf->List Xt
 | .nil=>[]
 | .cons k _ nm xs th el r =>
  (if k=1 then wdX [118,97,114]::nmX nm::sgX [61]::(valX xs 0++[sgX [59]])
   else if k=2 then nmX nm::sgX [61]::(valX xs 0++[sgX [59]])
   else if k=3 then nmX nm::sgX [91]::(valX xs 0++(sgX [93]::sgX [61]::(valX xs 1++[sgX [59]])))
   else if k=6 then wdX [114,101,116,117,114,110]::(valX xs 0++[sgX [59]])
   else if k=7 then wdX [112,114,105,110,116]::(valX xs 0++[sgX [59]])
   else if k=8 then wdX [99,97,108,108]::(valX xs 0++[sgX [59]])
   else if k=5 then wdX [119,104,105,108,101]::(valX xs 0++(sgX [123]::(tokS th++[sgX [125]])))
   else if k=4 then wdX [105,102]::(valX xs 0++(sgX [123]::(tokS th++(sgX [125] ::
    (if el.len=0 then [] else wdX [101,108,115,101]::sgX [123]::(tokS el++[sgX [125]]))))))
   else [])++tokS r
theorem valF_Lx (xs:Fo) (hw:xs.wf) (i:Nat) (hi:i<xs.len) {s r:Bt} {ts:List Xt} (hs:nb s) (hx:Lx s r ts):Lx (valF xs i++s) r (valX xs i++ts):=by
 obtain⟨x,hg⟩:=Fo.get_lt hi
 unfold valF valX
 rw [fmts_get xs i x hg,toks_get xs i x hg]
 exact(LxE.all xs hw i x hg).1 s r ts hs hx
theorem fmtS_Lx (S:Sf) (hw:S.wf) : ∀ (n:Nat) (s r:Bt) (ts:List Xt),Lx s r ts->Lx (fmtS S n++s) r (tokS S++ts):=by
 induction S with
 | nil=>intro n s r ts hx;exact hx
 | cons k ln nm xs th el R ih1 ih2 ih3 =>
  intro n s r ts hx
  obtain⟨hok,_,hxs,ht,he,hr⟩:=hw
  have i1:=ih1 ht
  have i2:=ih2 he
  have i3:=Lx.c10 (ih3 hr n s r ts hx)
  have v0:0<xs.len -> ∀ {s r:Bt} {ts:List Xt},nb s->Lx s r ts->Lx (valF xs 0++s) r (valX xs 0++ts):=fun h=>fun hs hx=>valF_Lx xs hxs 0 h hs hx
  have v1:1<xs.len -> ∀ {s r:Bt} {ts:List Xt},nb s->Lx s r ts->Lx (valF xs 1++s) r (valX xs 1++ts):=fun h=>fun hs hx=>valF_Lx xs hxs 1 h hs hx
  have n32 : ∀ s:Bt,nb (32::s):=fun s=>nb_of (by decide)
  have n59 : ∀ s:Bt,nb (59::s):=fun s=>nb_of (by decide)
  have n91 : ∀ s:Bt,nb (91::s):=fun s=>nb_of (by decide)
  have n93 : ∀ s:Bt,nb (93::s):=fun s=>nb_of (by decide)
  have s59 : ∀ {s r:Bt} {ts:List Xt},Lx s r ts->Lx (59::s) r (sgX [59]::ts):=fun h=>Lx.sg (by simp) h
  have s91 : ∀ {s r:Bt} {ts:List Xt},Lx s r ts->Lx (91::s) r (sgX [91]::ts):=fun h=>Lx.sg (by simp) h
  have s93 : ∀ {s r:Bt} {ts:List Xt},Lx s r ts->Lx (93::s) r (sgX [93]::ts):=fun h=>Lx.sg (by simp) h
  have s123 : ∀ {s r:Bt} {ts:List Xt},Lx s r ts->Lx (123::s) r (sgX [123]::ts):=fun h=>Lx.sg (by simp) h
  have s125 : ∀ {s r:Bt} {ts:List Xt},Lx s r ts->Lx (125::s) r (sgX [125]::ts):=fun h=>Lx.sg (by simp) h
  have s61 : ∀ {s r:Bt} {ts:List Xt},Lx s r ts->Lx (61::32::s) r (sgX [61]::ts):=fun h=>Lx.sgB (t:=[61]) (by decide) h
  rw [fmtS_cons]
  unfold body1 tokS
  rcases hok with⟨hk,hn,hl,_⟩ | ⟨hk,hn,hl,_⟩ | ⟨hk,hn,hl⟩ | ⟨hk,hn,hl,_⟩ | ⟨hk,hn,hl,_⟩ | ⟨hk,hn,_,_,hh,har,hl,_⟩
  ·rcases hk with hk | hk
   ·simp [hk,List.append_assoc]
    exact Lx.tabs n (Lx.word (w:=[118,97,114]) (by decide) (n32 _) (Lx.c32 (Lx.name hn (n32 _) (Lx.c32 (s61 (v0 (by omega) (n59 _) (s59 i3)))))))
   ·simp [hk,List.append_assoc]
    exact Lx.tabs n (Lx.name hn (n32 _) (Lx.c32 (s61 (v0 (by omega) (n59 _) (s59 i3)))))
  ·simp [hk,List.append_assoc]
   exact Lx.tabs n (Lx.name hn (n91 _) (s91 (v0 (by omega) (n93 _) (s93 (Lx.c32 (s61 (v1 (by omega) (n59 _) (s59 i3))))))))
  ·by_cases hz:el.len=0
   ·simp [hk,hz,List.append_assoc]
    exact Lx.tabs n (Lx.word (w:=[105,102]) (by decide) (n32 _) (Lx.c32 (v0 (by omega) (n32 _) (Lx.c32 (s123 (Lx.c10 (i1 (n+1) _ _ _ (Lx.tabs n (s125 i3)))))))))
   ·simp [hk,hz,List.append_assoc]
    exact Lx.tabs n (Lx.word (w:=[105,102]) (by decide) (n32 _) (Lx.c32 (v0 (by omega) (n32 _) (Lx.c32 (s123 (Lx.c10 (i1 (n+1) _ _ _ (Lx.tabs n (s125 (Lx.c32 (Lx.word (w:=[101,108,115,101]) (by decide) (n32 _) (Lx.c32 (s123 (Lx.c10 (i2 (n+1) _ _ _ (Lx.tabs n (s125 i3)))))))))))))))))
  ·simp [hk,List.append_assoc]
   exact Lx.tabs n (Lx.word (w:=[119,104,105,108,101]) (by decide) (n32 _) (Lx.c32 (v0 (by omega) (n32 _) (Lx.c32 (s123 (Lx.c10 (i1 (n+1) _ _ _ (Lx.tabs n (s125 i3)))))))))
  ·rcases hk with hk | hk
   ·simp [hk,List.append_assoc]
    exact Lx.tabs n (Lx.word (w:=[114,101,116,117,114,110]) (by decide) (n32 _) (Lx.c32 (v0 (by omega) (n59 _) (s59 i3))))
   ·simp [hk,List.append_assoc]
    exact Lx.tabs n (Lx.word (w:=[112,114,105,110,116]) (by decide) (n32 _) (Lx.c32 (v0 (by omega) (n59 _) (s59 i3))))
  ·have hl1:0<xs.len:=by rw [hl];simp [Fo.len]
   simp [hk,List.append_assoc]
   exact Lx.tabs n (Lx.word (w:=[99,97,108,108]) (by decide) (n32 _) (Lx.c32 (v0 hl1 (n59 _) (s59 i3))))
def xtot:List (Hd×List Xt)->Nat
 | []=>0
 | a::r=>xlen a.2+xtot r
theorem opdX_len (h:Hd) (s:List Xt):xlen (opdX h s)<=xlen s+42:=by
 unfold opdX parX
 split
 ·simp [xlen,xlen_app];omega
 ·omega
theorem commX_len (os:List (Hd×List Xt)):xlen (commX (os.map (·.2)))<=xtot os+21 * (os.length - 1):=by
 induction os with
 | nil=>simp [commX,xlen]
 | cons a r ih =>
  cases r with
  | nil=>simp [commX,xtot]
  | cons b r =>
   show xlen (a.2++(sgX [44]::commX ((b::r).map (fun (x:Hd×List Xt)=>x.2))))<=xlen a.2+xtot (b::r)+21 * ((b::r).length+1 - 1)
   rw [xlen_app]
   simp only [List.length_cons,xlen,List.length_nil] at ih ⊢
   omega
theorem toks_len (F:Fo):(toks F).length=F.len:=by
 induction F with
 | nil=>rfl
 | cons h ar r _ ih=>simp [toks,Fo.len,ih]
theorem tok1_len (h:Hd) (ar:Fo) (hok:okH h ar) (os:List (Hd×List Xt)) (ho:os.length=ar.len) (hg : ∀ a r,h.k=10->os=a::r->a.1.k≠13/\a.1.k≠2/\a.1.k≠3):xlen (tok1 h os)<=own h ar.len+xtot os:=by
 unfold tok1 own
 by_cases k1:h.k=1
 ·rw [if_pos k1,if_pos k1]
  rcases hok with hok | hok | hok
  ·omega
  ·have:=dec_len19 (n:=h.v.toNat) (by omega)
   simp only [xlen];omega
  ·omega
 rw [if_neg k1,if_neg k1]
 have hnm:h.nm.length<=4:=by
  rcases hok with⟨_,_,hok⟩ | ⟨_,_,hok,_⟩ | ⟨_,hok,_⟩
  ·rcases hok with⟨_,hok,_⟩ | ⟨_,hok,_⟩ | ⟨_,hok,_⟩ | ⟨_,hok,_⟩ | ⟨_,hok,_⟩ | ⟨_,hok,_⟩ | ⟨_,hok,_⟩ <;> first | exact hok.len | (rw [hok];simp)
  ·rw [hok];simp
  ·rw [hok];simp
 have hsl:=sgn_len h.op
 by_cases k13:h.k=13
 ·rw [if_pos (.inl k13),if_pos k13];simp only [xlen];omega
 by_cases k2:h.k=13\/h.k=2\/h.k=3
 ·rw [if_pos k2,if_neg k13]
  rcases hok with⟨_,_,hok⟩ | ⟨_,k,_⟩ | ⟨_,_,hok⟩
  ·rcases hok with⟨k,_⟩ | ⟨k,_⟩ | ⟨k,_⟩ | ⟨k,_⟩ | ⟨k,_⟩ | ⟨k,_⟩ | ⟨k,_⟩ <;> omega
  ·omega
  ·rcases hok with⟨k,_⟩ | ⟨k,_⟩ <;> omega
 rw [if_neg k2,if_neg k13]
 by_cases k12:h.k=12
 ·rw [if_pos k12,if_pos k12];simp [xlen]
 rw [if_neg k12,if_neg k12]
 by_cases k11:h.k=11
 ·rw [if_pos k11,if_pos k11];simp [xlen];omega
 rw [if_neg k11,if_neg k11]
 have hlen3:(h.k=9->os.length<=2)/\(h.k=10->os.length<=3):=by
  rw [ho]
  rcases hok with⟨_,_,hok⟩ | ⟨_,_,_,_,_,hok⟩ | ⟨_,_,hok⟩
  ·rcases hok with⟨_,_,hok⟩ | ⟨_,_,hok⟩ | ⟨_,_,hok⟩ | ⟨_,_,hok⟩ | ⟨_,_,hok⟩ | ⟨_,_,hok⟩ | ⟨_,_,g,bs,r,hok,_,hr⟩ <;> first | (subst hok;simp [Fo.len];done) | (subst hok;simp only [Fo.len];omega) | omega
  ·subst hok;simp [Fo.len]
  ·omega
 split
 ·split
  ·simp [xtot,xlen,xlen_app];omega
  ·simp [xlen]
 split
 ·split
  ·rename_i a
   have:=opdX_len a.1 a.2
   simp [xtot,xlen];omega
  ·simp [xlen]
 split
 ·split
  ·rename_i a b
   have:=opdX_len a.1 a.2
   have:=opdX_len b.1 b.2
   simp [xtot,xlen,xlen_app];omega
  ·simp [xlen]
 split
 ·split
  ·rename_i a b
   have:=opdX_len a.1 a.2
   have:=opdX_len b.1 b.2
   simp [xtot,xlen,xlen_app];omega
  ·simp [xlen]
 split
 ·split
  ·rename_i a b
   have:=opdX_len a.1 a.2
   have:=opdX_len b.1 b.2
   simp [xtot,xlen,xlen_app];omega
  ·simp [xlen]
 split
 ·rename_i k9
  have:=commX_len os
  have:=hlen3.1 k9
  simp [listX,parX,xlen,xlen_app];omega
 split
 ·rename_i k10
  have h3:=hlen3.2 k10
  split
  ·rename_i a r
   have h1:=opdX_len a.1 a.2
   have h2:=commX_len r
   have h4:=hg a r k10 rfl
   simp only [List.length_cons] at h3
   rw [if_neg (by omega)]
   simp only [listX,parX,xlen,xlen_app,xtot,List.length_cons,List.length_nil]
   omega
  ·simp [xlen]
 ·simp [xlen]
theorem toks_cst (F:Fo) (hw:F.wf):xtot (toks F)<=F.cst:=by
 induction F with
 | nil=>exact Nat.le_refl _
 | cons h ar r ih1 ih2 =>
  have h1:=ih1 hw.2.2.1
  have h2:=ih2 hw.2.2.2
  have h3:=tok1_len h ar hw.1 (toks ar) (toks_len ar) (fun a r2 k e=>by
   have hok:=hw.1
   rcases hok with⟨_,_,hok⟩ | ⟨_,k',_⟩ | ⟨_,_,hok⟩
   ·rcases hok with⟨k',_⟩ | ⟨k',_⟩ | ⟨k',_⟩ | ⟨k',_⟩ | ⟨k',_⟩ | ⟨k',_⟩ | ⟨_,_,g,bs,r3,rfl,hg,_⟩ <;> try omega
    have e2:(g,tok1 g (toks bs))::toks r3=a::r2:=e
    injection e2 with e2 _
    subst e2
    have:=okH.not23 hw.2.2.1.1
    exact⟨hg,this⟩
   ·omega
   ·rcases hok with⟨k',_⟩ | ⟨k',_⟩ <;> omega)
  show xlen (tok1 h (toks ar))+xtot (toks r)<=own h ar.len+ar.cst+r.cst
  omega
theorem xtot_get (os:List (Hd×List Xt)) (i:Nat) (x:Hd×List Xt) (h:os[i]?=some x):xlen x.2<=xtot os:=by
 induction os generalizing i with
 | nil=>simp at h
 | cons a r ih =>
  cases i with
  | zero=>simp at h;subst h;simp [xtot]
  | succ i=>have:=ih i (by simpa using h);simp only [xtot];omega
theorem valX_len (xs:Fo) (hw:xs.wf) (i:Nat):xlen (valX xs i)<=xs.cst:=by
 unfold valX
 cases h:(toks xs)[i]? with
 | none=>simp [xlen]
 | some a=>exact Nat.le_trans (xtot_get _ _ _ h) (toks_cst xs hw)
theorem valX_len2 (xs:Fo) (hw:xs.wf):xlen (valX xs 0)+xlen (valX xs 1)<=xs.cst:=by
 have h0:=valX_len xs hw 0
 have h1:=valX_len xs hw 1
 have hc:=toks_cst xs hw
 unfold valX at h0 h1 ⊢
 cases e0:(toks xs)[0]? with
 | none=>rw [e0] at h0;cases e1:(toks xs)[1]? with
  | none=>simp [xlen]
  | some b=>rw [e1] at h1;simpa [xlen] using h1
 | some a=>rw [e0] at h0;cases e1:(toks xs)[1]? with
  | none=>simpa [xlen] using h0
  | some b =>
   have key:xlen a.2+xlen b.2<=xtot (toks xs):=by
    generalize toks xs=l at e0 e1
    cases l with
    | nil=>simp at e0
    | cons x r =>
     cases r with
     | nil=>simp at e1
     | cons y r =>
      simp at e0 e1
      subst e0 e1
      simp only [xtot];omega
   exact Nat.le_trans key hc
theorem tokS_len (S:Sf) (hw:S.wf):xlen (tokS S)<=S.cst:=by
 induction S with
 | nil=>simp [tokS,xlen]
 | cons k ln nm xs th el r ih1 ih2 ih3 =>
  obtain⟨hok,_,hx,ht,he,hr⟩:=hw
  have h1:=ih1 ht
  have h2:=ih2 he
  have h3:=ih3 hr
  have hv0:=valX_len xs hx 0
  have hv2:=valX_len2 xs hx
  have hnm:=hok.nm
  unfold tokS
  rw [xlen_app]
  simp only [Sf.cst]
  split
  ·simp only [xlen,xlen_app,List.length_cons,List.length_nil];omega
  split
  ·simp only [xlen,xlen_app,List.length_cons,List.length_nil];omega
  split
  ·simp only [xlen,xlen_app,List.length_cons,List.length_nil];omega
  split
  ·simp only [xlen,xlen_app,List.length_cons,List.length_nil];omega
  split
  ·simp only [xlen,xlen_app,List.length_cons,List.length_nil];omega
  split
  ·simp only [xlen,xlen_app,List.length_cons,List.length_nil];omega
  split
  ·simp only [xlen,xlen_app,List.length_cons,List.length_nil];omega
  split
  ·split
   ·simp only [xlen,xlen_app,List.length_cons,List.length_nil];omega
   ·simp only [xlen,xlen_app,List.length_cons,List.length_nil];omega
  ·simp only [xlen];omega
def tokF (F:Fn):List Xt:=wdX [102,117,110,99]::nmX F.nm::sgX [40]::(commX (F.ps.map fun p=>[nmX p])++(sgX [41]::sgX [123]::(tokS F.bd++[sgX [125]])))
def tokG (x:Bt×Int):List Xt:=wdX [103,108,111,98,97,108]::nmX x.1::((if 0<x.2 then [sgX [91],(2,x.2,Lib.decDigits x.2.toNat),sgX [93]] else [])++[sgX [59]])
def tokP (gs:List (Bt×Int)) (Fs:List Fn):List Xt:=gs.flatMap tokG++Fs.flatMap tokF
theorem ps_Lx (ps:List Bt) (h : ∀ p∈ps,okN p) : ∀ {s r:Bt} {ts:List Xt},nb s->Lx s r ts->Lx (comm ps++s) r (commX (ps.map fun p=>[nmX p])++ts):=by
 induction ps with
 | nil=>intro s r ts _ hx;exact hx
 | cons p ps ih =>
  intro s r ts hs hx
  have hp:=h p (by simp)
  have hq : ∀ q∈ps,okN q:=fun q hq=>h q (by simp [hq])
  cases ps with
  | nil=>exact Lx.name hp hs hx
  | cons q ps =>
   show Lx ((p++([44,32]++comm (q::ps)))++s) r (([nmX p]++(sgX [44]::commX ((q::ps).map fun p=>[nmX p])))++ts)
   simp only [List.append_assoc,List.cons_append,List.nil_append]
   exact Lx.name hp (nb_of (by decide)) (Lx.sg (by simp) (Lx.c32 (ih hq hs hx)))
theorem fmtF_Lx (F:Fn) (hn:okN F.nm) (hp : ∀ p∈F.ps,okN p) (hb:F.bd.wf) {s r:Bt} {ts:List Xt} (hx:Lx s r ts):Lx (fmtF F++s) r (tokF F++ts):=by
 unfold fmtF tokF
 simp only [List.append_assoc,List.cons_append,List.nil_append]
 exact Lx.word (w:=[102,117,110,99]) (by decide) (nb_of (by decide)) (Lx.c32 (Lx.name hn (nb_of (by decide)) (Lx.sg (by simp) (ps_Lx F.ps hp (nb_of (by decide)) (Lx.sg (by simp) (Lx.c32 (Lx.sg (by simp) (Lx.c10 (fmtS_Lx F.bd hb 1 _ _ _ (Lx.sg (by simp) (Lx.c10 hx)))))))))))
theorem fmtG_Lx (x:Bt×Int) (h:okN x.1/\0<=x.2/\x.2<=5) {s r:Bt} {ts:List Xt} (hx:Lx s r ts):Lx (fmtG x++s) r (tokG x++ts):=by
 obtain⟨nm,z⟩:=x
 obtain⟨hn,h0,h5⟩:=h
 obtain⟨n,rfl⟩:=Int.eq_ofNat_of_zero_le h0
 dsimp only at *
 unfold fmtG tokG
 by_cases hz:(0:Int)<(n:Int)
 ·simp only [if_pos hz,List.append_assoc,List.cons_append,List.nil_append,Int.toNat_natCast]
  exact Lx.word (w:=[103,108,111,98,97,108]) (by decide) (nb_of (by decide)) (Lx.c32 (Lx.name hn (nb_of (by decide)) (Lx.sg (by simp) (Lx.num (by omega) (nb_of (by decide)) (Lx.sg (by simp) (Lx.sg (by simp) (Lx.c10 hx)))))))
 ·simp only [if_neg hz,List.append_assoc,List.cons_append,List.nil_append]
  exact Lx.word (w:=[103,108,111,98,97,108]) (by decide) (nb_of (by decide)) (Lx.c32 (Lx.name hn (nb_of (by decide)) (Lx.sg (by simp) (Lx.c10 hx))))
theorem commX_ps (ps:List Bt) (h : ∀ p∈ps,p.length<=4) (hl:ps.length<=2):xlen (commX (ps.map fun p=>[nmX p]))<=69:=by
 match ps,h,hl with
 | [],_,_=>simp [commX,xlen]
 | [a],h,_=>have:=h a (by simp);simp [commX,xlen];omega
 | [a,b],h,_=>have:=h a (by simp);have:=h b (by simp);simp [commX,xlen];omega
 | _::_::_::_,_,hl=>simp at hl
theorem tokF_len (F:Fn) (hn:F.nm.length<=4) (hp : ∀ p∈F.ps,p.length<=4) (hl:F.ps.length<=2) (hb:F.bd.wf) (hc:F.bd.cst<=9100):xlen (tokF F)<=9301:=by
 have h1:=commX_ps F.ps hp hl
 have h2:=tokS_len F.bd hb
 unfold tokF
 simp only [xlen,xlen_app,List.length_cons,List.length_nil]
 omega
theorem tokG_len (x:Bt×Int) (h:okN x.1/\0<=x.2/\x.2<=5):xlen (tokG x)<=152:=by
 have h1:=h.1.len
 have h2:=dec_small x.2 h.2.1 h.2.2
 unfold tokG
 split
 ·simp only [xlen,xlen_app,List.length_cons,List.length_nil];omega
 ·simp only [xlen,xlen_app,List.length_cons,List.length_nil];omega
theorem flat_Lx {α:Type} (f:α->Bt) (g:α->List Xt) (l:List α) (h : ∀ a∈l,∀ {s r:Bt} {ts:List Xt},Lx s r ts->Lx (f a++s) r (g a++ts)) {s r:Bt} {ts:List Xt} (hx:Lx s r ts):Lx (l.flatMap f++s) r (l.flatMap g++ts):=by
 induction l with
 | nil=>exact hx
 | cons a l ih =>
  rw [List.flatMap_cons,List.flatMap_cons,List.append_assoc,List.append_assoc]
  exact h a (by simp) (ih (fun b hb=>h b (by simp [hb])))
theorem flat_xlen {α:Type} (g:α->List Xt) (c:Nat) (l:List α) (h : ∀ a∈l,xlen (g a)<=c):xlen (l.flatMap g)<=l.length * c:=by
 induction l with
 | nil=>simp [xlen]
 | cons a r ih =>
  rw [List.flatMap_cons,xlen_app,List.length_cons,Nat.add_mul]
  have:=h a (by simp)
  have:=ih (fun x hx=>h x (by simp [hx]))
  omega
theorem SrcIn.fn {w:World} {gs:List (Bt×Int)} {fs:List Fr} {Fs:List Fn} {aa ab:Option Addr} {ca cb:Nat} (h:SrcIn w gs fs Fs aa ca ab cb) : ∀ F∈Fs,okN F.nm/\(∀ p∈F.ps,okN p)/\F.bd.wf/\F.bd.cst<=9100/\F.ps.length<=2:=by
 intro F hF
 obtain⟨j,hj,e⟩:=List.mem_iff_getElem.1 hF
 obtain⟨f,hf,hFn⟩:=h.fns.get2 (j:=j) (F:=F) (by rw [List.getElem?_eq_getElem hj,e])
 have hk:=h.fok f (List.mem_of_getElem? hf)
 obtain⟨h1,h2,_,_,_,_,h7,_,h9,h10,_⟩:=hFn
 exact⟨h1▸hk.1,h7,h9,h10,by have:=hk.2;omega⟩
theorem SrcIn.scan {w:World} {gs:List (Bt×Int)} {fs:List Fr} {Fs:List Fn} {aa ab:Option Addr} {ca cb:Nat} (h:SrcIn w gs fs Fs aa ca ab cb) :
  ∃ ys ln,Go.Proofs.YtpcdinelpfbpfaaDoor.scan (fmtP gs Fs)=(some (ys++[⟨0,ln,0,[]⟩]),0)/\unl ys=tokP gs Fs/\(∀ x∈ys,TokOk x)/\tkLen 20 ys<=38000/\ys≠[]:=by
 have hx:Lx (fmtP gs Fs) [] (tokP gs Fs):=by
  have h1:Lx (Fs.flatMap fmtF++[]) [] (Fs.flatMap tokF++[]):=flat_Lx fmtF tokF Fs (fun F hF=>by
   obtain⟨k1,k2,k3,_⟩:=h.fn F hF
   intro s r ts hx
   exact fmtF_Lx F k1 k2 k3 hx) (Lx.refl [])
  rw [List.append_nil,List.append_nil] at h1
  exact flat_Lx fmtG tokG gs (fun x hx=>fun hs=>fmtG_Lx x (h.gok x hx) hs) h1
 obtain⟨ys,ln,e1,e2,e3⟩:=hx [] 1
 have hc:xlen (tokP gs Fs)<=38000:=by
  have h1:=flat_xlen tokG 152 gs (fun x hx=>tokG_len x (h.gok x hx))
  have h2:=flat_xlen tokF 9301 Fs (fun F hF=>by
   obtain⟨k1,k2,k3,k4,k5⟩:=h.fn F hF
   exact tokF_len F k1.len (fun p hp=>(k2 p hp).len) k5 k3 k4)
  have h3:=h.fns.len
  have h4:=h.gn
  have h5:=h.f4
  have h6:gs.length * 152<=4 * 152:=Nat.mul_le_mul_right _ h4
  have h7:Fs.length * 9301<=4 * 9301:=Nat.mul_le_mul_right _ (by omega)
  unfold tokP
  rw [xlen_app]
  omega
 refine⟨ys,ln,?_,e2,e3,by rw [<- xlen_unl,e2];exact hc,?_⟩
 ·rw [scan_F,e1,scF_nil]
  rfl
 ·intro e
  subst e
  have hF : ∃ F r,Fs=F::r:=by
   have h3:=h.fns.len
   have h5:=h.f1
   cases Fs with
   | nil=>rw [List.length_nil] at h3;omega
   | cons F r=>exact⟨F,r,rfl⟩
  obtain⟨F,r,rfl⟩:=hF
  have:tokP gs (F::r)=[]:=e2.symm
  unfold tokP at this
  rw [List.flatMap_cons] at this
  have h1:=(List.append_eq_nil_iff.1 this).2
  have h2:=(List.append_eq_nil_iff.1 h1).1
  unfold tokF at h2
  cases h2
end Go.Proofs.YtpcdinelpfbpfaaDoor
