/-
  WORDS, PLAIN LAWS and WALKS (Mfs), pressed. (Filled in from templates of this repo.)
-/
import Derived.Test.YtldgghnjminhiaaGreatDoorG3
namespace Go.Proofs.YtldgghnjminhiaaGreatDoor
open Go Go.ChangeAt Go.ChangeShapes Go.RowKit Go.WideShapes
set_option linter.unusedVariables false
set_option linter.unusedSimpArgs false
set_option maxRecDepth 100000
set_option maxHeartbeats 16000000
def tabs (n:Nat):Bt:=List.replicate n 9
def Jj (xs:Fo) (i:Nat):Bt:=match (Yl xs)[i]? with|some a=>a.2|none=>[]
def Qz:Sf->Nat->Bt
 | .nil,_=>[]
 | .cons k _ nm xs th el r,n =>
  tabs n++((
   if k=1 then [118,97,114,32]++(nm++([32,61,32]++(Jj xs 0++[59])))
   else if k=2 then nm++([32,61,32]++(Jj xs 0++[59]))
   else if k=3 then nm++([91]++(Jj xs 0++([93,32,61,32]++(Jj xs 1++[59]))))
   else if k=6 then [114,101,116,117,114,110,32]++(Jj xs 0++[59])
   else if k=7 then [112,114,105,110,116,32]++(Jj xs 0++[59])
   else if k=8 then [99,97,108,108,32]++(Jj xs 0++[59])
   else if k=5 then [119,104,105,108,101,32]++(Jj xs 0++([32,123,10]++(Qz th (n+1)++(tabs n++[125]))))
   else if k=4 then [105,102,32]++(Jj xs 0++([32,123,10]++(Qz th (n+1)++(tabs n++([125] ++
    (if el.len=0 then [] else [32,101,108,115,101,32,123,10]++(Qz el (n+1)++(tabs n++[125]))))))))
   else [])++([10]++Qz r n))
def Gm (F:Fn):Bt:=[102,117,110,99,32]++(F.nm++([40]++(comm F.ps++([41,32,123,10]++(Qz F.bd 1++[125,10])))))
def Jt (x:Bt×Int):Bt:=[103,108,111,98,97,108,32]++(x.1++((if 0<x.2 then [91]++(Lib.decDigits x.2.toNat++[93]) else [])++[59,10]))
def An (gs:List (Bt×Int)) (Fs:List Fn):Bt:=gs.flatMap Jt++Fs.flatMap Gm
def Ys (k:Int) (nm:Bt) (xs:Fo) (th el:Sf) (n:Nat):Bt :=
   if k=1 then [118,97,114,32]++(nm++([32,61,32]++(Jj xs 0++[59])))
   else if k=2 then nm++([32,61,32]++(Jj xs 0++[59]))
   else if k=3 then nm++([91]++(Jj xs 0++([93,32,61,32]++(Jj xs 1++[59]))))
   else if k=6 then [114,101,116,117,114,110,32]++(Jj xs 0++[59])
   else if k=7 then [112,114,105,110,116,32]++(Jj xs 0++[59])
   else if k=8 then [99,97,108,108,32]++(Jj xs 0++[59])
   else if k=5 then [119,104,105,108,101,32]++(Jj xs 0++([32,123,10]++(Qz th (n+1)++(tabs n++[125]))))
   else if k=4 then [105,102,32]++(Jj xs 0++([32,123,10]++(Qz th (n+1)++(tabs n++([125] ++
    (if el.len=0 then [] else [32,101,108,115,101,32,123,10]++(Qz el (n+1)++(tabs n++[125]))))))))
   else []
theorem Qd (k ln:Int) (nm:Bt) (xs:Fo) (th el r:Sf) (n:Nat):Qz (.cons k ln nm xs th el r) n=tabs n++(Ys k nm xs th el n++([10]++Qz r n)):=rfl
structure S1 where
 k:Int
 ln:Int
 nm:Bt
 xs:Fo
 th:Sf
 el:Sf
def Sf.get:Sf->Nat->Option S1
 | .nil,_=>none
 | .cons k ln nm xs th el _,0=>some ⟨k,ln,nm,xs,th,el⟩
 | .cons _ _ _ _ _ _ r,i+1=>r.get i
def Sf.pre:Sf->Nat->Sf
 | .nil,_=>.nil
 | .cons _ _ _ _ _ _ _,0=>.nil
 | .cons k ln nm xs th el r,i+1=>.cons k ln nm xs th el (r.pre i)
theorem Sf.get_lt {S:Sf} {i:Nat} (h:i<S.len):∃ x,S.get i=some x:=by
 induction S generalizing i with
 | nil=>simp[Sf.len] at h
 | cons k ln nm xs th el r _ _ ih =>
  cases i with
  | zero=>exact⟨_,rfl⟩
  | succ i=>exact ih (by simp only[Sf.len] at h;omega)
theorem Sf.pre_zero (S:Sf):S.pre 0=.nil:=by cases S<;>rfl
theorem Sf.pre_all (S:Sf):S.pre S.len=S:=by
 induction S with
 | nil=>rfl
 | cons k ln nm xs th el r _ _ ih=>show Sf.cons k ln nm xs th el (r.pre r.len)=_;rw[ih]
theorem Ih (S:Sf) (i:Nat) (x:S1) (h:S.get i=some x) (n:Nat):Qz (S.pre (i+1)) n=Qz (S.pre i) n++(tabs n++(Ys x.k x.nm x.xs x.th x.el n++[10])):=by
 induction S generalizing i with
 | nil=>cases h
 | cons k ln nm xs th el r _ _ ih =>
  cases i with
  | zero =>
   injection h with h
   subst h
   show Qz (.cons k ln nm xs th el (r.pre 0)) n=[]++_
   rw[Qd,Sf.pre_zero,List.nil_append]
   rfl
  | succ i =>
   show Qz (.cons k ln nm xs th el (r.pre (i+1))) n=Qz (.cons k ln nm xs th el (r.pre i)) n++_
   rw[Qd,Qd,ih i h]
   simp[List.append_assoc]
theorem Dn (S:Sf) (i n:Nat):(Qz (S.pre i) n).length<=(Qz S n).length:=by
 induction S generalizing i with
 | nil=>exact Nat.le_refl _
 | cons k ln nm xs th el r _ _ ih =>
  cases i with
  | zero=>simp[Sf.pre,Qz]
  | succ i =>
   show (Qz (.cons k ln nm xs th el (r.pre i)) n).length<=_
   rw[Qd,Qd]
   have:=ih i
   simp only[List.length_append]
   omega
theorem Xf.elemP {w:World} {P:Nat->Prop} {S:Sf} {a:Option Addr} {c:Nat} (h:Xf w P S (.slice a S.len c)) {j:Nat} {x:S1} (hj:S.get j=some x) :
  ∃ b off ax cx at_ ct ae ce,a=some ⟨b,off,none⟩/\b<w.heap.size/\Xq (Xk w P x.xs (.slice ax x.xs.len cx))/\Xq (Xf w P x.th (.slice at_ x.th.len ct))/\Xq (Xf w P x.el (.slice ae x.el.len ce)) /\
   w.cell? ⟨b,off+j*6,none⟩=some (.int .i64 x.k)/\w.cell? ⟨b,off+j*6+1,none⟩=some (.int .i64 x.ln)/\w.cell? ⟨b,off+j*6+2,none⟩=some (.string (st x.nm))/\w.cell? ⟨b,off+j*6+3,none⟩=some (.slice ax x.xs.len cx)/\w.cell? ⟨b,off+j*6+4,none⟩=some (.slice at_ x.th.len ct)/\w.cell? ⟨b,off+j*6+5,none⟩=some (.slice ae x.el.len ce):=by
 obtain⟨a',c',rws,e,h1,h2,h3,h4,h5⟩:=h
 injection e with e1 e2 e3
 subst e1
 clear e2 e3 h1 h2 h3
 have key:∀ (F:Sf) (cs:List Value) (j:Nat),Zp w P F cs->F.get j=some x->∃ ax cx at_ ct ae ce,Xk w P x.xs (.slice ax x.xs.len cx)/\Xf w P x.th (.slice at_ x.th.len ct)/\Xf w P x.el (.slice ae x.el.len ce) /\
   ∀ i u,(stc x.k x.ln x.nm (.slice ax x.xs.len cx) (.slice at_ x.th.len ct) (.slice ae x.el.len ce))[i]?=some u->cs[j*6+i]?=some u:=by
  intro F
  induction F with
  | nil=>intro cs j _ hg;cases hg
  | cons k ln nm xs th el r _ _ ih =>
   intro cs j hF hg
   obtain⟨slx,at_,ct,rt,ae,ce,re,cs',rfl,k1,k2,k3,k4,k5,k6,k7,k8,k9,k10,k11,k12⟩:=hF
   cases j with
   | zero =>
    injection hg with hg
    subst hg
    obtain⟨ax,cx,rx,rfl,r1⟩:=id k1
    refine⟨ax,cx,at_,ct,ae,ce,k1,⟨at_,ct,rt,rfl,k2,k3,k4,k5,k6⟩,⟨ae,ce,re,rfl,k7,k8,k9,k10,k11⟩,λ i u hi=>?_⟩
    have:i<6:=(List.getElem?_eq_some_iff.1 hi).1
    rw[Nat.zero_mul,Nat.zero_add,List.getElem?_append_left (by simpa using this)]
    exact hi
   | succ j =>
    obtain⟨ax,cx,at2,ct2,ae2,ce2,q1,q2,q3,q4⟩:=ih cs' j k12 hg
    refine⟨ax,cx,at2,ct2,ae2,ce2,q1,q2,q3,λ i u hi=>?_⟩
    rw[List.getElem?_append_right (by show 6<=_;omega)]
    have e:(j+1)*6+i-6=j*6+i:=by omega
    show cs'[(j+1)*6+i-6]?=_
    rw[e]
    exact q4 i u hi
 obtain⟨ax,cx,at_,ct,ae,ce,q1,q2,q3,q4⟩:=key S rws j h5 hj
 obtain⟨b,off,rfl,_,hb,hjl⟩:=h4 (λ e=>by have:=q4 0 _ rfl;rw[e] at this;cases this)
 have hk:∀ i u,(stc x.k x.ln x.nm (.slice ax x.xs.len cx) (.slice at_ x.th.len ct) (.slice ae x.el.len ce))[i]?=some u->w.cell? ⟨b,off+(j*6+i),none⟩=some u:=λ i u hi=>hjl _ _ (q4 i u hi)
 exact⟨b,off,ax,cx,at_,ct,ae,ce,rfl,hb,Xj q1,Xj q2,Xj q3,hk 0 _ rfl,by rw[Nat.add_assoc];exact hk 1 _ rfl,by rw[Nat.add_assoc];exact hk 2 _ rfl,by rw[Nat.add_assoc];exact hk 3 _ rfl,by rw[Nat.add_assoc];exact hk 4 _ rfl,by rw[Nat.add_assoc];exact hk 5 _ rfl⟩
end Go.Proofs.YtldgghnjminhiaaGreatDoor
