/-
  WORDS, PLAIN LAWS and WALKS (PsP PsT PsW PsX), pressed. (Filled in from templates of this repo.)
-/
import Derived.Test.YtldgghnjminhiaaGreatDoorG2
import Derived.Deep.CutBlock
import Derived.Deep.CutRange
namespace Go.Proofs.YtldgghnjminhiaaGreatDoor
open Go Go.ChangeAt Go.ChangeShapes Go.RowKit Go.WideShapes
set_option linter.unusedVariables false
set_option linter.unusedSimpArgs false
set_option maxRecDepth 100000
set_option maxHeartbeats 16000000
section
def isT (t:Bt):List Tk->Bool
 | x::_=>(x.k==3||x.k==4)&&x.t==t
 | []=>false
def Qf (t:Bt):Int :=
 if t=[60] then 8 else if t=[60,61] then 9 else if t=[61,61] then 10 else if t=[33,61] then 11 else if t=[43] then 3 else if t=[45] then 4
 else if t=[42] then 5 else if t=[47] then 6 else if t=[37] then 7 else 0
def Zr (lo hi:Int):List Tk->Int
 | x::_=>if x.k=4/\lo<=Qf x.t/\Qf x.t<=hi then Qf x.t else 0
 | []=>0
def Yc:List Tk->Int
 | x::_=>x.n
 | []=>0
def kOf:List Tk->Int
 | x::_=>x.k
 | []=>0
def tOf:List Tk->Bt
 | x::_=>x.t
 | []=>[]
def vOf:List Tk->Int
 | x::_=>x.v
 | []=>0
inductive PR where
 | ok (F:Fo) (r:List Tk)
 | bad (r:List Tk)
inductive Lv where
 | ex
 | exL (x:Fo)
 | an
 | anL (x:Fo)
 | cm
 | su
 | suL (x:Fo)
 | te
 | teL (x:Fo)
 | un
 | ca
 | caL (plain:Bool) (x:Fo)
 | ag (first:Bool) (F:Fo)
 | pr
def Dw:Fo->Hd
 | .cons h _ _=>h
 | .nil=>⟨0,0,0,0,[]⟩
abbrev nd (k op v ln:Int) (nm:Bt) (ar:Fo):Fo:=.cons ⟨k,op,v,ln,nm⟩ ar .nil
def bnP (o:Option PR) (k:Fo->List Tk->Option PR):Option PR:=match o with
 | none=>none
 | some (.bad r)=>some (.bad r)
 | some (.ok F r)=>k F r
def Uf (f:Lv->List Tk->Option PR) (lv:Lv) (ts:List Tk):Option PR:=match lv with
 | .ex=>bnP (f .an ts) λ x r=>f (.exL x) r
 | .exL x=>if isT [124,124] ts=true then bnP (f .an ts.tail) λ y r=>f (.exL (nd 8 0 0 (Yc ts) [] (x.app y))) r else some (.ok x ts)
 | .an=>bnP (f .cm ts) λ x r=>f (.anL x) r
 | .anL x=>if isT [38,38] ts=true then bnP (f .cm ts.tail) λ y r=>f (.anL (nd 7 0 0 (Yc ts) [] (x.app y))) r else some (.ok x ts)
 | .cm=>bnP (f .su ts) λ x r=>if Zr 8 11 r=0 then some (.ok x r) else bnP (f .su r.tail) λ y r2=>some (.ok (nd 6 (Zr 8 11 r) 0 (Yc r) [] (x.app y)) r2)
 | .su=>bnP (f .te ts) λ x r=>f (.suL x) r
 | .suL x=>if Zr 3 4 ts=0 then some (.ok x ts) else bnP (f .te ts.tail) λ y r=>f (.suL (nd 6 (Zr 3 4 ts) 0 (Yc ts) [] (x.app y))) r
 | .te=>bnP (f .un ts) λ x r=>f (.teL x) r
 | .teL x=>if Zr 5 7 ts=0 then some (.ok x ts) else bnP (f .un ts.tail) λ y r=>f (.teL (nd 6 (Zr 5 7 ts) 0 (Yc ts) [] (x.app y))) r
 | .un=>if isT [45] ts=true then bnP (f .un ts.tail) λ x r=>some (.ok (nd 5 1 0 (Yc ts) [] x) r)
   else if isT [33] ts=true then bnP (f .un ts.tail) λ x r=>some (.ok (nd 5 2 0 (Yc ts) [] x) r)
   else f .ca ts
 | .ca=>bnP (f .pr ts) λ x r=>f (.caL (kOf ts==1&&(Dw x).k==13) x) r
 | .caL plain x=>if isT [40] ts=true then bnP (f (.ag true .nil) ts.tail) λ F r=>f (.caL false (if plain=true then nd 9 0 0 (Yc ts) (Dw x).nm F else nd 10 0 0 (Yc ts) [] (x.app F))) r else some (.ok x ts)
 | .ag first F=>if isT [41] ts=true then some (.ok F ts.tail)
   else if first=true then bnP (f .ex ts) λ x r=>f (.ag false (F.app x)) r
   else if isT [44] ts=true then bnP (f .ex ts.tail) λ x r=>f (.ag false (F.app x)) r
   else some (.bad ts)
 | .pr=>if kOf ts=2 then some (.ok (nd 1 0 (vOf ts) (Yc ts) [] .nil) ts.tail)
   else if kOf ts=1 then
    (if isT [91] ts.tail=true then bnP (f .ex ts.tail.tail) λ x r=>if isT [93] r=true then some (.ok (nd 4 0 0 (Yc ts) (tOf ts) x) r.tail) else some (.bad r)
    else some (.ok (nd 13 0 0 (Yc ts) (tOf ts) .nil) ts.tail))
   else if isT [38] ts=true then (if kOf ts.tail=1 then some (.ok (nd 11 0 0 (Yc ts) (tOf ts.tail) .nil) ts.tail.tail) else some (.bad ts.tail))
   else if isT [114,101,97,100] ts=true then some (.ok (nd 12 0 0 (Yc ts) [] .nil) ts.tail)
   else if isT [40] ts=true then bnP (f .ex ts.tail) λ x r=>if isT [41] r=true then some (.ok x r.tail) else some (.bad r)
   else some (.bad ts)
def Pn:Nat->Lv->List Tk->Option PR
 | 0=>λ _ _=>none
 | n+1=>Uf (Pn n)
theorem Cs {o o':Option PR} {k k':Fo->List Tk->Option PR} {y:PR} (h:bnP o k=some y) (ho:∀ x,o=some x->o'=some x) (hk:∀ F r,k F r=some y->k' F r=some y):bnP o' k'=some y:=by
 unfold bnP at h ⊢
 cases o with
 | none=>cases h
 | some x =>
  rw[ho x rfl]
  cases x with
  | ok F r=>exact hk F r h
  | bad r=>exact h
theorem Pq {f g:Lv->List Tk->Option PR} (hfg:∀ lv ts y,f lv ts=some y->g lv ts=some y) (lv:Lv) (ts:List Tk) (y:PR) (h:Uf f lv ts=some y):Uf g lv ts=some y:=by
 have hb:∀ {lv2 ts2} {k k':Fo->List Tk->Option PR} {y:PR},bnP (f lv2 ts2) k=some y->(∀ F r,k F r=some y->k' F r=some y)->bnP (g lv2 ts2) k'=some y:=λ h hk=>Cs h (λ x=>hfg _ _ x) hk
 cases lv with
 | ex=>exact hb h λ _ _=>hfg _ _ _
 | exL x =>
  unfold Uf at h ⊢
  dsimp only at h ⊢
  split
  ·rename_i hc;rw[if_pos hc] at h;exact hb h λ _ _=>hfg _ _ _
  rename_i hc;rw[if_neg hc] at h;exact h
 | an=>exact hb h λ _ _=>hfg _ _ _
 | anL x =>
  unfold Uf at h ⊢
  dsimp only at h ⊢
  split
  ·rename_i hc;rw[if_pos hc] at h;exact hb h λ _ _=>hfg _ _ _
  rename_i hc;rw[if_neg hc] at h;exact h
 | cm =>
  refine hb h λ F r h=>?_
  split
  ·rename_i hc;rw[if_pos hc] at h;exact h
  rename_i hc;rw[if_neg hc] at h;exact hb h λ _ _ h=>h
 | su=>exact hb h λ _ _=>hfg _ _ _
 | suL x =>
  unfold Uf at h ⊢
  dsimp only at h ⊢
  split
  ·rename_i hc;rw[if_pos hc] at h;exact h
  rename_i hc;rw[if_neg hc] at h;exact hb h λ _ _=>hfg _ _ _
 | te=>exact hb h λ _ _=>hfg _ _ _
 | teL x =>
  unfold Uf at h ⊢
  dsimp only at h ⊢
  split
  ·rename_i hc;rw[if_pos hc] at h;exact h
  rename_i hc;rw[if_neg hc] at h;exact hb h λ _ _=>hfg _ _ _
 | un =>
  unfold Uf at h ⊢
  dsimp only at h ⊢
  split
  ·rename_i hc;rw[if_pos hc] at h;exact hb h λ _ _ h=>h
  rename_i hc
  rw[if_neg hc] at h
  split
  ·rename_i hc2;rw[if_pos hc2] at h;exact hb h λ _ _ h=>h
  rename_i hc2;rw[if_neg hc2] at h;exact hfg _ _ _ h
 | ca=>exact hb h λ _ _=>hfg _ _ _
 | caL p x =>
  unfold Uf at h ⊢
  dsimp only at h ⊢
  split
  ·rename_i hc;rw[if_pos hc] at h;exact hb h λ _ _=>hfg _ _ _
  rename_i hc;rw[if_neg hc] at h;exact h
 | ag b F =>
  unfold Uf at h ⊢
  dsimp only at h ⊢
  split
  ·rename_i hc;rw[if_pos hc] at h;exact h
  rename_i hc
  rw[if_neg hc] at h
  split
  ·rename_i hc2;rw[if_pos hc2] at h;exact hb h λ _ _=>hfg _ _ _
  rename_i hc2
  rw[if_neg hc2] at h
  split
  ·rename_i hc3;rw[if_pos hc3] at h;exact hb h λ _ _=>hfg _ _ _
  rename_i hc3;rw[if_neg hc3] at h;exact h
 | pr =>
  unfold Uf at h ⊢
  dsimp only at h ⊢
  split
  ·rename_i hc;rw[if_pos hc] at h;exact h
  rename_i c1
  rw[if_neg c1] at h
  split
  ·rename_i c2
   rw[if_pos c2] at h
   split
   ·rename_i c3;rw[if_pos c3] at h;exact hb h λ _ _ h=>h
   rename_i c3;rw[if_neg c3] at h;exact h
  rename_i c2
  rw[if_neg c2] at h
  split
  ·rename_i c3;rw[if_pos c3] at h;exact h
  rename_i c3
  rw[if_neg c3] at h
  split
  ·rename_i c4;rw[if_pos c4] at h;exact h
  rename_i c4
  rw[if_neg c4] at h
  split
  ·rename_i c5;rw[if_pos c5] at h;exact hb h λ _ _ h=>h
  rename_i c5;rw[if_neg c5] at h;exact h
theorem Sw (n:Nat):∀ lv ts y,Pn n lv ts=some y->Pn (n+1) lv ts=some y:=by
 induction n with
 | zero=>intro lv ts y h;cases h
 | succ n ih=>intro lv ts y h;exact Pq ih lv ts y h
theorem Mp {n m:Nat} (h:n<=m) {lv:Lv} {ts:List Tk} {y:PR} (hn:Pn n lv ts=some y):Pn m lv ts=some y:=by
 induction h with
 | refl=>exact hn
 | step _ ih=>exact Sw _ _ _ _ ih
def Ps (lv:Lv) (ts:List Tk) (y:PR):Prop:=∃ n,Pn n lv ts=some y
theorem Ps.det {lv:Lv} {ts:List Tk} {y z:PR} (h:Ps lv ts y) (k:Ps lv ts z):y=z:=by
 obtain⟨n,hn⟩:=h
 obtain⟨m,hm⟩:=k
 have h1:=Mp (Nat.le_max_left n m) hn
 have h2:=Mp (Nat.le_max_right n m) hm
 rw[h1] at h2
 injection h2
theorem Ps.mk0 {lv:Lv} {ts:List Tk} {y:PR} (h:∀ f,Uf f lv ts=some y):Ps lv ts y:=⟨1,h _⟩
theorem Ps.mk1 {lv l1:Lv} {ts t1:List Tk} {y y1:PR} (h1:Ps l1 t1 y1) (h:∀ f,f l1 t1=some y1->Uf f lv ts=some y):Ps lv ts y:=by
 obtain⟨n,hn⟩:=h1
 exact⟨n+1,h _ hn⟩
theorem Ps.mk2 {lv l1 l2:Lv} {ts t1 t2:List Tk} {y y1 y2:PR} (h1:Ps l1 t1 y1) (h2:Ps l2 t2 y2) (h:∀ f,f l1 t1=some y1->f l2 t2=some y2->Uf f lv ts=some y):Ps lv ts y:=by
 obtain⟨n,hn⟩:=h1
 obtain⟨m,hm⟩:=h2
 exact⟨max n m+1,h _ (Mp (Nat.le_max_left n m) hn) (Mp (Nat.le_max_right n m) hm)⟩
section
variable {ts r:List Tk} {x y:Fo} {z:PR}
theorem Ps.ex_ok (h:Ps .an ts (.ok x r)) (k:Ps (.exL x) r z):Ps .ex ts z:=.mk2 h k λ f e1 e2=>by show bnP _ _=_;rw[e1];exact e2
theorem Ps.ex_bad (h:Ps .an ts (.bad r)):Ps .ex ts (.bad r):=.mk1 h λ f e1=>by show bnP _ _=_;rw[e1];rfl
theorem Ps.exL_end (h:isT [124,124] ts=false):Ps (.exL x) ts (.ok x ts):=.mk0 λ f=>by show (if _ then _ else _)=_;rw[if_neg (by rw[h];simp)]
theorem Ps.exL_ok (h:isT [124,124] ts=true) (h1:Ps .an ts.tail (.ok y r)) (h2:Ps (.exL (nd 8 0 0 (Yc ts) [] (x.app y))) r z):Ps (.exL x) ts z:=.mk2 h1 h2 λ f e1 e2=>by show (if _ then _ else _)=_;rw[if_pos h,e1];exact e2
theorem Ps.exL_bad (h:isT [124,124] ts=true) (h1:Ps .an ts.tail (.bad r)):Ps (.exL x) ts (.bad r):=.mk1 h1 λ f e1=>by show (if _ then _ else _)=_;rw[if_pos h,e1];rfl
theorem Ps.an_ok (h:Ps .cm ts (.ok x r)) (k:Ps (.anL x) r z):Ps .an ts z:=.mk2 h k λ f e1 e2=>by show bnP _ _=_;rw[e1];exact e2
theorem Ps.an_bad (h:Ps .cm ts (.bad r)):Ps .an ts (.bad r):=.mk1 h λ f e1=>by show bnP _ _=_;rw[e1];rfl
theorem Ps.anL_end (h:isT [38,38] ts=false):Ps (.anL x) ts (.ok x ts):=.mk0 λ f=>by show (if _ then _ else _)=_;rw[if_neg (by rw[h];simp)]
theorem Ps.anL_ok (h:isT [38,38] ts=true) (h1:Ps .cm ts.tail (.ok y r)) (h2:Ps (.anL (nd 7 0 0 (Yc ts) [] (x.app y))) r z):Ps (.anL x) ts z:=.mk2 h1 h2 λ f e1 e2=>by show (if _ then _ else _)=_;rw[if_pos h,e1];exact e2
theorem Ps.anL_bad (h:isT [38,38] ts=true) (h1:Ps .cm ts.tail (.bad r)):Ps (.anL x) ts (.bad r):=.mk1 h1 λ f e1=>by show (if _ then _ else _)=_;rw[if_pos h,e1];rfl
theorem Ps.cm_end (h:Ps .su ts (.ok x r)) (h0:Zr 8 11 r=0):Ps .cm ts (.ok x r):=.mk1 h λ f e1=>by show bnP _ _=_;rw[e1];show (if _ then _ else _)=_;rw[if_pos h0]
theorem Ps.cm_bad (h:Ps .su ts (.bad r)):Ps .cm ts (.bad r):=.mk1 h λ f e1=>by show bnP _ _=_;rw[e1];rfl
theorem Ps.cm_two {r2:List Tk} (h:Ps .su ts (.ok x r)) (h0:Zr 8 11 r≠0) (k:Ps .su r.tail (.ok y r2)):Ps .cm ts (.ok (nd 6 (Zr 8 11 r) 0 (Yc r) [] (x.app y)) r2):=.mk2 h k λ f e1 e2=>by show bnP _ _=_;rw[e1];show (if _ then _ else _)=_;rw[if_neg h0,e2];rfl
theorem Ps.cm_two_bad {r2:List Tk} (h:Ps .su ts (.ok x r)) (h0:Zr 8 11 r≠0) (k:Ps .su r.tail (.bad r2)):Ps .cm ts (.bad r2):=.mk2 h k λ f e1 e2=>by show bnP _ _=_;rw[e1];show (if _ then _ else _)=_;rw[if_neg h0,e2];rfl
theorem Ps.su_ok (h:Ps .te ts (.ok x r)) (k:Ps (.suL x) r z):Ps .su ts z:=.mk2 h k λ f e1 e2=>by show bnP _ _=_;rw[e1];exact e2
theorem Ps.su_bad (h:Ps .te ts (.bad r)):Ps .su ts (.bad r):=.mk1 h λ f e1=>by show bnP _ _=_;rw[e1];rfl
theorem Ps.suL_end (h:Zr 3 4 ts=0):Ps (.suL x) ts (.ok x ts):=.mk0 λ f=>by show (if _ then _ else _)=_;rw[if_pos h]
theorem Ps.suL_ok (h:Zr 3 4 ts≠0) (h1:Ps .te ts.tail (.ok y r)) (h2:Ps (.suL (nd 6 (Zr 3 4 ts) 0 (Yc ts) [] (x.app y))) r z):Ps (.suL x) ts z:=.mk2 h1 h2 λ f e1 e2=>by show (if _ then _ else _)=_;rw[if_neg h,e1];exact e2
theorem Ps.suL_bad (h:Zr 3 4 ts≠0) (h1:Ps .te ts.tail (.bad r)):Ps (.suL x) ts (.bad r):=.mk1 h1 λ f e1=>by show (if _ then _ else _)=_;rw[if_neg h,e1];rfl
theorem Ps.te_ok (h:Ps .un ts (.ok x r)) (k:Ps (.teL x) r z):Ps .te ts z:=.mk2 h k λ f e1 e2=>by show bnP _ _=_;rw[e1];exact e2
theorem Ps.te_bad (h:Ps .un ts (.bad r)):Ps .te ts (.bad r):=.mk1 h λ f e1=>by show bnP _ _=_;rw[e1];rfl
theorem Ps.teL_end (h:Zr 5 7 ts=0):Ps (.teL x) ts (.ok x ts):=.mk0 λ f=>by show (if _ then _ else _)=_;rw[if_pos h]
theorem Ps.teL_ok (h:Zr 5 7 ts≠0) (h1:Ps .un ts.tail (.ok y r)) (h2:Ps (.teL (nd 6 (Zr 5 7 ts) 0 (Yc ts) [] (x.app y))) r z):Ps (.teL x) ts z:=.mk2 h1 h2 λ f e1 e2=>by show (if _ then _ else _)=_;rw[if_neg h,e1];exact e2
theorem Ps.teL_bad (h:Zr 5 7 ts≠0) (h1:Ps .un ts.tail (.bad r)):Ps (.teL x) ts (.bad r):=.mk1 h1 λ f e1=>by show (if _ then _ else _)=_;rw[if_neg h,e1];rfl
theorem Ps.un_neg (h:isT [45] ts=true) (h1:Ps .un ts.tail (.ok x r)):Ps .un ts (.ok (nd 5 1 0 (Yc ts) [] x) r):=.mk1 h1 λ f e1=>by show (if _ then _ else _)=_;rw[if_pos h,e1];rfl
theorem Ps.un_neg_bad (h:isT [45] ts=true) (h1:Ps .un ts.tail (.bad r)):Ps .un ts (.bad r):=.mk1 h1 λ f e1=>by show (if _ then _ else _)=_;rw[if_pos h,e1];rfl
theorem Ps.un_not (h0:isT [45] ts=false) (h:isT [33] ts=true) (h1:Ps .un ts.tail (.ok x r)):Ps .un ts (.ok (nd 5 2 0 (Yc ts) [] x) r):=.mk1 h1 λ f e1=>by show (if _ then _ else _)=_;rw[if_neg (by rw[h0];simp),if_pos h,e1];rfl
theorem Ps.un_not_bad (h0:isT [45] ts=false) (h:isT [33] ts=true) (h1:Ps .un ts.tail (.bad r)):Ps .un ts (.bad r):=.mk1 h1 λ f e1=>by show (if _ then _ else _)=_;rw[if_neg (by rw[h0];simp),if_pos h,e1];rfl
theorem Ps.un_ca (h0:isT [45] ts=false) (h:isT [33] ts=false) (h1:Ps .ca ts z):Ps .un ts z:=.mk1 h1 λ f e1=>by show (if _ then _ else _)=_;rw[if_neg (by rw[h0];simp),if_neg (by rw[h];simp)];exact e1
theorem Ps.ca_ok {p:Bool} (h:Ps .pr ts (.ok x r)) (hp:p=(kOf ts==1&&(Dw x).k==13)) (k:Ps (.caL p x) r z):Ps .ca ts z:=.mk2 h k λ f e1 e2=>by show bnP _ _=_;rw[e1];rw[hp] at e2;exact e2
theorem Ps.ca_bad (h:Ps .pr ts (.bad r)):Ps .ca ts (.bad r):=.mk1 h λ f e1=>by show bnP _ _=_;rw[e1];rfl
theorem Ps.caL_end {p:Bool} (h:isT [40] ts=false):Ps (.caL p x) ts (.ok x ts):=.mk0 λ f=>by show (if _ then _ else _)=_;rw[if_neg (by rw[h];simp)]
theorem Ps.caL_call (h:isT [40] ts=true) (h1:Ps (.ag true .nil) ts.tail (.ok y r)) (h2:Ps (.caL false (nd 9 0 0 (Yc ts) (Dw x).nm y)) r z):Ps (.caL true x) ts z:=.mk2 h1 h2 λ f e1 e2=>by show (if _ then _ else _)=_;rw[if_pos h,e1];exact e2
theorem Ps.caL_value (h:isT [40] ts=true) (h1:Ps (.ag true .nil) ts.tail (.ok y r)) (h2:Ps (.caL false (nd 10 0 0 (Yc ts) [] (x.app y))) r z):Ps (.caL false x) ts z:=.mk2 h1 h2 λ f e1 e2=>by show (if _ then _ else _)=_;rw[if_pos h,e1];exact e2
theorem Ps.caL_bad {p:Bool} (h:isT [40] ts=true) (h1:Ps (.ag true .nil) ts.tail (.bad r)):Ps (.caL p x) ts (.bad r):=.mk1 h1 λ f e1=>by show (if _ then _ else _)=_;rw[if_pos h,e1];rfl
theorem Ps.ag_end {b:Bool} {F:Fo} (h:isT [41] ts=true):Ps (.ag b F) ts (.ok F ts.tail):=.mk0 λ f=>by show (if _ then _ else _)=_;rw[if_pos h]
theorem Ps.ag_first {F:Fo} (h:isT [41] ts=false) (h1:Ps .ex ts (.ok x r)) (h2:Ps (.ag false (F.app x)) r z):Ps (.ag true F) ts z:=.mk2 h1 h2 λ f e1 e2=>by show (if _ then _ else _)=_;rw[if_neg (by rw[h];simp),if_pos rfl,e1];exact e2
theorem Ps.ag_first_bad {F:Fo} (h:isT [41] ts=false) (h1:Ps .ex ts (.bad r)):Ps (.ag true F) ts (.bad r):=.mk1 h1 λ f e1=>by show (if _ then _ else _)=_;rw[if_neg (by rw[h];simp),if_pos rfl,e1];rfl
theorem Ps.ag_next {F:Fo} (h:isT [41] ts=false) (hc:isT [44] ts=true) (h1:Ps .ex ts.tail (.ok x r)) (h2:Ps (.ag false (F.app x)) r z):Ps (.ag false F) ts z:=.mk2 h1 h2 λ f e1 e2=>by show (if _ then _ else _)=_;rw[if_neg (by rw[h];simp),if_neg (by simp),if_pos hc,e1];exact e2
theorem Ps.ag_next_bad {F:Fo} (h:isT [41] ts=false) (hc:isT [44] ts=true) (h1:Ps .ex ts.tail (.bad r)):Ps (.ag false F) ts (.bad r):=.mk1 h1 λ f e1=>by show (if _ then _ else _)=_;rw[if_neg (by rw[h];simp),if_neg (by simp),if_pos hc,e1];rfl
theorem Ps.ag_bad {F:Fo} (h:isT [41] ts=false) (hc:isT [44] ts=false):Ps (.ag false F) ts (.bad ts):=.mk0 λ f=>by show (if _ then _ else _)=_;rw[if_neg (by rw[h];simp),if_neg (by simp),if_neg (by rw[hc];simp)]
theorem Ps.pr_num (h:kOf ts=2):Ps .pr ts (.ok (nd 1 0 (vOf ts) (Yc ts) [] .nil) ts.tail):=.mk0 λ f=>by show (if _ then _ else _)=_;rw[if_pos h]
theorem Ps.pr_name (h:kOf ts=1) (hb:isT [91] ts.tail=false):Ps .pr ts (.ok (nd 13 0 0 (Yc ts) (tOf ts) .nil) ts.tail):=.mk0 λ f=>by show (if _ then _ else _)=_;rw[if_neg (by omega),if_pos h,if_neg (by rw[hb];simp)]
theorem Ps.pr_el (h:kOf ts=1) (hb:isT [91] ts.tail=true) (h1:Ps .ex ts.tail.tail (.ok x r)) (hc:isT [93] r=true):Ps .pr ts (.ok (nd 4 0 0 (Yc ts) (tOf ts) x) r.tail):=.mk1 h1 λ f e1=>by show (if _ then _ else _)=_;rw[if_neg (by omega),if_pos h,if_pos hb,e1];show (if _ then _ else _)=_;rw[if_pos hc]
theorem Ps.pr_el_bad (h:kOf ts=1) (hb:isT [91] ts.tail=true) (h1:Ps .ex ts.tail.tail (.bad r)):Ps .pr ts (.bad r):=.mk1 h1 λ f e1=>by show (if _ then _ else _)=_;rw[if_neg (by omega),if_pos h,if_pos hb,e1];rfl
theorem Ps.pr_el_bad2 (h:kOf ts=1) (hb:isT [91] ts.tail=true) (h1:Ps .ex ts.tail.tail (.ok x r)) (hc:isT [93] r=false):Ps .pr ts (.bad r):=.mk1 h1 λ f e1=>by show (if _ then _ else _)=_;rw[if_neg (by omega),if_pos h,if_pos hb,e1];show (if _ then _ else _)=_;rw[if_neg (by rw[hc];simp)]
theorem Zt {t:Bt} (h:isT t ts=true):kOf ts≠1/\kOf ts≠2/\kOf ts≠0/\tOf ts=t:=by
 cases ts with
 | nil=>cases h
 | cons x r =>
  simp only[isT,Bool.and_eq_true,Bool.or_eq_true,beq_iff_eq] at h
  exact⟨by show x.k≠1;omega,by show x.k≠2;omega,by show x.k≠0;omega,h.2⟩
theorem Kl {t u:Bt} (h:isT t ts=true) (hne:t≠u):isT u ts=false:=by
 cases ts with
 | nil=>cases h
 | cons x r =>
  simp only[isT,Bool.and_eq_true,beq_iff_eq] at h
  cases hh:isT u (x::r) with
  | false=>rfl
  | true =>
   simp only[isT,Bool.and_eq_true,beq_iff_eq] at hh
   exact absurd (h.2.symm.trans hh.2) hne
theorem Ps.pr_func (h:isT [38] ts=true) (hb:kOf ts.tail=1):Ps .pr ts (.ok (nd 11 0 0 (Yc ts) (tOf ts.tail) .nil) ts.tail.tail):=.mk0 λ f=>by
 obtain⟨h1,h2,_⟩:=Zt h
 show (if _ then _ else _)=_;rw[if_neg h2,if_neg h1,if_pos h,if_pos hb]
theorem Ps.pr_func_bad (h:isT [38] ts=true) (hb:kOf ts.tail≠1):Ps .pr ts (.bad ts.tail):=.mk0 λ f=>by
 obtain⟨h1,h2,_⟩:=Zt h
 show (if _ then _ else _)=_;rw[if_neg h2,if_neg h1,if_pos h,if_neg hb]
theorem Ps.pr_read (h:isT [114,101,97,100] ts=true):Ps .pr ts (.ok (nd 12 0 0 (Yc ts) [] .nil) ts.tail):=.mk0 λ f=>by
 obtain⟨h1,h2,_⟩:=Zt h
 show (if _ then _ else _)=_;rw[if_neg h2,if_neg h1,if_neg (by rw[Kl h (by decide)];simp),if_pos h]
theorem Ps.pr_par (h:isT [40] ts=true) (h1:Ps .ex ts.tail (.ok x r)) (hc:isT [41] r=true):Ps .pr ts (.ok x r.tail):=.mk1 h1 λ f e1=>by
 obtain⟨k1,k2,_⟩:=Zt h
 show (if _ then _ else _)=_;rw[if_neg k2,if_neg k1,if_neg (by rw[Kl h (by decide)];simp),if_neg (by rw[Kl h (by decide)];simp),if_pos h,e1];show (if _ then _ else _)=_;rw[if_pos hc]
theorem Ps.pr_par_bad (h:isT [40] ts=true) (h1:Ps .ex ts.tail (.bad r)):Ps .pr ts (.bad r):=.mk1 h1 λ f e1=>by
 obtain⟨k1,k2,_⟩:=Zt h
 show (if _ then _ else _)=_;rw[if_neg k2,if_neg k1,if_neg (by rw[Kl h (by decide)];simp),if_neg (by rw[Kl h (by decide)];simp),if_pos h,e1];rfl
theorem Ps.pr_par_bad2 (h:isT [40] ts=true) (h1:Ps .ex ts.tail (.ok x r)) (hc:isT [41] r=false):Ps .pr ts (.bad r):=.mk1 h1 λ f e1=>by
 obtain⟨k1,k2,_⟩:=Zt h
 show (if _ then _ else _)=_;rw[if_neg k2,if_neg k1,if_neg (by rw[Kl h (by decide)];simp),if_neg (by rw[Kl h (by decide)];simp),if_pos h,e1];show (if _ then _ else _)=_;rw[if_neg (by rw[hc];simp)]
theorem Ps.pr_bad (h1:kOf ts≠1) (h2:kOf ts≠2) (h3:isT [38] ts=false) (h4:isT [114,101,97,100] ts=false) (h5:isT [40] ts=false):Ps .pr ts (.bad ts):=.mk0 λ f=>by
 show (if _ then _ else _)=_;rw[if_neg h2,if_neg h1,if_neg (by rw[h3];simp),if_neg (by rw[h4];simp),if_neg (by rw[h5];simp)]
end
theorem Jv {ts:List Tk} (h:ts≠[]):ts.tail.length<ts.length:=by
 cases ts with
 | nil=>exact absurd rfl h
 | cons x r=>simp
end
def Tv (x:Tk):Prop:=(x.k=1\/x.k=2\/x.k=3\/x.k=4)/\(x.k=3->isW x.t=true)/\(x.k=4->isS x.t=true)
theorem Kc.tv {x:Tk} (h:Kc x):Tv x:=by
 obtain⟨ln0,b,l,hst⟩:=h
 obtain⟨_,_,_,_,h5,_⟩:=Vb hst
 unfold nxI at h5
 dsimp only at h5
 split at h5
 ·injection h5 with e h5
  injection h5 with _ h5
  injection h5 with e2 h5
  rw[e2] at e
  split at e
  ·rename_i hw;exact⟨by omega,λ _=>hw,λ e3=>by omega⟩
  exact⟨by omega,λ e3=>by omega,λ e3=>by omega⟩
 split at h5
 ·split at h5
  ·injection h5 with e _;exact⟨by omega,λ e3=>by omega,λ e3=>by omega⟩
  injection h5 with e _;exact⟨by omega,λ e3=>by omega,λ e3=>by omega⟩
 split at h5
 ·rename_i hc
  injection h5 with e h5
  injection h5 with _ h5
  injection h5 with e2 _
  exact⟨by omega,λ e3=>by omega,λ _=>by rw[<- e2];exact hc.2⟩
 injection h5 with e h5
 injection h5 with _ h5
 injection h5 with e2 h5
 exact⟨by omega,λ e3=>by omega,λ _=>by rw[<- e2];exact h5⟩
def Jc:List Tk->Prop
 | []=>False
 | [x]=>x.k=0
 | x::y::r=>Tv x/\Jc (y::r)
theorem Jc.of {ys:List Tk} {ln:Int} (h:∀ x∈ys,Tv x):Jc (ys++[⟨0,ln,0,[]⟩]):=by
 induction ys with
 | nil=>rfl
 | cons x ys ih =>
  have h1:=ih (λ z hz=>h z (by simp[hz]))
  cases ys with
  | nil=>exact⟨h x (by simp),h1⟩
  | cons y ys=>exact⟨h x (by simp),h1⟩
theorem Jc.scan {l:Bt} {ts:List Tk} {y:Int} (h:Go.Proofs.YtldgghnjminhiaaGreatDoor.scan l=(some ts,y)):Jc ts:=by
 obtain⟨ys,ln,rfl,_,h3,_⟩:=Hv h
 exact Jc.of λ x hx=>(h3 x hx).tv
theorem Jc.cons {ts:List Tk} (h:Jc ts):∃ x r,ts=x::r:=by
 cases ts with
 | nil=>exact absurd h id
 | cons x r=>exact⟨x,r,rfl⟩
theorem Jc.more {x:Tk} {r:List Tk} (h:Jc (x::r)) (hk:x.k≠0):Jc r/\Tv x:=by
 cases r with
 | nil=>exact absurd h hk
 | cons y r=>exact⟨h.2,h.1⟩
theorem Jc.tv {x:Tk} {r:List Tk} (h:Jc (x::r)):x.k=0\/Tv x:=by
 cases r with
 | nil=>exact .inl h
 | cons y r=>exact .inr h.1
theorem Jc.isT {t:Bt} {ts:List Tk} (h:Jc ts) (k:Go.Proofs.YtldgghnjminhiaaGreatDoor.isT t ts=true):Jc ts.tail:=by
 obtain⟨x,r,rfl⟩:=h.cons
 have h0:=(Zt k).2.2.1
 exact(h.more h0).1
theorem Jc.kOf {ts:List Tk} (h:Jc ts) (k:Go.Proofs.YtldgghnjminhiaaGreatDoor.kOf ts≠0):Jc ts.tail:=by
 obtain⟨x,r,rfl⟩:=h.cons
 exact(h.more k).1
theorem Nb (t:Bt):0<=Qf t/\Qf t<=11:=by
 unfold Qf
 (repeat' split)<;>omega
theorem Lz {lo hi:Int} (ts:List Tk):0<=Zr lo hi ts/\Zr lo hi ts<=11:=by
 cases ts with
 | nil=>exact⟨Int.le_refl _,by show (0:Int)<=11;omega⟩
 | cons x r =>
  show 0<=(if x.k=4/\lo<=Qf x.t/\Qf x.t<=hi then Qf x.t else 0)/\(if x.k=4/\lo<=Qf x.t/\Qf x.t<=hi then Qf x.t else 0)<=11
  split
  ·exact Nb x.t
  omega
def Fo.drop:Fo->Nat->Fo
 | F,0=>F
 | .nil,_+1=>.nil
 | .cons _ _ r,i+1=>r.drop i
def eqF (lines:Bool):Fo->Fo->Bool
 | .nil,.nil=>true
 | .cons h a r,.cons h' a' r'=>(h.k==h'.k&&(h.op==h'.op&&(h.v==h'.v&&(h.nm==h'.nm&&((!lines||h.ln==h'.ln)&&eqF lines a a')))))&&eqF lines r r'
 | _,_=>false
theorem Cm (lines:Bool) (F:Fo):eqF lines F F=true:=by
 induction F with
 | nil=>rfl
 | cons h a r ih1 ih2=>simp[eqF,ih1,ih2]
theorem Ox {lines:Bool} {F G:Fo} (h:F.len≠G.len):eqF lines F G=false:=by
 induction F generalizing G with
 | nil=>cases G with
  | nil=>exact absurd rfl h
  | cons h a r=>rfl
 | cons h1 a1 r1 _ ih =>
  cases G with
  | nil=>rfl
  | cons h2 a2 r2 =>
   have:=ih (G:=r2) (λ e=>h (by simp only[Fo.len,e]))
   simp[eqF,this]
theorem Fo.drop_get {F:Fo} {i:Nat} {x:Hd×Fo} (h:F.get i=some x):F.drop i=.cons x.1 x.2 (F.drop (i+1)):=by
 induction F generalizing i with
 | nil=>cases h
 | cons h1 a1 r1 _ ih =>
  cases i with
  | zero=>injection h with h;subst h;cases r1<;>rfl
  | succ i =>
   have:=ih (i:=i) h
   show r1.drop i=_
   rw[this]
   rfl
theorem Fo.drop_len (F:Fo):F.drop F.len=.nil:=by
 induction F with
 | nil=>rfl
 | cons h1 a1 r1 _ ih=>exact ih
structure PC where
 g:Nat
 al:Option Addr
 cl:Nat
 ts:List Tk
 wr:Int
structure PAt (w:World) (K:PC) (at_:Nat) (rest:List Tk):Prop where
 row:w.heap[K.g]?=some (.cells #[.slice K.al K.ts.length K.cl,.int .i64 (at_:Int),.int .i64 K.wr] 99 (0,0))
 tk:Tks w K.al K.ts
 ne:∀ x,K.al=some x->x.block≠K.g
 dr:K.ts.drop at_=rest
 en:Jc rest
 cap:K.ts.length<=K.cl/\K.cl<=maxLen
 n:K.ts.length<=100000
theorem PAt.lt {w:World} {K:PC} {at_:Nat} {rest:List Tk} (h:PAt w K at_ rest):at_<K.ts.length/\K.ts.length=at_+rest.length:=by
 obtain⟨x,r,e⟩:=h.en.cons
 have h1:=h.dr
 rw[e] at h1
 have h2:=congrArg List.length h1
 rw[List.length_drop,List.length_cons] at h2
 rw[e,List.length_cons]
 omega
theorem PAt.glt {w:World} {K:PC} {at_:Nat} {rest:List Tk} (h:PAt w K at_ rest):K.g<w.heap.size:=Xv h.row
theorem PAt.grown {w w':World} {K:PC} {at_:Nat} {rest:List Tk} {r:Option Nat} (h:PAt w K at_ rest) (hg:w.grownBy w' r) (hr:∀ k,r=some k->k≠K.g/\∀ x,K.al=some x->x.block≠k):PAt w' K at_ rest :=
 {h with
  row:=(hg.block K.g h.glt (λ e=>(hr K.g e.symm).1 rfl)).trans h.row
  tk:=λ j x hj=>by
   obtain⟨b,off,e,hb,h0,h1,h2,h3⟩:=h.tk j x hj
   have key:w'.heap[b]?=w.heap[b]?:=hg.block b hb (λ e2=>(hr b e2.symm).2 _ e rfl)
   have kc:∀ o,w'.cell? ⟨b,o,none⟩=w.cell? ⟨b,o,none⟩:=λ o=>World.cell?_of_block (a:=⟨b,o,none⟩) key
   exact⟨b,off,e,by have:=hg.size;omega,(kc _).trans h0,(kc _).trans h1,(kc _).trans h2,(kc _).trans h3⟩ }
theorem PAt.below {w w':World} {K:PC} {at_:Nat} {rest:List Tk} (h:PAt w K at_ rest) (hb:Below w.heap.size w w'):PAt w' K at_ rest:=h.grown (Xg hb none) (λ k e=>by cases e)
theorem PAt.tok {w:World} {K:PC} {at_:Nat} {rest:List Tk} (h:PAt w K at_ rest):∃ x r b off,rest=x::r/\K.al=some ⟨b,off,none⟩/\b<w.heap.size/\b≠K.g /\
  w.cell? ⟨b,off+at_*4,none⟩=some (.int .i64 x.k)/\w.cell? ⟨b,off+at_*4+1,none⟩=some (.int .i64 x.n)/\w.cell? ⟨b,off+at_*4+2,none⟩=some (.int .i64 x.v)/\w.cell? ⟨b,off+at_*4+3,none⟩=some (.string (st x.t)):=by
 obtain⟨x,r,e⟩:=h.en.cons
 have h1:=h.dr
 rw[e] at h1
 have hx:K.ts[at_]?=some x:=by
  have:=congrArg (λ l=>l[0]?) h1
  simpa using this
 obtain⟨b,off,e2,hb,h0,h2,h3,h4⟩:=h.tk at_ x hx
 exact⟨x,r,b,off,e,e2,hb,h.ne _ e2,h0,h2,h3,h4⟩
theorem PAt.step {w:World} {K:PC} {at_:Nat} {rest:List Tk} (h:PAt w K at_ rest) (hk:kOf rest≠0):PAt (w.setCell ⟨K.g,1,none⟩ (.int .i64 ((at_:Int)+1))) K (at_+1) rest.tail :=
 have hjc:=Xp w K.g 1 (.int .i64 ((at_:Int)+1))
 {row:=heap_setCell_same w K.g 1 _ _ _ h.row
  tk:=λ j x hj=>by
   obtain⟨b,off,e,hb,h0,h1,h2,h3⟩:=h.tk j x hj
   have key:(w.setCell ⟨K.g,1,none⟩ (.int .i64 ((at_:Int)+1))).heap[b]?=w.heap[b]?:=hjc.block b hb (λ e2=>by injection e2 with e2;exact h.ne _ e e2)
   have kc:∀ o,(w.setCell ⟨K.g,1,none⟩ (.int .i64 ((at_:Int)+1))).cell? ⟨b,o,none⟩=w.cell? ⟨b,o,none⟩:=λ o=>World.cell?_of_block (a:=⟨b,o,none⟩) key
   exact⟨b,off,e,by have:=hjc.size;omega,(kc _).trans h0,(kc _).trans h1,(kc _).trans h2,(kc _).trans h3⟩
  ne:=h.ne
  dr:=by rw[<- h.dr,List.tail_drop]
  en:=h.en.kOf hk
  cap:=h.cap
  n:=h.n }
theorem PAt.cells {w:World} {K:PC} {at_:Nat} {rest:List Tk} (h:PAt w K at_ rest):w.cell? ⟨K.g,0,none⟩=some (.slice K.al K.ts.length K.cl)/\w.cell? ⟨K.g,1,none⟩=some (.int .i64 (at_:Int))/\w.cell? ⟨K.g,2,none⟩=some (.int .i64 K.wr) /\
  w.frozen? ⟨K.g,1,none⟩=false/\w.frozen? ⟨K.g,2,none⟩=false/\K.g<w.heap.size :=
 ⟨cell_of_row _ _ 0 _ _ _ h.row,cell_of_row _ _ 1 _ _ _ h.row,cell_of_row _ _ 2 _ _ _ h.row,frozen_of_row _ _ 1 _ _ h.row,frozen_of_row _ _ 2 _ _ h.row,h.glt⟩
abbrev Ms (x:Tk):Value:=.agg #[.int .i64 x.k,.int .i64 x.n,.int .i64 x.v,.string (st x.t)]
def hdT:List Tk->Tk
 | x::_=>x
 | []=>⟨0,0,0,[]⟩
theorem Bn (K:PC) (at_:Nat) (rest:List Tk) (w:World) (h:PAt w K at_ rest):Calls Tryz.prog 57 #[.pointer (some ⟨K.g,0,none⟩)] w λ e w'=>e=.returned (Ms (hdT rest))/\Below w.heap.size w w':=by
 have hlt:=h.lt.1
 have hwl:=h.cap
 have hn:=h.n
 have hr:=heap_alloc_new w (.cells #[.int .i64 0,.int .i64 0,.int .i64 0,.string ⟨#[]⟩] 103)
 have hbA:=Xw w (.cells #[.int .i64 0,.int .i64 0,.int .i64 0,.string ⟨#[]⟩] 103)
 have hxx:=h.glt
 obtain⟨x,r,b,off,rfl,hal,hb,hbg,t0,t1,t2,t3⟩:=h.tok
 obtain⟨p0,p1,-,-,-,-⟩:=h.cells
 rw[hal] at p0
 have q0:=(hbA.cell (p:=⟨K.g,0,none⟩) hxx).trans p0
 have q1:=(hbA.cell (p:=⟨K.g,1,none⟩) hxx).trans p1
 have s0:=(hbA.cell (p:=⟨b,off+at_*4,none⟩) hb).trans t0
 have s1:=(hbA.cell (p:=⟨b,off+at_*4+1,none⟩) hb).trans t1
 have s2:=(hbA.cell (p:=⟨b,off+at_*4+2,none⟩) hb).trans t2
 have s3:=(hbA.cell (p:=⟨b,off+at_*4+3,none⟩) hb).trans t3
 obtain⟨k,n,v,tt⟩:=x
 dsimp only at *
 obtain⟨g,hg⟩:∃ g,K.g=g:=⟨_,rfl⟩
 obtain⟨N,hN⟩:∃ N,K.ts.length=N:=⟨_,rfl⟩
 obtain⟨cl,hcl⟩:∃ c,K.cl=c:=⟨_,rfl⟩
 rw[hN,hcl] at hwl q0
 rw[hN] at hlt hn
 rw[hg] at q0 q1 hxx hbg ⊢
 have hcl2:cl<=9223372036854775807:=by have:=hwl.2;unfold maxLen at this;omega
 have hqt:(at_:Int)<(N:Int):=by omega
 clear h hal p0 p1 t0 t1 t2 t3 hN hcl hg
 go_enter Tryz.func57,Tryz.ntmps57
 go_upto_region 1 with fail
 obtain⟨w1,hw1⟩:∃ W,w.alloc (.cells #[.int .i64 0,.int .i64 0,.int .i64 0,.string ⟨#[]⟩] 103)=W:=⟨_,rfl⟩
 obtain⟨gr,hgr⟩:∃ x,w.heap.size=x:=⟨_,rfl⟩
 rw[hw1] at hr hbA q0 q1 s0 s1 s2 s3 ⊢
 rw[hgr] at hr hxx hb
 (try rw[hgr])
 have HB:=Xj (And.intro hbA hgr)
 have HR:=Xj hr
 have n1:gr≠g:=by omega
 have n2:gr≠b:=by omega
 clear hw1 hgr hbA hr
 refine wp_region_held_drew (S:=(λ w'=>w'.cell? ⟨g,0,none⟩=some (.slice (some ⟨b,off,none⟩) N cl)/\w'.cell? ⟨g,1,none⟩=some (.int .i64 (at_:Int))/\w'.cell? ⟨b,off+at_*4,none⟩=some (.int .i64 k)/\w'.cell? ⟨b,off+at_*4+1,none⟩=some (.int .i64 n)/\w'.cell? ⟨b,off+at_*4+2,none⟩=some (.int .i64 v)/\w'.cell? ⟨b,off+at_*4+3,none⟩=some (.string (st tt)))) (by kernel_rfl) ⟨q0,q1,s0,s1,s2,s3⟩ (λ hJ=>?_)
 refine tkH 0 3 ?_
 refine tkH 1 4 ?_
 refine tkH 2 5 ?_
 refine tkH 3 6 ?_
 refine tkH 4 7 ?_
 refine tkH 5 8 ?_
 refine tkH 6 9 ?_
 refine tkH 7 10 ?_
 refine tkH 8 11 ?_
 refine tkH 9 12 ?_
 refine rdH 10 λ K0 hK=>?_
 have c0:=cell_of_row _ _ 0 _ _ _ HR.o
 have c1:=cell_of_row _ _ 1 _ _ _ HR.o
 have c2:=cell_of_row _ _ 2 _ _ _ HR.o
 have c3:=cell_of_row _ _ 3 _ _ _ HR.o
 have f0:=frozen_of_row _ gr 0 _ _ HR.o
 have f1:=frozen_of_row _ gr 1 _ _ HR.o
 have f2:=frozen_of_row _ gr 2 _ _ HR.o
 have f3:=frozen_of_row _ gr 3 _ _ HR.o
 have jl:=Xv HR.o
 go_simp
 refine goH hK ⟨Xf n1 hJ.1,Xf n1 hJ.2.1,Xf n2 hJ.2.2.1,Xf n2 hJ.2.2.2.1,Xf n2 hJ.2.2.2.2.1,Xf n2 hJ.2.2.2.2.2⟩ λ hJ=>?_
 clear hK K0
 refine wpAnyH_done (by kernel_rfl) ?_ _
 refine Xz ?_
 have hZ:=Yd (w:=w1) (v0:=.int .i64 k) (v1:=.int .i64 n) (v2:=.int .i64 v) (v3:=.string (st tt)) HR.o
 have hjp:=(Yh (w:=w1) (B:=w.heap.size) (w0:=w) (b:=gr) (v0:=.int .i64 k) (v1:=.int .i64 n) (v2:=.int .i64 v) (v3:=.string (st tt)) HB.o.1 (by rw[HB.o.2];exact Nat.le_refl _)).drew
 have hZ:(set4 w1 gr (.int .i64 k) (.int .i64 n) (.int .i64 v) (.string (st tt))).drew.heap[gr]?=some (.cells #[.int .i64 k,.int .i64 n,.int .i64 v,.string (st tt)] 103 (0,0)):=hZ
 have d0:=cell_of_row _ _ 0 _ _ _ hZ
 have d1:=cell_of_row _ _ 1 _ _ _ hZ
 have d2:=cell_of_row _ _ 2 _ _ _ hZ
 have d3:=cell_of_row _ _ 3 _ _ _ hZ
 have hjg:=Xj hjp
 obtain⟨wn,hwn⟩:∃ wn,(set4 w1 gr (.int .i64 k) (.int .i64 n) (.int .i64 v) (.string (st tt))).drew=wn:=⟨_,rfl⟩
 have hjj:=hwn
 unfold set4 at hjj
 rw[hjj]
 rw[hwn] at hjg d0 d1 d2 d3
 clear hwn hjj hZ hjp c0 c1 c2 c3 f0 f1 f2 f3 jl hJ q0 q1 s0 s1 s2 s3
 go_wp2_with fail
 refine bodyPost_ret (v:=.agg #[.int .i64 k,.int .i64 n,.int .i64 v,.string (st tt)]) (by simp[results,Tryz.results57,go_sem,d0,d1,d2,d3]) rfl ?_
 exact⟨rfl,hjg.o⟩
theorem Zb (K:PC) (at_:Nat) (k n v:Int) (tt:Bt) (r:List Tk) (w:World) (h:PAt w K at_ (⟨k,n,v,tt⟩::r)):Calls Tryz.prog 57 #[.pointer (some ⟨K.g,0,none⟩)] w λ e w'=>e=.returned (.agg #[.int .i64 k,.int .i64 n,.int .i64 v,.string (st tt)])/\Below w.heap.size w w':=Bn K at_ _ w h
theorem Dx (K:PC) (at_:Nat) (rest:List Tk) (t:Bt) (w:World) (h:PAt w K at_ rest):Calls Tryz.prog 98 #[.pointer (some ⟨K.g,0,none⟩),.string (st t)] w λ e w'=>e=.returned (.bool (isT t rest))/\Below w.heap.size w w':=by
 obtain⟨⟨k,n,v,tt⟩,r,rfl⟩:=h.en.cons
 have HP:=Xj h
 clear h
 go_enter Tryz.func98,Tryz.ntmps98
 go_wp2_with fail
 refine(Zb K at_ k n v tt r _ HP.o).mono ?_
 rintro e w2 ⟨rfl,hb2⟩
 have hb3:=Xw w2 (.cells #[.int .i64 k,.int .i64 n,.int .i64 v,.string (st tt)] 103)
 have hr:=heap_alloc_new w2 (.cells #[.int .i64 k,.int .i64 n,.int .i64 v,.string (st tt)] 103)
 go_upto_region 2 with fail
 obtain⟨w3,hw3⟩:∃ W,w2.alloc (.cells #[.int .i64 k,.int .i64 n,.int .i64 v,.string (st tt)] 103)=W:=⟨_,rfl⟩
 obtain⟨gr,hgr⟩:∃ x,w2.heap.size=x:=⟨_,rfl⟩
 rw[hw3] at hr hb3 ⊢
 rw[hgr] at hr
 (try rw[hgr])
 have HB:=Xj (hb2.trans (hb3.mono hb2.size))
 have c0:=cell_of_row _ _ 0 _ _ _ hr
 have c3:=cell_of_row _ _ 3 _ _ _ hr
 have hl:=Xv hr
 clear hw3 hgr hr hb3 hb2
 cases h3:(k==3)
 ·cases h4:(k==4)
  ·have HE:Xq (isT t ({ k:=k,n:=n,v:=v,t:=tt }::r)=false):=Xj (by simp[isT,h3,h4])
   go_wp2_with fail
   go_ret
   exact⟨by rw[HE.o];try rfl,HB.o⟩
  have HE:Xq (isT t ({ k:=k,n:=n,v:=v,t:=tt }::r)=(tt==t)):=Xj (by simp[isT,h3,h4])
  go_wp2_with fail
  go_ret
  exact⟨by rw[HE.o];try rfl,HB.o⟩
 have HE:Xq (isT t ({ k:=k,n:=n,v:=v,t:=tt }::r)=(tt==t)):=Xj (by simp[isT,h3])
 go_wp2_with fail
 go_ret
 exact⟨by rw[HE.o];try rfl,HB.o⟩
def xqv (K:PC) (at_:Nat) (rest:List Tk) (t:Bt) (w:World) (e:Ending) (w':World):Prop :=
 ∃ at2 rest2,e=.returned (.bool (isT t rest))/\PAt w' K at2 rest2/\w.grownBy w' (some K.g)/\((isT t rest=true/\at2=at_+1/\rest2=rest.tail)\/(isT t rest=false/\at2=at_/\rest2=rest))
theorem Yj (K:PC) (at_:Nat) (rest:List Tk) (t:Bt) (w:World) (h:PAt w K at_ rest):Calls Tryz.prog 99 #[.pointer (some ⟨K.g,0,none⟩),.string (st t)] w (xqv K at_ rest t w):=by
 have HP:=Xj h
 clear h
 go_enter Tryz.func99,Tryz.ntmps99
 go_wp2_with fail
 refine(Dx K at_ rest t _ HP.o).mono ?_
 rintro e w2 ⟨rfl,hb2⟩
 have HP2:=Xj (HP.o.below hb2)
 have HG2:=Xj (Xg hb2 (some K.g))
 clear hb2
 cases hT:isT t rest
 ·have HT:=Xj hT
  clear hT
  go_wp2_with fail
  go_ret
  exact⟨at_,rest,by rw[HT.o];rfl,HP2.o,HG2.o,.inr ⟨HT.o,rfl,rfl⟩⟩
 have HT:=Xj hT
 obtain⟨-,p1,-,f1,-,hl⟩:=HP2.o.cells
 have hn:=HP2.o.n
 have hlt:=HP2.o.lt.1
 have hw1:IntKind.i64.wrap ((at_:Int)+1)=(at_:Int)+1:=by rw[IntKind.wrap_i64];omega
 have HF:=Xj (And.intro (HP2.o.step (Zt HT.o).2.2.1) (Xb HG2.o (Xp w2 K.g 1 (.int .i64 ((at_:Int)+1)))))
 clear hn hlt hT
 go_wp2_with fail
 go_ret
 exact⟨at_+1,rest.tail,by rw[HT.o];rfl,HF.o.1,HF.o.2,.inl ⟨HT.o,rfl,rfl⟩⟩
def xqj (K:PC) (at_:Nat) (rest:List Tk) (w:World) (e:Ending) (w':World):Prop :=
 ∃ at2 rest2,PAt w' K at2 rest2/\w.grownBy w' (some K.g)/\((kOf rest=1/\e=.returned (.tuple #[.string (st (tOf rest)),.bool true])/\at2=at_+1/\rest2=rest.tail)\/(kOf rest≠1/\e=.returned (.tuple #[.string ⟨#[]⟩,.bool false])/\at2=at_/\rest2=rest))
theorem Us (K:PC) (at_:Nat) (rest:List Tk) (w:World) (h:PAt w K at_ rest):Calls Tryz.prog 146 #[.pointer (some ⟨K.g,0,none⟩)] w (xqj K at_ rest w):=by
 obtain⟨⟨k,n,v,tt⟩,r,hxr⟩:=h.en.cons
 have HX:=Xj hxr
 have HP:=Xj h
 clear h hxr
 go_enter Tryz.func146,Tryz.ntmps146
 go_wp2_with fail
 refine(Zb K at_ k n v tt r _ (HX.o▸HP.o)).mono ?_
 rintro e w2 ⟨rfl,hb2⟩
 have hb3:=Xw w2 (.cells #[.int .i64 k,.int .i64 n,.int .i64 v,.string (st tt)] 103)
 have hr:=heap_alloc_new w2 (.cells #[.int .i64 k,.int .i64 n,.int .i64 v,.string (st tt)] 103)
 go_upto_region 2 with fail
 obtain⟨w3,hw3⟩:∃ W,w2.alloc (.cells #[.int .i64 k,.int .i64 n,.int .i64 v,.string (st tt)] 103)=W:=⟨_,rfl⟩
 obtain⟨gr,hgr⟩:∃ x,w2.heap.size=x:=⟨_,rfl⟩
 rw[hw3] at hr hb3 ⊢
 rw[hgr] at hr
 (try rw[hgr])
 have HB:=Xj (hb2.trans (hb3.mono hb2.size))
 have HR:=Xj hr
 have HP3:=Xj (HP.o.below HB.o)
 have HG3:=Xj (Xg HB.o (some K.g))
 have c0:=cell_of_row _ _ 0 _ _ _ hr
 have HGN:Xq (K.g≠gr):=Xj (by have:=HP.o.glt;have:=hb2.size;omega)
 clear hw3 hgr hr hb3 hb2
 by_cases hk:k=1
 ·subst hk
  have HK:Xq (kOf rest=1/\tOf rest=tt):=Xj ⟨by rw[HX.o];rfl,by rw[HX.o];rfl⟩
  obtain⟨-,p1,-,f1,-,hl⟩:=HP3.o.cells
  have hn:=HP3.o.n
  have hlt:=HP3.o.lt.1
  have hw1:IntKind.i64.wrap ((at_:Int)+1)=(at_:Int)+1:=by rw[IntKind.wrap_i64];omega
  have HF:=Xj (And.intro (HP3.o.step (by have:=HK.o.1;omega)) (Xb HG3.o (Xp w3 K.g 1 (.int .i64 ((at_:Int)+1)))))
  have hr2:=(heap_setCell_other w3 ⟨K.g,1,none⟩ gr (.int .i64 ((at_:Int)+1)) (by have:=HGN.o;exact λ e=>this e.symm)).trans HR.o
  have c3:=cell_of_row _ _ 3 _ _ _ hr2
  have hl2:=Xv hr2
  clear hn hlt hr2
  go_wp2_with fail
  refine bodyPost_ret (v:=.tuple #[.string (st tt),.bool true]) (by simp[results,Tryz.results146,go_sem]) rfl ?_
  exact⟨at_+1,rest.tail,HF.o.1,HF.o.2,.inl ⟨HK.o.1,by rw[HK.o.2],rfl,rfl⟩⟩
 have dk:(k==1)=false:=by rw[beq_eq_false_iff_ne];exact hk
 have dk2:(k != 1)=true:=by rw[bne_iff_ne];exact hk
 have HK:Xq (kOf rest≠1):=Xj (by rw[HX.o];exact hk)
 clear hk
 go_wp2_with fail
 refine bodyPost_ret (v:=.tuple #[.string ⟨#[]⟩,.bool false]) (by simp[results,Tryz.results146,go_sem]) rfl ?_
 exact⟨at_,rest,HP3.o,HG3.o,.inr ⟨HK.o,rfl,rfl,rfl⟩⟩
theorem Rj (t:Bt) (w:World):Calls Tryz.prog 190 #[.string (st t)] w λ e w'=>e=.returned (.int .i64 (Qf t))/\w'=w:=by
 have HE:Xq (Qf t=if t=[60] then 8 else if t=[60,61] then 9 else if t=[61,61] then 10 else if t=[33,61] then 11 else if t=[43] then 3 else if t=[45] then 4 else if t=[42] then 5 else if t=[47] then 6 else if t=[37] then 7 else 0):=Xj rfl
 by_cases h:t=[60]
 ·subst h
  go_enter Tryz.func190,Tryz.ntmps190
  go_wp2_with fail
  go_ret
  exact⟨rfl,rfl⟩
 have h0:(t==[60])=false:=by rw[beq_eq_false_iff_ne];exact h
 rw[if_neg h] at HE
 clear h
 by_cases h:t=[60,61]
 ·subst h
  go_enter Tryz.func190,Tryz.ntmps190
  go_wp2_with fail
  go_ret
  exact⟨rfl,rfl⟩
 have h1:(t==[60,61])=false:=by rw[beq_eq_false_iff_ne];exact h
 rw[if_neg h] at HE
 clear h
 by_cases h:t=[61,61]
 ·subst h
  go_enter Tryz.func190,Tryz.ntmps190
  go_wp2_with fail
  go_ret
  exact⟨rfl,rfl⟩
 have h2:(t==[61,61])=false:=by rw[beq_eq_false_iff_ne];exact h
 rw[if_neg h] at HE
 clear h
 by_cases h:t=[33,61]
 ·subst h
  go_enter Tryz.func190,Tryz.ntmps190
  go_wp2_with fail
  go_ret
  exact⟨rfl,rfl⟩
 have h3:(t==[33,61])=false:=by rw[beq_eq_false_iff_ne];exact h
 rw[if_neg h] at HE
 clear h
 by_cases h:t=[43]
 ·subst h
  go_enter Tryz.func190,Tryz.ntmps190
  go_wp2_with fail
  go_ret
  exact⟨rfl,rfl⟩
 have h4:(t==[43])=false:=by rw[beq_eq_false_iff_ne];exact h
 rw[if_neg h] at HE
 clear h
 by_cases h:t=[45]
 ·subst h
  go_enter Tryz.func190,Tryz.ntmps190
  go_wp2_with fail
  go_ret
  exact⟨rfl,rfl⟩
 have h5:(t==[45])=false:=by rw[beq_eq_false_iff_ne];exact h
 rw[if_neg h] at HE
 clear h
 by_cases h:t=[42]
 ·subst h
  go_enter Tryz.func190,Tryz.ntmps190
  go_wp2_with fail
  go_ret
  exact⟨rfl,rfl⟩
 have h6:(t==[42])=false:=by rw[beq_eq_false_iff_ne];exact h
 rw[if_neg h] at HE
 clear h
 by_cases h:t=[47]
 ·subst h
  go_enter Tryz.func190,Tryz.ntmps190
  go_wp2_with fail
  go_ret
  exact⟨rfl,rfl⟩
 have h7:(t==[47])=false:=by rw[beq_eq_false_iff_ne];exact h
 rw[if_neg h] at HE
 clear h
 by_cases h:t=[37]
 ·subst h
  go_enter Tryz.func190,Tryz.ntmps190
  go_wp2_with fail
  go_ret
  exact⟨rfl,rfl⟩
 have h8:(t==[37])=false:=by rw[beq_eq_false_iff_ne];exact h
 rw[if_neg h] at HE
 clear h
 go_enter Tryz.func190,Tryz.ntmps190
 go_wp2_with fail
 go_ret
 exact⟨by rw[HE.o];try rfl,rfl⟩
def xjt (K:PC) (lo hi:Int) (at_:Nat) (rest:List Tk) (w:World) (e:Ending) (w':World):Prop :=
 ∃ at2 rest2,PAt w' K at2 rest2/\w.grownBy w' (some K.g)/\((Zr lo hi rest≠0/\e=.returned (.tuple #[.int .i64 (Zr lo hi rest),.int .i64 (Yc rest)])/\at2=at_+1/\rest2=rest.tail)\/(Zr lo hi rest=0/\e=.returned (.tuple #[.int .i64 0,.int .i64 0])/\at2=at_/\rest2=rest))
theorem Vx (K:PC) (lo hi:Int) (hlo:0<lo) (at_:Nat) (rest:List Tk) (w:World) (h:PAt w K at_ rest):Calls Tryz.prog 170 #[.pointer (some ⟨K.g,0,none⟩),.int .i64 lo,.int .i64 hi] w (xjt K lo hi at_ rest w):=by
 obtain⟨⟨k,n,v,tt⟩,r,hxr⟩:=h.en.cons
 have HX:=Xj hxr
 have HP:=Xj h
 have HLO:=Xj hlo
 clear h hxr hlo
 go_enter Tryz.func170,Tryz.ntmps170
 go_wp2_with fail
 refine(Zb K at_ k n v tt r _ (HX.o▸HP.o)).mono ?_
 rintro e w2 ⟨rfl,hb2⟩
 have hb3:=Xw w2 (.cells #[.int .i64 k,.int .i64 n,.int .i64 v,.string (st tt)] 103)
 have hr:=heap_alloc_new w2 (.cells #[.int .i64 k,.int .i64 n,.int .i64 v,.string (st tt)] 103)
 go_upto_region 2 with fail
 obtain⟨w3,hw3⟩:∃ W,w2.alloc (.cells #[.int .i64 k,.int .i64 n,.int .i64 v,.string (st tt)] 103)=W:=⟨_,rfl⟩
 obtain⟨gr,hgr⟩:∃ x,w2.heap.size=x:=⟨_,rfl⟩
 rw[hw3] at hr hb3 ⊢
 rw[hgr] at hr
 (try rw[hgr])
 have HB:=Xj (hb2.trans (hb3.mono hb2.size))
 have HR:=Xj hr
 have HP3:=Xj (HP.o.below HB.o)
 have HG3:=Xj (Xg HB.o (some K.g))
 have c0:=cell_of_row _ _ 0 _ _ _ hr
 have c3:=cell_of_row _ _ 3 _ _ _ hr
 have hl3:=Xv hr
 have HGN:Xq (K.g≠gr):=Xj (by have:=HP.o.glt;have:=hb2.size;omega)
 have HOP:Xq (Zr lo hi rest=if k=4/\lo<=Qf tt/\Qf tt<=hi then Qf tt else 0):=Xj (by rw[HX.o];rfl)
 have HLN:Xq (Yc rest=n/\kOf rest=k):=Xj (by rw[HX.o];exact⟨rfl,rfl⟩)
 clear hw3 hgr hr hb3 hb2
 by_cases hk:k=4
 ·subst hk
  have hop:=Nb tt
  obtain⟨op,ho⟩:∃ o,Qf tt=o:=⟨_,rfl⟩
  have HBI:=Xj (Rj tt)
  rw[ho] at hop HOP HBI
  clear ho
  go_wp2_with fail
  refine(HBI.o _).mono ?_
  rintro e w4 ⟨rfl,rfl⟩
  by_cases h1:op<lo
  ·have d1:decide (op<lo)=true:=by rw[decide_eq_true_iff];exact h1
   have HZ:Xq (Zr lo hi rest=0):=Xj (by rw[HOP.o,if_neg (by omega)])
   clear h1
   go_wp2_with fail
   refine bodyPost_ret (v:=.tuple #[.int .i64 0,.int .i64 0]) (by simp[results,Tryz.results170,go_sem]) rfl ?_
   exact⟨at_,rest,HP3.o,HG3.o,.inr ⟨HZ.o,rfl,rfl,rfl⟩⟩
  have d1:decide (op<lo)=false:=by rw[decide_eq_false_iff_not];exact h1
  by_cases h2:hi<op
  ·have d2:decide (hi<op)=true:=by rw[decide_eq_true_iff];exact h2
   have HZ:Xq (Zr lo hi rest=0):=Xj (by rw[HOP.o,if_neg (by omega)])
   clear h1 h2
   go_wp2_with fail
   refine bodyPost_ret (v:=.tuple #[.int .i64 0,.int .i64 0]) (by simp[results,Tryz.results170,go_sem]) rfl ?_
   exact⟨at_,rest,HP3.o,HG3.o,.inr ⟨HZ.o,rfl,rfl,rfl⟩⟩
  have d2:decide (hi<op)=false:=by rw[decide_eq_false_iff_not];exact h2
  have HZ:Xq (Zr lo hi rest=op/\op≠0):=Xj ⟨by rw[HOP.o,if_pos ⟨by simp,by omega,by omega⟩],by have:=HLO.o;omega⟩
  obtain⟨-,p1,-,f1,-,hl⟩:=HP3.o.cells
  have hn:=HP3.o.n
  have hlt:=HP3.o.lt.1
  have hw1:IntKind.i64.wrap ((at_:Int)+1)=(at_:Int)+1:=by rw[IntKind.wrap_i64];omega
  have HF:=Xj (And.intro (HP3.o.step (by have:=HLN.o.2;omega)) (Xb HG3.o (Xp w4 K.g 1 (.int .i64 ((at_:Int)+1)))))
  have hr2:=(heap_setCell_other w4 ⟨K.g,1,none⟩ gr (.int .i64 ((at_:Int)+1)) (by have:=HGN.o;exact λ e=>this e.symm)).trans HR.o
  have e1:=cell_of_row _ _ 1 _ _ _ hr2
  have hl2:=Xv hr2
  clear hn hlt hr2 h1 h2 c0 c3 hl3
  go_upto_region 8 with fail
  obtain⟨w5,hw5⟩:∃ W,w4.setCell ⟨K.g,1,none⟩ (.int .i64 ((at_:Int)+1))=W:=⟨_,rfl⟩
  rw[hw5] at HF e1 hl2 ⊢
  clear hw5 p1 f1 hl
  refine Xn (by kernel_rfl) (by kernel_rfl) ?_
  have m1:∀ y:Xy w5,y.val.cell? ⟨gr,1,none⟩=some (.int .i64 n):=λ y=>y.cell e1
  repeat (go_big_quiet_step (fail))
  refine wpQuiet_nil ?_
  intro w6 hb6
  clear m1
  go_wp2_with fail
  refine bodyPost_ret (v:=.tuple #[.int .i64 op,.int .i64 n]) (by simp[results,Tryz.results170,go_sem]) rfl ?_
  exact⟨at_+1,rest.tail,HF.o.1.below hb6,Xb HF.o.2 (Xg hb6 _),.inl ⟨by rw[HZ.o.1];exact HZ.o.2,by rw[HZ.o.1,HLN.o.1],rfl,rfl⟩⟩
 have dk:(k==4)=false:=by rw[beq_eq_false_iff_ne];exact hk
 have dk2:(k != 4)=true:=by rw[bne_iff_ne];exact hk
 have HZ:Xq (Zr lo hi rest=0):=Xj (by rw[HOP.o,if_neg (λ h=>hk h.1)])
 clear hk
 go_wp2_with fail
 refine bodyPost_ret (v:=.tuple #[.int .i64 0,.int .i64 0]) (by simp[results,Tryz.results170,go_sem]) rfl ?_
 exact⟨at_,rest,HP3.o,HG3.o,.inr ⟨HZ.o,rfl,rfl,rfl⟩⟩
section
theorem Xc {w:World} {P Q:Nat->Prop} {ar:Fo} {sl:Value} (h:Xk w P ar sl) (hPQ:∀ b,P b->b<w.heap.size->Q b):Xk w Q ar sl:=h.keep (λ b hb hlt=>⟨rfl,hPQ b hb hlt⟩) (Nat.le_refl _)
theorem Yl {w:World} {P:Nat->Prop} {ar:Fo} {sl:Value} (o:Obj) (h:Xk w P ar sl):Xk (w.alloc o) (λ b=>P b/\b≠w.heap.size) ar sl:=h.keep (λ b hb hlt=>⟨Below.heap_alloc w o b hlt,hb,by omega⟩) (by simp)
theorem Zq {w w':World} {P:Nat->Prop} {ar:Fo} {sl:Value} {g:Nat} (h:Xk w P ar sl) (hg:w.grownBy w' (some g)) (hP:∀ b,P b->b≠g):Xk w' P ar sl:=h.keep (λ b hb hlt=>⟨hg.block b hlt (λ e=>by injection e with e;exact hP b hb e),hb⟩) hg.size
theorem Yv {w:World} {P:Nat->Prop} {ar:Fo} {sl:Value} {g:Nat} {v0 v1 v2 v3 v4 v5:Value} (h:Xk w P ar sl) (hP:∀ b,P b->b≠g):Xk (set6 w g v0 v1 v2 v3 v4 v5) P ar sl:=h.keep (λ b hb hlt=>⟨Yx b (hP b hb),hb⟩) (by rw[Zv];exact Nat.le_refl _)
theorem Qh {w:World} {P:Nat->Prop} {ar:Fo} {sl:Value} {p:Addr} {v:Value} (h:Xk w P ar sl) (hP:∀ b,P b->b≠p.block):Xk (w.setCell p v) P ar sl:=h.keep (λ b hb hlt=>⟨heap_setCell_other w p b v (hP b hb),hb⟩) (by simp[World.setCell])
structure MS (K:PC) (w wx:World) (at_:Nat) (r:List Tk):Prop where
 pat:PAt wx K at_ r
 gr:w.grownBy wx (some K.g)
 gl:K.g<w.heap.size
 tl:∀ x,K.al=some x->x.block<w.heap.size
section
variable {K:PC} {w wx wy:World} {at_ at2:Nat} {r r2:List Tk}
theorem MS.init (h:PAt w K at_ r):MS K w w at_ r:=by
 refine⟨h,⟨rfl,rfl,rfl,Nat.le_refl _,λ _ _ _=>rfl⟩,h.glt,λ x hx=>?_⟩
 obtain⟨y,s,b,off,_,e,hb,_⟩:=h.tok
 rw[e] at hx
 injection hx with hx
 subst hx
 exact hb
theorem MS.be (h:MS K w wx at_ r) (hb:Below wx.heap.size wx wy):MS K w wy at_ r:=⟨h.pat.below hb,Xb h.gr (Xg hb _),h.gl,h.tl⟩
theorem MS.al (h:MS K w wx at_ r) (o:Obj):MS K w (wx.alloc o) at_ r:=h.be (Xw wx o)
theorem MS.sc (h:MS K w wx at_ r) {p:Addr} (hp:w.heap.size<=p.block) (v:Value):MS K w (wx.setCell p v) at_ r :=
 have hg:wx.grownBy (wx.setCell p v) (some p.block):=⟨rfl,rfl,rfl,by simp[World.setCell],λ k hk hn=>heap_setCell_other wx p k v (λ e=>hn (by rw[e]))⟩
 ⟨h.pat.grown hg (λ k e=>by injection e with e;subst e;exact⟨by have:=h.gl;omega,λ x hx=>by have:=h.tl x hx;omega⟩),Yb h.gr hp,h.gl,h.tl⟩
theorem MS.s6 (h:MS K w wx at_ r) {b:Nat} (hb:w.heap.size<=b) (v0 v1 v2 v3 v4 v5:Value):MS K w (set6 wx b v0 v1 v2 v3 v4 v5) at_ r :=
 (((((h.sc (p:=⟨b,0,none⟩) hb v0).sc (p:=⟨b,1,none⟩) hb v1).sc (p:=⟨b,2,none⟩) hb v2).sc (p:=⟨b,3,none⟩) hb v3).sc (p:=⟨b,4,none⟩) hb v4).sc (p:=⟨b,5,none⟩) hb v5
theorem MS.step (h:MS K w wx at_ r) (hk:kOf r≠0):MS K w (wx.setCell ⟨K.g,1,none⟩ (.int .i64 ((at_:Int)+1))) (at_+1) r.tail:=⟨h.pat.step hk,Xb h.gr (Xp wx K.g 1 _),h.gl,h.tl⟩
theorem MS.call (h:MS K w wx at_ r) (hp:PAt wy K at2 r2) (hg:wx.grownBy wy (some K.g)):MS K w wy at2 r2:=⟨hp,Xb h.gr hg,h.gl,h.tl⟩
theorem MS.w1 (h:MS K w wx at_ r):IntKind.i64.wrap ((at_:Int)+1)=(at_:Int)+1:=by
 have:=h.pat.lt.1
 have:=h.pat.n
 rw[IntKind.wrap_i64];omega
end
abbrev ecs (h:Hd) (sl:Value):Array Value := #[.int .i64 h.k,.int .i64 h.op,.int .i64 h.v,.int .i64 h.ln,.string (st h.nm),sl]
def Lc (wx:World) (b:Nat) (h:Hd) (sl:Value):Prop:=wx.heap[b]?=some (.cells (ecs h sl) 37 (0,0))
section
variable {wx wy:World} {b:Nat} {h:Hd} {sl:Value}
theorem Lc.lt (k:Lc wx b h sl):b<wx.heap.size:=Xv k
theorem Lc.al (k:Lc wx b h sl) (o:Obj):Lc (wx.alloc o) b h sl:=(Below.heap_alloc wx o b k.lt).trans k
theorem Lc.be (k:Lc wx b h sl) (hb:Below wx.heap.size wx wy):Lc wy b h sl:=(hb.block b k.lt).trans k
theorem Lc.gr {g:Nat} (k:Lc wx b h sl) (hg:wx.grownBy wy (some g)) (hn:b≠g):Lc wy b h sl:=(hg.block b k.lt (λ e=>by injection e with e;exact hn e)).trans k
theorem Lc.s1 (k:Lc wx b h sl) {p:Addr} {v:Value} (hn:b≠p.block):Lc (wx.setCell p v) b h sl:=(heap_setCell_other wx p b v hn).trans k
theorem Lc.s6o {g:Nat} {v0 v1 v2 v3 v4 v5:Value} (k:Lc wx b h sl) (hn:b≠g):Lc (set6 wx g v0 v1 v2 v3 v4 v5) b h sl:=(Yx b hn).trans k
theorem Lc.s6 (k:Lc wx b h sl) (h2:Hd) (sl2:Value):Lc (set6 wx b (.int .i64 h2.k) (.int .i64 h2.op) (.int .i64 h2.v) (.int .i64 h2.ln) (.string (st h2.nm)) sl2) b h2 sl2:=Qj k
theorem Lc.cells (k:Lc wx b h sl):wx.cell? ⟨b,0,none⟩=some (.int .i64 h.k)/\wx.cell? ⟨b,1,none⟩=some (.int .i64 h.op)/\wx.cell? ⟨b,2,none⟩=some (.int .i64 h.v)/\wx.cell? ⟨b,3,none⟩=some (.int .i64 h.ln)/\wx.cell? ⟨b,4,none⟩=some (.string (st h.nm))/\wx.cell? ⟨b,5,none⟩=some sl:=Yu k
theorem Lc.froz (k:Lc wx b h sl):wx.frozen? ⟨b,0,none⟩=false/\wx.frozen? ⟨b,1,none⟩=false/\wx.frozen? ⟨b,2,none⟩=false/\wx.frozen? ⟨b,3,none⟩=false/\wx.frozen? ⟨b,4,none⟩=false/\wx.frozen? ⟨b,5,none⟩=false :=
 ⟨frozen_of_row _ b 0 _ _ k,frozen_of_row _ b 1 _ _ k,frozen_of_row _ b 2 _ _ k,frozen_of_row _ b 3 _ _ k,frozen_of_row _ b 4 _ _ k,frozen_of_row _ b 5 _ _ k⟩
theorem Lc.new (w:World) (h:Hd) (sl:Value):Lc (w.alloc (.cells (ecs h sl) 37)) w.heap.size h sl:=heap_alloc_new w _
end
abbrev zhd:Hd:=⟨0,0,0,0,[]⟩
theorem Lc.zero (w:World):Lc (w.alloc zex) w.heap.size zhd (.slice none 0 0):=heap_alloc_new w _
def EP (K:PC) (lv:Lv) (rest:List Tk) (w:World) (e:Ending) (w':World):Prop :=
 ∃ (h:Hd) (a:Option Addr) (n c:Nat) (ok:Bool) (at2:Nat) (r:List Tk),e=.returned (.tuple #[exv h (.slice a n c),.bool ok])/\PAt w' K at2 r/\r.length<=rest.length/\w.grownBy w' (some K.g) /\
  Xq ((ok=true/\∃ ar,Ps lv rest (.ok (Xh h ar) r)/\Xk w' (λ b=>w.heap.size<=b) ar (.slice a n c)/\r.length<rest.length)\/(ok=false/\Ps lv rest (.bad r)))
def CE (f:FuncId) (lv:Lv) (m:Nat):Prop:=∀ (K:PC) (at_:Nat) (rest:List Tk) (w:World),PAt w K at_ rest->rest.length<=m->Calls Tryz.prog f #[.pointer (some ⟨K.g,0,none⟩)] w (EP K lv rest w)
theorem CE.mono {f:FuncId} {lv:Lv} {m n:Nat} (h:CE f lv m) (hn:n<=m):CE f lv n:=λ K at_ rest w hp hl=>h K at_ rest w hp (Nat.le_trans hl hn)
def TBk (w:World) (gR gx:Nat):Nat->Prop:=λ b=>w.heap.size<=b/\b≠gR/\b≠gx
def natAt (w:World) (g:Nat):Nat:=match w.cell? ⟨g,1,none⟩ with
 | some (.int _ z)=>z.toNat
 | _=>0
theorem PAt.natAt {w:World} {K:PC} {at_:Nat} {rest:List Tk} (h:PAt w K at_ rest):Go.Proofs.YtldgghnjminhiaaGreatDoor.natAt w K.g=at_:=by
 unfold Go.Proofs.YtldgghnjminhiaaGreatDoor.natAt
 rw[h.cells.2.1]
 simp
structure LI (K:PC) (w:World) (gR gx:Nat) (lv:Lv) (L:Fo->Lv) (rest:List Tk) (h:Hd) (a:Option Addr) (n c:Nat) (ok:Bool) (at2:Nat) (r:List Tk) (wr:World):Prop where
 ms:MS K w wr at2 r
 rc:Lc wr gR zhd (.slice none 0 0)
 xc:Lc wr gx h (.slice a n c)
 le:r.length<=rest.length
 res:(ok=true/\∃ ar,(∀ z,Ps (L (Xh h ar)) r z->Ps lv rest z)/\Xk wr (TBk w gR gx) ar (.slice a n c)/\r.length<rest.length)\/(ok=false/\Ps lv rest (.bad r))
theorem Ur {w:World} {P Q:Nat->Prop} {h1 h2:Hd} {a1 a2:Fo} {s1 s2:Value} (k1:Xk w P a1 s1) (k2:Xk w P a2 s2) (hPQ:∀ b,P b->b<w.heap.size->Q b) (hQ:Q w.heap.size) :
  Xk (w.alloc (.cells #[.int .i64 h1.k,.int .i64 h1.op,.int .i64 h1.v,.int .i64 h1.ln,.string (st h1.nm),s1,.int .i64 h2.k,.int .i64 h2.op,.int .i64 h2.v,.int .i64 h2.ln,.string (st h2.nm),s2] 37)) Q ((Xh h1 a1).app (Xh h2 a2)) (.slice (some ⟨w.heap.size,0,none⟩) 2 2) :=
 Zc (F:=(Xh h1 a1).app (Xh h2 a2)) (xs:=hdc h1 s1++hdc h2 s2) (Ys.app k1.one k2.one) (by simp[Fo.app,Fo.len,maxLen]) hPQ hQ
theorem Ub {w:World} {P Q:Nat->Prop} {h1:Hd} {a1:Fo} {s1:Value} (k1:Xk w P a1 s1) (hPQ:∀ b,P b->b<w.heap.size->Q b) (hQ:Q w.heap.size) :
  Xk (w.alloc (.cells #[.int .i64 h1.k,.int .i64 h1.op,.int .i64 h1.v,.int .i64 h1.ln,.string (st h1.nm),s1] 37)) Q (Xh h1 a1) (.slice (some ⟨w.heap.size,0,none⟩) 1 1) :=
 Zc (F:=Xh h1 a1) (xs:=hdc h1 s1) k1.one (by simp[Fo.len,maxLen]) hPQ hQ
theorem Oq (m:Nat) (hA:CE 97 .an m):CE 56 .ex m:=by
 intro K at_ rest w hP hm
 have HM1:=Xj ((MS.init hP).al zex)
 have HR1:=Xj (Lc.zero w)
 have HA:=Xj hA
 have HMm:=Xj hm
 clear hA hP hm
 go_enter Tryz.func56,Tryz.ntmps56
 go_upto_region 1 with fail
 obtain⟨w1,hw1⟩:∃ W,w.alloc zex=W:=⟨_,rfl⟩
 obtain⟨gR,hgR⟩:∃ x,w.heap.size=x:=⟨_,rfl⟩
 (try rw[show w.alloc (.cells #[.int .i64 0,.int .i64 0,.int .i64 0,.int .i64 0,.string { data := #[] },.slice none 0 0] 37)=w1 from hw1])
 rw[hw1] at HM1 HR1
 rw[hgR] at HR1
 (try rw[hgR])
 have HGR:=Xj hgR
 have HS1:Xq (w1.heap.size=gR+1):=Xj (by rw[<- hw1,<- hgR];simp)
 clear hw1 hgR
 go_wp2_with fail
 refine(HA.o K at_ rest _ HM1.o.pat HMm.o).mono ?_
 rintro e w2 ⟨h,a,n,c,ok,at2,r,rfl,hp2,hjb,hg2,hI⟩
 have HM2:=Xj (HM1.o.call hp2 hg2)
 have HR2:=Xj (HR1.o.gr hg2 (by have:=HM1.o.gl;have:=HGR.o;omega))
 have hs2:=hg2.size
 have HM3:=Xj (HM2.o.al (.cells (ecs h (.slice a n c)) 37))
 have HR3:=Xj (HR2.o.al (.cells (ecs h (.slice a n c)) 37))
 have HX3:=Xj (Lc.new w2 h (.slice a n c))
 have H9:Xq ((ok=true/\∃ ar,(∀ z,Ps (.exL (Xh h ar)) r z->Ps .ex rest z)/\Xk (w2.alloc (.cells (ecs h (.slice a n c)) 37)) (TBk w gR w2.heap.size) ar (.slice a n c)/\r.length<rest.length)\/(ok=false/\Ps .ex rest (.bad r))):=Xj (by
  rcases hI.o with⟨h1,ar,h2,h3,h4⟩|⟨h1,h2⟩
  ·exact .inl ⟨h1,ar,λ z hz=>Ps.ex_ok h2 hz,Xc (Yl _ h3) (λ b hb _=>⟨by have:=hb.1;have:=HS1.o;have:=HGR.o;omega,by have:=hb.1;have:=HS1.o;omega,hb.2⟩),h4⟩
  exact .inr ⟨h1,Ps.ex_bad h2⟩)
 clear hI hp2 hg2
 go_upto_block 0 with fail
 obtain⟨w3,hw3⟩:∃ W,w2.alloc (.cells (ecs h (.slice a n c)) 37)=W:=⟨_,rfl⟩
 obtain⟨gx,hgx⟩:∃ x,w2.heap.size=x:=⟨_,rfl⟩
 (try rw[show w2.alloc (.cells #[.int .i64 h.k,.int .i64 h.op,.int .i64 h.v,.int .i64 h.ln,.string (st h.nm),.slice a n c] 37)=w3 from hw3])
 rw[hw3] at HM3 HR3 HX3 H9
 rw[hgx] at HX3 H9
 (try rw[hgx])
 have HGX:Xq (gR<gx):=Xj (by have:=HS1.o;omega)
 have HLE:=Xj hjb
 clear hw3 hgx hs2 hjb HM2 HR2 HM1 HR1
 go_wp2_with fail
 go_loopw [5] (λ v5 wr=>∃ (h:Hd) (a:Option Addr) (n c:Nat) (ok:Bool) (at2:Nat) (r:List Tk),v5=.bool ok/\Xq (LI K w gR gx .ex .exL rest h a n c ok at2 r wr)) (λ _ wr=>K.ts.length-natAt wr K.g)
 case atStart=>exact⟨h,a,n,c,ok,at2,r,rfl,Xj ⟨HM3.o,HR3.o,HX3.o,HLE.o,H9.o⟩⟩
 rename World=>wa
 obtain⟨h,a,n,c,ok,at2,r,rfl,HL⟩:=hrel
 obtain⟨x0,x1,x2,x3,x4,x5⟩:=HL.o.xc.cells
 obtain⟨g0,g1,g2,g3,g4,g5⟩:=HL.o.rc.froz
 obtain⟨y0,y1,y2,y3,y4,y5⟩:=HL.o.rc.cells
 have hlR:=HL.o.rc.lt
 have hlX:=HL.o.xc.lt
 have hgg:=HL.o.ms.gl
 have hxv:=HGR.o
 have hyx:=HGX.o
 have hqn:∀ (ok2:Bool),((ok2=true/\∃ ar,Ps .ex rest (.ok (Xh h ar) r)/\Xk wa (TBk w gR gx) ar (.slice a n c)/\r.length<rest.length)\/(ok2=false/\Ps .ex rest (.bad r)))->EP K .ex rest w (.returned (.tuple #[exv h (.slice a n c),.bool ok2])) (set6 wa gR (.int .i64 h.k) (.int .i64 h.op) (.int .i64 h.v) (.int .i64 h.ln) (.string (st h.nm)) (.slice a n c)):=λ ok2 hr=>by
  have hms:=HL.o.ms.s6 (b:=gR) (by omega) (.int .i64 h.k) (.int .i64 h.op) (.int .i64 h.v) (.int .i64 h.ln) (.string (st h.nm)) (.slice a n c)
  refine⟨h,a,n,c,ok2,at2,r,rfl,hms.pat,HL.o.le,hms.gr,Xj ?_⟩
  rcases hr with⟨h1,ar,h2,h3,h4⟩|hr
  ·exact .inl ⟨h1,ar,h2,Xc (Yv h3 (λ b hb=>hb.2.1)) (λ b hb _=>hb.1),h4⟩
  exact .inr hr
 have hjw:=Xj hqn
 have HD0:=Xj (HL.o.rc.s6 h (.slice a n c))
 clear hqn
 cases ok
 ·have HB:Xq (Ps .ex rest (.bad r)):=Xj (by
   rcases HL.o.res with⟨h1,_⟩|⟨_,h1⟩
   ·cases h1
   exact h1)
  go_wp2_with fail
  obtain⟨wz,hwz⟩:∃ W,set6 wa gR (.int .i64 h.k) (.int .i64 h.op) (.int .i64 h.v) (.int .i64 h.ln) (.string (st h.nm)) (.slice a n c)=W:=⟨_,rfl⟩
  have hY:=hwz
  unfold set6 at hY
  (try rw[hY])
  rw[hwz] at HD0 hjw
  obtain⟨d0,d1,d2,d3,d4,d5⟩:=HD0.o.cells
  refine bodyPost_ret (v:=.tuple #[exv h (.slice a n c),.bool false]) (by simp[results,Tryz.results56,go_sem,d0,d1,d2,d3,d4,d5]) rfl ?_
  exact hjw.o _ (.inr ⟨rfl,HB.o⟩)
 obtain⟨ar,hjh,har,hlt⟩:∃ ar,(∀ z,Ps (.exL (Xh h ar)) r z->Ps .ex rest z)/\Xk wa (TBk w gR gx) ar (.slice a n c)/\r.length<rest.length:=by
  rcases HL.o.res with⟨_,h1⟩|⟨h1,_⟩
  ·exact h1
  cases h1
 have HCO:=Xj hjh
 have HAR:=Xj har
 have HLT:=Xj hlt
 clear hjh har hlt
 have HIS:=Xj (Dx K at2 r [124,124] wa HL.o.ms.pat)
 clear x0 x1 x2 x3 x4 x5 y0 y1 y2 y3 y4 y5 g0 g1 g2 g3 g4 g5
 go_wp2_with fail
 refine HIS.o.mono ?_
 rintro e w4 ⟨rfl,hb4⟩
 have HM4:=Xj (HL.o.ms.be hb4)
 have HR4:=Xj (HL.o.rc.be hb4)
 have HX4:=Xj (HL.o.xc.be hb4)
 have hqg:=Xj (HAR.o.keep (Q:=TBk w gR gx) (λ b hb hlt=>⟨hb4.block b hlt,hb⟩) hb4.size)
 have HS4:=Xj hb4.size
 clear hb4 hjw HD0
 cases hT:isT [124,124] r
 ·have HD4:=Xj (HR4.o.s6 h (.slice a n c))
  have HZ:Xq (Ps .ex rest (.ok (Xh h ar) r)):=Xj (HCO.o _ (Ps.exL_end hT))
  obtain⟨x0,x1,x2,x3,x4,x5⟩:=HX4.o.cells
  obtain⟨g0,g1,g2,g3,g4,g5⟩:=HR4.o.froz
  obtain⟨y0,y1,y2,y3,y4,y5⟩:=HR4.o.cells
  have hyv:=HR4.o.lt
  clear hT
  go_wp2_with fail
  obtain⟨wz,hwz⟩:∃ W,set6 w4 gR (.int .i64 h.k) (.int .i64 h.op) (.int .i64 h.v) (.int .i64 h.ln) (.string (st h.nm)) (.slice a n c)=W:=⟨_,rfl⟩
  have HMZ:=Xj (HM4.o.s6 (b:=gR) (by omega) (.int .i64 h.k) (.int .i64 h.op) (.int .i64 h.v) (.int .i64 h.ln) (.string (st h.nm)) (.slice a n c))
  have HAZ:=Xj (Yv (v0:=.int .i64 h.k) (v1:=.int .i64 h.op) (v2:=.int .i64 h.v) (v3:=.int .i64 h.ln) (v4:=.string (st h.nm)) (v5:=.slice a n c) hqg.o (λ b hb=>hb.2.1))
  have hY:=hwz
  unfold set6 at hY
  (try rw[hY])
  rw[hwz] at HD4 HMZ HAZ
  obtain⟨d0,d1,d2,d3,d4,d5⟩:=HD4.o.cells
  refine bodyPost_ret (v:=.tuple #[exv h (.slice a n c),.bool true]) (by simp[results,Tryz.results56,go_sem,d0,d1,d2,d3,d4,d5]) rfl ?_
  exact⟨h,a,n,c,true,at2,r,rfl,HMZ.o.pat,HL.o.le,HMZ.o.gr,Xj (.inl ⟨rfl,ar,HZ.o,Xc HAZ.o (λ b hb _=>hb.1),HLT.o⟩)⟩
 have HT:=Xj hT
 have HK0:Xq (kOf r≠0):=Xj (Zt hT).2.2.1
 obtain⟨⟨tk,tn,tv,tt⟩,r0,hr0⟩:=HM4.o.pat.en.cons
 have HLO:=Xj (Zb K at2 tk tn tv tt r0 w4 (hr0▸HM4.o.pat))
 have HLN:Xq (Yc r=tn):=Xj (by rw[hr0];rfl)
 have HRT:Xq (r.tail.length<r.length):=Xj (by rw[hr0];simp)
 have hfd:∀ W:World,(Instr.field 103 (.agg #[.int .i64 tk,.int .i64 tn,.int .i64 tv,.string (st tt)]) 1).run Tryz.prog W=.ok (.int .i64 tn) W:=λ _=>by kernel_rfl
 clear hT hr0
 go_wp2_with fail
 refine HLO.o.mono ?_
 rintro e w5 ⟨rfl,hb5⟩
 have HM5:=Xj (HM4.o.be hb5)
 have HR5:=Xj (HR4.o.be hb5)
 have HX5:=Xj (HX4.o.be hb5)
 have hmu:=Xj (hqg.o.keep (Q:=TBk w gR gx) (λ b hb hlt=>⟨hb5.block b hlt,hb⟩) hb5.size)
 obtain⟨-,p1,-,f1,-,hlp⟩:=HM5.o.pat.cells
 have hw1:=HM5.o.w1
 have HM6:=Xj ((HM5.o.step HK0.o).al zex)
 have HR6:=Xj ((HR5.o.s1 (p:=⟨K.g,1,none⟩) (v:=.int .i64 ((at2:Int)+1)) (by show gR≠K.g;omega)).al zex)
 have HX6:=Xj ((HX5.o.s1 (p:=⟨K.g,1,none⟩) (v:=.int .i64 ((at2:Int)+1)) (by show gx≠K.g;omega)).al zex)
 have HY6:=Xj (Lc.zero (w5.setCell ⟨K.g,1,none⟩ (.int .i64 ((at2:Int)+1))))
 have hzu:=Xj (Yl zex (Qh (p:=⟨K.g,1,none⟩) (v:=.int .i64 ((at2:Int)+1)) hmu.o (λ b hb=>by show b≠K.g;have:=hb.1;omega)))
 clear hb5 HM4 HR4 HX4 hqg
 go_upto_region 6 with fail
 obtain⟨w6,hw6⟩:∃ W,(w5.setCell ⟨K.g,1,none⟩ (.int .i64 ((at2:Int)+1))).alloc zex=W:=⟨_,rfl⟩
 obtain⟨gy,hgy⟩:∃ x,w5.heap.size=x:=⟨_,rfl⟩
 have hvw:Xq (gx<gy):=Xj (by rw[<- hgy];exact HX5.o.lt)
 have HGY:Xq (w6.heap.size=gy+1):=Xj (by rw[<- hw6,<- hgy];simp[World.setCell])
 (try rw[show (w5.setCell ⟨K.g,1,none⟩ (.int .i64 ((at2:Int)+1))).alloc (.cells #[.int .i64 0,.int .i64 0,.int .i64 0,.int .i64 0,.string { data := #[] },.slice none 0 0] 37)=w6 from hw6])
 have hzb:(w5.setCell ⟨K.g,1,none⟩ (.int .i64 ((at2:Int)+1))).heap.size=gy:=by rw[<- hgy];simp[World.setCell]
 rw[hw6,hzb] at HY6 hzu
 rw[hw6] at HM6 HR6 HX6
 (try rw[hgy])
 have hmb:=hvw.o
 have hmp:=HGY.o
 clear hw6 hgy hzb
 go_wp2_with fail
 refine(HA.o K (at2+1) r.tail _ HM6.o.pat (by have:=HRT.o;have:=HL.o.le;have:=HMm.o;omega)).mono ?_
 rintro e w7 ⟨h2,a2,n2,c2,ok2,at7,r7,rfl,hp7,HJ,hg7,hR⟩
 have hs7:=hg7.size
 have HM7:=Xj (HM6.o.call hp7 hg7)
 have HR7:=Xj (HR6.o.gr hg7 (by omega))
 have HX7:=Xj (HX6.o.gr hg7 (by omega))
 have HY7:=Xj (HY6.o.gr hg7 (by omega))
 have hzq:=Xj (Zq hzu.o hg7 (λ b hb=>by have:=hb.1.1;omega))
 have hmg:at2<at7:=by
  have h1:=HM7.o.pat.lt.2
  have h2:=HL.o.ms.pat.lt.2
  have h3:=HRT.o
  omega
 obtain⟨q0,q1,q2,q3,q4,q5⟩:=HX7.o.cells
 obtain⟨k0,k1,k2,k3,k4,k5⟩:=HX7.o.froz
 obtain⟨v0,v1,v2,v3,v4,v5⟩:=HY7.o.froz
 obtain⟨u0,u1,u2,u3,u4,u5⟩:=HY7.o.cells
 have hvk:=HX7.o.lt
 have hxy:=HY7.o.lt
 have HY8:=Xj (HY7.o.s6 h2 (.slice a2 n2 c2))
 have HX8:=Xj (HX7.o.s6o (g:=gy) (v0:=.int .i64 h2.k) (v1:=.int .i64 h2.op) (v2:=.int .i64 h2.v) (v3:=.int .i64 h2.ln) (v4:=.string (st h2.nm)) (v5:=.slice a2 n2 c2) (by omega))
 have HR8:=Xj (HR7.o.s6o (g:=gy) (v0:=.int .i64 h2.k) (v1:=.int .i64 h2.op) (v2:=.int .i64 h2.v) (v3:=.int .i64 h2.ln) (v4:=.string (st h2.nm)) (v5:=.slice a2 n2 c2) (by omega))
 have HM8:=Xj (HM7.o.s6 (b:=gy) (by omega) (.int .i64 h2.k) (.int .i64 h2.op) (.int .i64 h2.v) (.int .i64 h2.ln) (.string (st h2.nm)) (.slice a2 n2 c2))
 have hzg:=Xj (Xc (Yv (v0:=.int .i64 h2.k) (v1:=.int .i64 h2.op) (v2:=.int .i64 h2.v) (v3:=.int .i64 h2.ln) (v4:=.string (st h2.nm)) (v5:=.slice a2 n2 c2) hzq.o (λ b hb=>hb.2)) (λ b hb _=>hb.1))
 have hjm:Xq ((ok2=true/\∃ ar2,Ps .an r.tail (.ok (Xh h2 ar2) r7)/\Xk (set6 w7 gy (.int .i64 h2.k) (.int .i64 h2.op) (.int .i64 h2.v) (.int .i64 h2.ln) (.string (st h2.nm)) (.slice a2 n2 c2)) (TBk w gR gx) ar2 (.slice a2 n2 c2)/\r7.length<r.tail.length)\/(ok2=false/\Ps .an r.tail (.bad r7))):=Xj (by
  rcases hR.o with⟨h1,ar2,h2',h3,h4⟩|hr
  ·exact .inl ⟨h1,ar2,h2',Xc (Yv h3 (λ b hb=>by omega)) (λ b hb _=>⟨by omega,by omega,by omega⟩),h4⟩
  exact .inr hr)
 clear hR hp7 hg7 HM7 HR7 HX7 HY7 hzq
 go_upto_region 7 with fail
 obtain⟨w8,hw8⟩:∃ W,set6 w7 gy (.int .i64 h2.k) (.int .i64 h2.op) (.int .i64 h2.v) (.int .i64 h2.ln) (.string (st h2.nm)) (.slice a2 n2 c2)=W:=⟨_,rfl⟩
 have hqm:=hw8
 unfold set6 at hqm
 (try rw[hqm])
 rw[hw8] at HY8 HX8 HR8 HM8 hzg hjm
 clear hw8 hqm q0 q1 q2 q3 q4 q5 k0 k1 k2 k3 k4 k5 v0 v1 v2 v3 v4 v5 u0 u1 u2 u3 u4 u5 hvk hxy
 obtain⟨q0,q1,q2,q3,q4,q5⟩:=HX8.o.cells
 obtain⟨k0,k1,k2,k3,k4,k5⟩:=HX8.o.froz
 obtain⟨v0,v1,v2,v3,v4,v5⟩:=HY8.o.cells
 have hwr:=HX8.o.lt
 have hkj:=HY8.o.lt
 have hZ:∀ W,W=(set6 w8 gx (.int .i64 (Hd.k ⟨8,0,0,tn,[]⟩)) (.int .i64 (Hd.op ⟨8,0,0,tn,[]⟩)) (.int .i64 0) (.int .i64 (Hd.ln ⟨8,0,0,tn,[]⟩)) (.string { data := #[] }) (.slice (some ⟨w8.heap.size,0,none⟩) 2 2)).alloc (.cells #[.int .i64 h.k,.int .i64 h.op,.int .i64 h.v,.int .i64 h.ln,.string (st h.nm),.slice a n c,.int .i64 h2.k,.int .i64 h2.op,.int .i64 h2.v,.int .i64 h2.ln,.string (st h2.nm),.slice a2 n2 c2] 37) ->
   LI K w gR gx .ex .exL rest ⟨8,0,0,tn,[]⟩ (some ⟨w8.heap.size,0,none⟩) 2 2 ok2 at7 r7 W:=λ W hW=>by
  rw[<- Zw _ HX8.o.lt] at hW
  have hA:=HX8.o.al (.cells #[.int .i64 h.k,.int .i64 h.op,.int .i64 h.v,.int .i64 h.ln,.string (st h.nm),.slice a n c,.int .i64 h2.k,.int .i64 h2.op,.int .i64 h2.v,.int .i64 h2.ln,.string (st h2.nm),.slice a2 n2 c2] 37)
  subst hW
  refine⟨(HM8.o.al _).s6 (by omega) _ _ _ _ _ _,(HR8.o.al _).s6o (by omega),hA.s6 ⟨8,0,0,tn,[]⟩ (.slice (some ⟨w8.heap.size,0,none⟩) 2 2),by have:=HRT.o;have:=HL.o.le;omega,?_⟩
  rcases hjm.o with⟨h1,ar2,h2,h3,h4⟩|⟨h1,h2⟩
  ·refine .inl ⟨h1,(Xh h ar).app (Xh _ ar2),λ z hz=>HCO.o z (Ps.exL_ok HT.o h2 (by rw[HLN.o];exact hz)),?_,by have:=HRT.o;have:=HLT.o;omega⟩
   exact Yv (Ur hzg.o h3 (λ b hb _=>hb) ⟨by have:=HM8.o.gr.size;omega,by have:=HR8.o.lt;omega,by have:=HX8.o.lt;omega⟩) (λ b hb=>hb.2.2)
  exact .inr ⟨h1,HCO.o _ (Ps.exL_bad HT.o h2)⟩
 have hjy:=Xj hZ
 clear hZ
 go_wp2_with fail
 go_roundw
 case rel=>exact⟨⟨8,0,0,tn,[]⟩,some ⟨w8.heap.size,0,none⟩,2,2,ok2,at7,r7,rfl,Xj (hjy.o _ rfl)⟩
 have h1:=(hjy.o _ rfl).ms.pat.natAt
 have h2:=HL.o.ms.pat.natAt
 have h3:=HL.o.ms.pat.lt.1
 unfold set6 at h1
 rw[h2]
 simp only[World.setCell_alloc_past] at h1 ⊢
 first|(rw[h1];omega)|(simp at h1;rw[h1];omega)
theorem xjg (m:Nat) (hA:CE 145 .cm m):CE 97 .an m:=by
 intro K at_ rest w hP hm
 have HM1:=Xj ((MS.init hP).al zex)
 have HR1:=Xj (Lc.zero w)
 have HA:=Xj hA
 have HMm:=Xj hm
 clear hA hP hm
 go_enter Tryz.func97,Tryz.ntmps97
 go_upto_region 1 with fail
 obtain⟨w1,hw1⟩:∃ W,w.alloc zex=W:=⟨_,rfl⟩
 obtain⟨gR,hgR⟩:∃ x,w.heap.size=x:=⟨_,rfl⟩
 (try rw[show w.alloc (.cells #[.int .i64 0,.int .i64 0,.int .i64 0,.int .i64 0,.string { data := #[] },.slice none 0 0] 37)=w1 from hw1])
 rw[hw1] at HM1 HR1
 rw[hgR] at HR1
 (try rw[hgR])
 have HGR:=Xj hgR
 have HS1:Xq (w1.heap.size=gR+1):=Xj (by rw[<- hw1,<- hgR];simp)
 clear hw1 hgR
 go_wp2_with fail
 refine(HA.o K at_ rest _ HM1.o.pat HMm.o).mono ?_
 rintro e w2 ⟨h,a,n,c,ok,at2,r,rfl,hp2,hjb,hg2,hI⟩
 have HM2:=Xj (HM1.o.call hp2 hg2)
 have HR2:=Xj (HR1.o.gr hg2 (by have:=HM1.o.gl;have:=HGR.o;omega))
 have hs2:=hg2.size
 have HM3:=Xj (HM2.o.al (.cells (ecs h (.slice a n c)) 37))
 have HR3:=Xj (HR2.o.al (.cells (ecs h (.slice a n c)) 37))
 have HX3:=Xj (Lc.new w2 h (.slice a n c))
 have H9:Xq ((ok=true/\∃ ar,(∀ z,Ps (.anL (Xh h ar)) r z->Ps .an rest z)/\Xk (w2.alloc (.cells (ecs h (.slice a n c)) 37)) (TBk w gR w2.heap.size) ar (.slice a n c)/\r.length<rest.length)\/(ok=false/\Ps .an rest (.bad r))):=Xj (by
  rcases hI.o with⟨h1,ar,h2,h3,h4⟩|⟨h1,h2⟩
  ·exact .inl ⟨h1,ar,λ z hz=>Ps.an_ok h2 hz,Xc (Yl _ h3) (λ b hb _=>⟨by have:=hb.1;have:=HS1.o;have:=HGR.o;omega,by have:=hb.1;have:=HS1.o;omega,hb.2⟩),h4⟩
  exact .inr ⟨h1,Ps.an_bad h2⟩)
 clear hI hp2 hg2
 go_upto_block 0 with fail
 obtain⟨w3,hw3⟩:∃ W,w2.alloc (.cells (ecs h (.slice a n c)) 37)=W:=⟨_,rfl⟩
 obtain⟨gx,hgx⟩:∃ x,w2.heap.size=x:=⟨_,rfl⟩
 (try rw[show w2.alloc (.cells #[.int .i64 h.k,.int .i64 h.op,.int .i64 h.v,.int .i64 h.ln,.string (st h.nm),.slice a n c] 37)=w3 from hw3])
 rw[hw3] at HM3 HR3 HX3 H9
 rw[hgx] at HX3 H9
 (try rw[hgx])
 have HGX:Xq (gR<gx):=Xj (by have:=HS1.o;omega)
 have HLE:=Xj hjb
 clear hw3 hgx hs2 hjb HM2 HR2 HM1 HR1
 go_wp2_with fail
 go_loopw [5] (λ v5 wr=>∃ (h:Hd) (a:Option Addr) (n c:Nat) (ok:Bool) (at2:Nat) (r:List Tk),v5=.bool ok/\Xq (LI K w gR gx .an .anL rest h a n c ok at2 r wr)) (λ _ wr=>K.ts.length-natAt wr K.g)
 case atStart=>exact⟨h,a,n,c,ok,at2,r,rfl,Xj ⟨HM3.o,HR3.o,HX3.o,HLE.o,H9.o⟩⟩
 rename World=>wa
 obtain⟨h,a,n,c,ok,at2,r,rfl,HL⟩:=hrel
 obtain⟨x0,x1,x2,x3,x4,x5⟩:=HL.o.xc.cells
 obtain⟨g0,g1,g2,g3,g4,g5⟩:=HL.o.rc.froz
 obtain⟨y0,y1,y2,y3,y4,y5⟩:=HL.o.rc.cells
 have hlR:=HL.o.rc.lt
 have hlX:=HL.o.xc.lt
 have hgg:=HL.o.ms.gl
 have hxv:=HGR.o
 have hyx:=HGX.o
 have hqn:∀ (ok2:Bool),((ok2=true/\∃ ar,Ps .an rest (.ok (Xh h ar) r)/\Xk wa (TBk w gR gx) ar (.slice a n c)/\r.length<rest.length)\/(ok2=false/\Ps .an rest (.bad r)))->EP K .an rest w (.returned (.tuple #[exv h (.slice a n c),.bool ok2])) (set6 wa gR (.int .i64 h.k) (.int .i64 h.op) (.int .i64 h.v) (.int .i64 h.ln) (.string (st h.nm)) (.slice a n c)):=λ ok2 hr=>by
  have hms:=HL.o.ms.s6 (b:=gR) (by omega) (.int .i64 h.k) (.int .i64 h.op) (.int .i64 h.v) (.int .i64 h.ln) (.string (st h.nm)) (.slice a n c)
  refine⟨h,a,n,c,ok2,at2,r,rfl,hms.pat,HL.o.le,hms.gr,Xj ?_⟩
  rcases hr with⟨h1,ar,h2,h3,h4⟩|hr
  ·exact .inl ⟨h1,ar,h2,Xc (Yv h3 (λ b hb=>hb.2.1)) (λ b hb _=>hb.1),h4⟩
  exact .inr hr
 have hjw:=Xj hqn
 have HD0:=Xj (HL.o.rc.s6 h (.slice a n c))
 clear hqn
 cases ok
 ·have HB:Xq (Ps .an rest (.bad r)):=Xj (by
   rcases HL.o.res with⟨h1,_⟩|⟨_,h1⟩
   ·cases h1
   exact h1)
  go_wp2_with fail
  obtain⟨wz,hwz⟩:∃ W,set6 wa gR (.int .i64 h.k) (.int .i64 h.op) (.int .i64 h.v) (.int .i64 h.ln) (.string (st h.nm)) (.slice a n c)=W:=⟨_,rfl⟩
  have hY:=hwz
  unfold set6 at hY
  (try rw[hY])
  rw[hwz] at HD0 hjw
  obtain⟨d0,d1,d2,d3,d4,d5⟩:=HD0.o.cells
  refine bodyPost_ret (v:=.tuple #[exv h (.slice a n c),.bool false]) (by simp[results,Tryz.results97,go_sem,d0,d1,d2,d3,d4,d5]) rfl ?_
  exact hjw.o _ (.inr ⟨rfl,HB.o⟩)
 obtain⟨ar,hjh,har,hlt⟩:∃ ar,(∀ z,Ps (.anL (Xh h ar)) r z->Ps .an rest z)/\Xk wa (TBk w gR gx) ar (.slice a n c)/\r.length<rest.length:=by
  rcases HL.o.res with⟨_,h1⟩|⟨h1,_⟩
  ·exact h1
  cases h1
 have HCO:=Xj hjh
 have HAR:=Xj har
 have HLT:=Xj hlt
 clear hjh har hlt
 have HIS:=Xj (Dx K at2 r [38,38] wa HL.o.ms.pat)
 clear x0 x1 x2 x3 x4 x5 y0 y1 y2 y3 y4 y5 g0 g1 g2 g3 g4 g5
 go_wp2_with fail
 refine HIS.o.mono ?_
 rintro e w4 ⟨rfl,hb4⟩
 have HM4:=Xj (HL.o.ms.be hb4)
 have HR4:=Xj (HL.o.rc.be hb4)
 have HX4:=Xj (HL.o.xc.be hb4)
 have hqg:=Xj (HAR.o.keep (Q:=TBk w gR gx) (λ b hb hlt=>⟨hb4.block b hlt,hb⟩) hb4.size)
 have HS4:=Xj hb4.size
 clear hb4 hjw HD0
 cases hT:isT [38,38] r
 ·have HD4:=Xj (HR4.o.s6 h (.slice a n c))
  have HZ:Xq (Ps .an rest (.ok (Xh h ar) r)):=Xj (HCO.o _ (Ps.anL_end hT))
  obtain⟨x0,x1,x2,x3,x4,x5⟩:=HX4.o.cells
  obtain⟨g0,g1,g2,g3,g4,g5⟩:=HR4.o.froz
  obtain⟨y0,y1,y2,y3,y4,y5⟩:=HR4.o.cells
  have hyv:=HR4.o.lt
  clear hT
  go_wp2_with fail
  obtain⟨wz,hwz⟩:∃ W,set6 w4 gR (.int .i64 h.k) (.int .i64 h.op) (.int .i64 h.v) (.int .i64 h.ln) (.string (st h.nm)) (.slice a n c)=W:=⟨_,rfl⟩
  have HMZ:=Xj (HM4.o.s6 (b:=gR) (by omega) (.int .i64 h.k) (.int .i64 h.op) (.int .i64 h.v) (.int .i64 h.ln) (.string (st h.nm)) (.slice a n c))
  have HAZ:=Xj (Yv (v0:=.int .i64 h.k) (v1:=.int .i64 h.op) (v2:=.int .i64 h.v) (v3:=.int .i64 h.ln) (v4:=.string (st h.nm)) (v5:=.slice a n c) hqg.o (λ b hb=>hb.2.1))
  have hY:=hwz
  unfold set6 at hY
  (try rw[hY])
  rw[hwz] at HD4 HMZ HAZ
  obtain⟨d0,d1,d2,d3,d4,d5⟩:=HD4.o.cells
  refine bodyPost_ret (v:=.tuple #[exv h (.slice a n c),.bool true]) (by simp[results,Tryz.results97,go_sem,d0,d1,d2,d3,d4,d5]) rfl ?_
  exact⟨h,a,n,c,true,at2,r,rfl,HMZ.o.pat,HL.o.le,HMZ.o.gr,Xj (.inl ⟨rfl,ar,HZ.o,Xc HAZ.o (λ b hb _=>hb.1),HLT.o⟩)⟩
 have HT:=Xj hT
 have HK0:Xq (kOf r≠0):=Xj (Zt hT).2.2.1
 obtain⟨⟨tk,tn,tv,tt⟩,r0,hr0⟩:=HM4.o.pat.en.cons
 have HLO:=Xj (Zb K at2 tk tn tv tt r0 w4 (hr0▸HM4.o.pat))
 have HLN:Xq (Yc r=tn):=Xj (by rw[hr0];rfl)
 have HRT:Xq (r.tail.length<r.length):=Xj (by rw[hr0];simp)
 have hfd:∀ W:World,(Instr.field 103 (.agg #[.int .i64 tk,.int .i64 tn,.int .i64 tv,.string (st tt)]) 1).run Tryz.prog W=.ok (.int .i64 tn) W:=λ _=>by kernel_rfl
 clear hT hr0
 go_wp2_with fail
 refine HLO.o.mono ?_
 rintro e w5 ⟨rfl,hb5⟩
 have HM5:=Xj (HM4.o.be hb5)
 have HR5:=Xj (HR4.o.be hb5)
 have HX5:=Xj (HX4.o.be hb5)
 have hmu:=Xj (hqg.o.keep (Q:=TBk w gR gx) (λ b hb hlt=>⟨hb5.block b hlt,hb⟩) hb5.size)
 obtain⟨-,p1,-,f1,-,hlp⟩:=HM5.o.pat.cells
 have hw1:=HM5.o.w1
 have HM6:=Xj ((HM5.o.step HK0.o).al zex)
 have HR6:=Xj ((HR5.o.s1 (p:=⟨K.g,1,none⟩) (v:=.int .i64 ((at2:Int)+1)) (by show gR≠K.g;omega)).al zex)
 have HX6:=Xj ((HX5.o.s1 (p:=⟨K.g,1,none⟩) (v:=.int .i64 ((at2:Int)+1)) (by show gx≠K.g;omega)).al zex)
 have HY6:=Xj (Lc.zero (w5.setCell ⟨K.g,1,none⟩ (.int .i64 ((at2:Int)+1))))
 have hzu:=Xj (Yl zex (Qh (p:=⟨K.g,1,none⟩) (v:=.int .i64 ((at2:Int)+1)) hmu.o (λ b hb=>by show b≠K.g;have:=hb.1;omega)))
 clear hb5 HM4 HR4 HX4 hqg
 go_upto_region 6 with fail
 obtain⟨w6,hw6⟩:∃ W,(w5.setCell ⟨K.g,1,none⟩ (.int .i64 ((at2:Int)+1))).alloc zex=W:=⟨_,rfl⟩
 obtain⟨gy,hgy⟩:∃ x,w5.heap.size=x:=⟨_,rfl⟩
 have hvw:Xq (gx<gy):=Xj (by rw[<- hgy];exact HX5.o.lt)
 have HGY:Xq (w6.heap.size=gy+1):=Xj (by rw[<- hw6,<- hgy];simp[World.setCell])
 (try rw[show (w5.setCell ⟨K.g,1,none⟩ (.int .i64 ((at2:Int)+1))).alloc (.cells #[.int .i64 0,.int .i64 0,.int .i64 0,.int .i64 0,.string { data := #[] },.slice none 0 0] 37)=w6 from hw6])
 have hzb:(w5.setCell ⟨K.g,1,none⟩ (.int .i64 ((at2:Int)+1))).heap.size=gy:=by rw[<- hgy];simp[World.setCell]
 rw[hw6,hzb] at HY6 hzu
 rw[hw6] at HM6 HR6 HX6
 (try rw[hgy])
 have hmb:=hvw.o
 have hmp:=HGY.o
 clear hw6 hgy hzb
 go_wp2_with fail
 refine(HA.o K (at2+1) r.tail _ HM6.o.pat (by have:=HRT.o;have:=HL.o.le;have:=HMm.o;omega)).mono ?_
 rintro e w7 ⟨h2,a2,n2,c2,ok2,at7,r7,rfl,hp7,HJ,hg7,hR⟩
 have hs7:=hg7.size
 have HM7:=Xj (HM6.o.call hp7 hg7)
 have HR7:=Xj (HR6.o.gr hg7 (by omega))
 have HX7:=Xj (HX6.o.gr hg7 (by omega))
 have HY7:=Xj (HY6.o.gr hg7 (by omega))
 have hzq:=Xj (Zq hzu.o hg7 (λ b hb=>by have:=hb.1.1;omega))
 have hmg:at2<at7:=by
  have h1:=HM7.o.pat.lt.2
  have h2:=HL.o.ms.pat.lt.2
  have h3:=HRT.o
  omega
 obtain⟨q0,q1,q2,q3,q4,q5⟩:=HX7.o.cells
 obtain⟨k0,k1,k2,k3,k4,k5⟩:=HX7.o.froz
 obtain⟨v0,v1,v2,v3,v4,v5⟩:=HY7.o.froz
 obtain⟨u0,u1,u2,u3,u4,u5⟩:=HY7.o.cells
 have hvk:=HX7.o.lt
 have hxy:=HY7.o.lt
 have HY8:=Xj (HY7.o.s6 h2 (.slice a2 n2 c2))
 have HX8:=Xj (HX7.o.s6o (g:=gy) (v0:=.int .i64 h2.k) (v1:=.int .i64 h2.op) (v2:=.int .i64 h2.v) (v3:=.int .i64 h2.ln) (v4:=.string (st h2.nm)) (v5:=.slice a2 n2 c2) (by omega))
 have HR8:=Xj (HR7.o.s6o (g:=gy) (v0:=.int .i64 h2.k) (v1:=.int .i64 h2.op) (v2:=.int .i64 h2.v) (v3:=.int .i64 h2.ln) (v4:=.string (st h2.nm)) (v5:=.slice a2 n2 c2) (by omega))
 have HM8:=Xj (HM7.o.s6 (b:=gy) (by omega) (.int .i64 h2.k) (.int .i64 h2.op) (.int .i64 h2.v) (.int .i64 h2.ln) (.string (st h2.nm)) (.slice a2 n2 c2))
 have hzg:=Xj (Xc (Yv (v0:=.int .i64 h2.k) (v1:=.int .i64 h2.op) (v2:=.int .i64 h2.v) (v3:=.int .i64 h2.ln) (v4:=.string (st h2.nm)) (v5:=.slice a2 n2 c2) hzq.o (λ b hb=>hb.2)) (λ b hb _=>hb.1))
 have hjm:Xq ((ok2=true/\∃ ar2,Ps .cm r.tail (.ok (Xh h2 ar2) r7)/\Xk (set6 w7 gy (.int .i64 h2.k) (.int .i64 h2.op) (.int .i64 h2.v) (.int .i64 h2.ln) (.string (st h2.nm)) (.slice a2 n2 c2)) (TBk w gR gx) ar2 (.slice a2 n2 c2)/\r7.length<r.tail.length)\/(ok2=false/\Ps .cm r.tail (.bad r7))):=Xj (by
  rcases hR.o with⟨h1,ar2,h2',h3,h4⟩|hr
  ·exact .inl ⟨h1,ar2,h2',Xc (Yv h3 (λ b hb=>by omega)) (λ b hb _=>⟨by omega,by omega,by omega⟩),h4⟩
  exact .inr hr)
 clear hR hp7 hg7 HM7 HR7 HX7 HY7 hzq
 go_upto_region 7 with fail
 obtain⟨w8,hw8⟩:∃ W,set6 w7 gy (.int .i64 h2.k) (.int .i64 h2.op) (.int .i64 h2.v) (.int .i64 h2.ln) (.string (st h2.nm)) (.slice a2 n2 c2)=W:=⟨_,rfl⟩
 have hqm:=hw8
 unfold set6 at hqm
 (try rw[hqm])
 rw[hw8] at HY8 HX8 HR8 HM8 hzg hjm
 clear hw8 hqm q0 q1 q2 q3 q4 q5 k0 k1 k2 k3 k4 k5 v0 v1 v2 v3 v4 v5 u0 u1 u2 u3 u4 u5 hvk hxy
 obtain⟨q0,q1,q2,q3,q4,q5⟩:=HX8.o.cells
 obtain⟨k0,k1,k2,k3,k4,k5⟩:=HX8.o.froz
 obtain⟨v0,v1,v2,v3,v4,v5⟩:=HY8.o.cells
 have hwr:=HX8.o.lt
 have hkj:=HY8.o.lt
 have hZ:∀ W,W=(set6 w8 gx (.int .i64 (Hd.k ⟨7,0,0,tn,[]⟩)) (.int .i64 (Hd.op ⟨7,0,0,tn,[]⟩)) (.int .i64 0) (.int .i64 (Hd.ln ⟨7,0,0,tn,[]⟩)) (.string { data := #[] }) (.slice (some ⟨w8.heap.size,0,none⟩) 2 2)).alloc (.cells #[.int .i64 h.k,.int .i64 h.op,.int .i64 h.v,.int .i64 h.ln,.string (st h.nm),.slice a n c,.int .i64 h2.k,.int .i64 h2.op,.int .i64 h2.v,.int .i64 h2.ln,.string (st h2.nm),.slice a2 n2 c2] 37) ->
   LI K w gR gx .an .anL rest ⟨7,0,0,tn,[]⟩ (some ⟨w8.heap.size,0,none⟩) 2 2 ok2 at7 r7 W:=λ W hW=>by
  rw[<- Zw _ HX8.o.lt] at hW
  have hA:=HX8.o.al (.cells #[.int .i64 h.k,.int .i64 h.op,.int .i64 h.v,.int .i64 h.ln,.string (st h.nm),.slice a n c,.int .i64 h2.k,.int .i64 h2.op,.int .i64 h2.v,.int .i64 h2.ln,.string (st h2.nm),.slice a2 n2 c2] 37)
  subst hW
  refine⟨(HM8.o.al _).s6 (by omega) _ _ _ _ _ _,(HR8.o.al _).s6o (by omega),hA.s6 ⟨7,0,0,tn,[]⟩ (.slice (some ⟨w8.heap.size,0,none⟩) 2 2),by have:=HRT.o;have:=HL.o.le;omega,?_⟩
  rcases hjm.o with⟨h1,ar2,h2,h3,h4⟩|⟨h1,h2⟩
  ·refine .inl ⟨h1,(Xh h ar).app (Xh _ ar2),λ z hz=>HCO.o z (Ps.anL_ok HT.o h2 (by rw[HLN.o];exact hz)),?_,by have:=HRT.o;have:=HLT.o;omega⟩
   exact Yv (Ur hzg.o h3 (λ b hb _=>hb) ⟨by have:=HM8.o.gr.size;omega,by have:=HR8.o.lt;omega,by have:=HX8.o.lt;omega⟩) (λ b hb=>hb.2.2)
  exact .inr ⟨h1,HCO.o _ (Ps.anL_bad HT.o h2)⟩
 have hjy:=Xj hZ
 clear hZ
 go_wp2_with fail
 go_roundw
 case rel=>exact⟨⟨7,0,0,tn,[]⟩,some ⟨w8.heap.size,0,none⟩,2,2,ok2,at7,r7,rfl,Xj (hjy.o _ rfl)⟩
 have h1:=(hjy.o _ rfl).ms.pat.natAt
 have h2:=HL.o.ms.pat.natAt
 have h3:=HL.o.ms.pat.lt.1
 unfold set6 at h1
 rw[h2]
 simp only[World.setCell_alloc_past] at h1 ⊢
 first|(rw[h1];omega)|(simp at h1;rw[h1];omega)
theorem xjq (m:Nat) (hA:CE 189 .te m):CE 169 .su m:=by
 intro K at_ rest w hP hm
 have HM1:=Xj ((MS.init hP).al zex)
 have HR1:=Xj (Lc.zero w)
 have HA:=Xj hA
 have HMm:=Xj hm
 clear hA hP hm
 go_enter Tryz.func169,Tryz.ntmps169
 go_upto_region 1 with fail
 obtain⟨w1,hw1⟩:∃ W,w.alloc zex=W:=⟨_,rfl⟩
 obtain⟨gR,hgR⟩:∃ x,w.heap.size=x:=⟨_,rfl⟩
 (try rw[show w.alloc (.cells #[.int .i64 0,.int .i64 0,.int .i64 0,.int .i64 0,.string { data := #[] },.slice none 0 0] 37)=w1 from hw1])
 rw[hw1] at HM1 HR1
 rw[hgR] at HR1
 (try rw[hgR])
 have HGR:=Xj hgR
 have HS1:Xq (w1.heap.size=gR+1):=Xj (by rw[<- hw1,<- hgR];simp)
 clear hw1 hgR
 go_wp2_with fail
 refine(HA.o K at_ rest _ HM1.o.pat HMm.o).mono ?_
 rintro e w2 ⟨h,a,n,c,ok,at2,r,rfl,hp2,hjb,hg2,hI⟩
 have HM2:=Xj (HM1.o.call hp2 hg2)
 have HR2:=Xj (HR1.o.gr hg2 (by have:=HM1.o.gl;have:=HGR.o;omega))
 have hs2:=hg2.size
 have HM3:=Xj (HM2.o.al (.cells (ecs h (.slice a n c)) 37))
 have HR3:=Xj (HR2.o.al (.cells (ecs h (.slice a n c)) 37))
 have HX3:=Xj (Lc.new w2 h (.slice a n c))
 have H9:Xq ((ok=true/\∃ ar,(∀ z,Ps (.suL (Xh h ar)) r z->Ps .su rest z)/\Xk (w2.alloc (.cells (ecs h (.slice a n c)) 37)) (TBk w gR w2.heap.size) ar (.slice a n c)/\r.length<rest.length)\/(ok=false/\Ps .su rest (.bad r))):=Xj (by
  rcases hI.o with⟨h1,ar,h2,h3,h4⟩|⟨h1,h2⟩
  ·exact .inl ⟨h1,ar,λ z hz=>Ps.su_ok h2 hz,Xc (Yl _ h3) (λ b hb _=>⟨by have:=hb.1;have:=HS1.o;have:=HGR.o;omega,by have:=hb.1;have:=HS1.o;omega,hb.2⟩),h4⟩
  exact .inr ⟨h1,Ps.su_bad h2⟩)
 clear hI hp2 hg2
 go_upto_block 0 with fail
 obtain⟨w3,hw3⟩:∃ W,w2.alloc (.cells (ecs h (.slice a n c)) 37)=W:=⟨_,rfl⟩
 obtain⟨gx,hgx⟩:∃ x,w2.heap.size=x:=⟨_,rfl⟩
 (try rw[show w2.alloc (.cells #[.int .i64 h.k,.int .i64 h.op,.int .i64 h.v,.int .i64 h.ln,.string (st h.nm),.slice a n c] 37)=w3 from hw3])
 rw[hw3] at HM3 HR3 HX3 H9
 rw[hgx] at HX3 H9
 (try rw[hgx])
 have HGX:Xq (gR<gx):=Xj (by have:=HS1.o;omega)
 have HLE:=Xj hjb
 clear hw3 hgx hs2 hjb HM2 HR2 HM1 HR1
 go_wp2_with fail
 go_loopw [5] (λ v5 wr=>∃ (h:Hd) (a:Option Addr) (n c:Nat) (ok:Bool) (at2:Nat) (r:List Tk),v5=.bool ok/\Xq (LI K w gR gx .su .suL rest h a n c ok at2 r wr)) (λ _ wr=>K.ts.length-natAt wr K.g)
 case atStart=>exact⟨h,a,n,c,ok,at2,r,rfl,Xj ⟨HM3.o,HR3.o,HX3.o,HLE.o,H9.o⟩⟩
 rename World=>wa
 obtain⟨h,a,n,c,ok,at2,r,rfl,HL⟩:=hrel
 obtain⟨x0,x1,x2,x3,x4,x5⟩:=HL.o.xc.cells
 obtain⟨g0,g1,g2,g3,g4,g5⟩:=HL.o.rc.froz
 obtain⟨y0,y1,y2,y3,y4,y5⟩:=HL.o.rc.cells
 have hlR:=HL.o.rc.lt
 have hlX:=HL.o.xc.lt
 have hgg:=HL.o.ms.gl
 have hxv:=HGR.o
 have hyx:=HGX.o
 have hqn:∀ (ok2:Bool),((ok2=true/\∃ ar,Ps .su rest (.ok (Xh h ar) r)/\Xk wa (TBk w gR gx) ar (.slice a n c)/\r.length<rest.length)\/(ok2=false/\Ps .su rest (.bad r)))->EP K .su rest w (.returned (.tuple #[exv h (.slice a n c),.bool ok2])) (set6 wa gR (.int .i64 h.k) (.int .i64 h.op) (.int .i64 h.v) (.int .i64 h.ln) (.string (st h.nm)) (.slice a n c)):=λ ok2 hr=>by
  have hms:=HL.o.ms.s6 (b:=gR) (by omega) (.int .i64 h.k) (.int .i64 h.op) (.int .i64 h.v) (.int .i64 h.ln) (.string (st h.nm)) (.slice a n c)
  refine⟨h,a,n,c,ok2,at2,r,rfl,hms.pat,HL.o.le,hms.gr,Xj ?_⟩
  rcases hr with⟨h1,ar,h2,h3,h4⟩|hr
  ·exact .inl ⟨h1,ar,h2,Xc (Yv h3 (λ b hb=>hb.2.1)) (λ b hb _=>hb.1),h4⟩
  exact .inr hr
 have hjw:=Xj hqn
 have HD0:=Xj (HL.o.rc.s6 h (.slice a n c))
 clear hqn
 cases ok
 ·have HB:Xq (Ps .su rest (.bad r)):=Xj (by
   rcases HL.o.res with⟨h1,_⟩|⟨_,h1⟩
   ·cases h1
   exact h1)
  go_wp2_with fail
  obtain⟨wz,hwz⟩:∃ W,set6 wa gR (.int .i64 h.k) (.int .i64 h.op) (.int .i64 h.v) (.int .i64 h.ln) (.string (st h.nm)) (.slice a n c)=W:=⟨_,rfl⟩
  have hY:=hwz
  unfold set6 at hY
  (try rw[hY])
  rw[hwz] at HD0 hjw
  obtain⟨d0,d1,d2,d3,d4,d5⟩:=HD0.o.cells
  refine bodyPost_ret (v:=.tuple #[exv h (.slice a n c),.bool false]) (by simp[results,Tryz.results169,go_sem,d0,d1,d2,d3,d4,d5]) rfl ?_
  exact hjw.o _ (.inr ⟨rfl,HB.o⟩)
 obtain⟨ar,hjh,har,hlt⟩:∃ ar,(∀ z,Ps (.suL (Xh h ar)) r z->Ps .su rest z)/\Xk wa (TBk w gR gx) ar (.slice a n c)/\r.length<rest.length:=by
  rcases HL.o.res with⟨_,h1⟩|⟨h1,_⟩
  ·exact h1
  cases h1
 have HCO:=Xj hjh
 have HAR:=Xj har
 have HLT:=Xj hlt
 clear hjh har hlt
 have HOP:=Xj (Vx K 3 4 (by omega) at2 r wa HL.o.ms.pat)
 clear x0 x1 x2 x3 x4 x5 y0 y1 y2 y3 y4 y5 g0 g1 g2 g3 g4 g5
 go_wp2_with fail
 refine HOP.o.mono ?_
 rintro e w4 ⟨at4,r4,hp4,hg4,hI⟩
 have HM4:=Xj (HL.o.ms.call hp4 hg4)
 have HR4:=Xj (HL.o.rc.gr hg4 (by omega))
 have HX4:=Xj (HL.o.xc.gr hg4 (by omega))
 have hqg:=Xj (Zq HAR.o hg4 (λ b hb=>by have:=hb.1;omega))
 clear hp4 hg4 hjw HD0
 rcases hI with⟨hT,rfl,rfl,rfl⟩|⟨hT,rfl,rfl,rfl⟩
 ·have HT:=Xj hT
  obtain⟨op,hop⟩:∃ o,Zr 3 4 r=o:=⟨_,rfl⟩
  obtain⟨tn,htn⟩:∃ o,Yc r=o:=⟨_,rfl⟩
  have HLN:=Xj (And.intro hop htn)
  have HRT:Xq (r.tail.length<r.length):=Xj (Jv (by intro e;rw[e] at hT;exact hT rfl))
  have dop:(op==0)=false:=by rw[beq_eq_false_iff_ne,<- hop];exact hT
  (try rw[hop])
  (try rw[htn])
  have HM6:=Xj (HM4.o.al zex)
  have HR6:=Xj (HR4.o.al zex)
  have HX6:=Xj (HX4.o.al zex)
  have HY6:=Xj (Lc.zero w4)
  have hzu:=Xj (Yl zex hqg.o)
  have hmf:=Xj HX4.o.lt
  clear hT hop htn HM4 HR4 HX4 hqg
  go_upto_region 6 with fail
  obtain⟨w6,hw6⟩:∃ W,(w4).alloc zex=W:=⟨_,rfl⟩
  obtain⟨gy,hgy⟩:∃ x,w4.heap.size=x:=⟨_,rfl⟩
  have hvw:Xq (gx<gy):=Xj (by rw[<- hgy];exact hmf.o)
  have HGY:Xq (w6.heap.size=gy+1):=Xj (by rw[<- hw6,<- hgy];simp[World.setCell])
  (try rw[show (w4).alloc (.cells #[.int .i64 0,.int .i64 0,.int .i64 0,.int .i64 0,.string { data := #[] },.slice none 0 0] 37)=w6 from hw6])
  have hzb:(w4).heap.size=gy:=by rw[<- hgy]
  rw[hw6,hzb] at HY6 hzu
  rw[hw6] at HM6 HR6 HX6
  (try rw[hgy])
  have hmb:=hvw.o
  have hmp:=HGY.o
  clear hw6 hgy hzb
  go_wp2_with fail
  refine(HA.o K (at2+1) r.tail _ HM6.o.pat (by have:=HRT.o;have:=HL.o.le;have:=HMm.o;omega)).mono ?_
  rintro e w7 ⟨h2,a2,n2,c2,ok2,at7,r7,rfl,hp7,HJ,hg7,hR⟩
  have hs7:=hg7.size
  have HM7:=Xj (HM6.o.call hp7 hg7)
  have HR7:=Xj (HR6.o.gr hg7 (by omega))
  have HX7:=Xj (HX6.o.gr hg7 (by omega))
  have HY7:=Xj (HY6.o.gr hg7 (by omega))
  have hzq:=Xj (Zq hzu.o hg7 (λ b hb=>by have:=hb.1.1;omega))
  have hmg:at2<at7:=by
   have h1:=HM7.o.pat.lt.2
   have h2:=HL.o.ms.pat.lt.2
   have h3:=HRT.o
   omega
  obtain⟨q0,q1,q2,q3,q4,q5⟩:=HX7.o.cells
  obtain⟨k0,k1,k2,k3,k4,k5⟩:=HX7.o.froz
  obtain⟨v0,v1,v2,v3,v4,v5⟩:=HY7.o.froz
  obtain⟨u0,u1,u2,u3,u4,u5⟩:=HY7.o.cells
  have hvk:=HX7.o.lt
  have hxy:=HY7.o.lt
  have HY8:=Xj (HY7.o.s6 h2 (.slice a2 n2 c2))
  have HX8:=Xj (HX7.o.s6o (g:=gy) (v0:=.int .i64 h2.k) (v1:=.int .i64 h2.op) (v2:=.int .i64 h2.v) (v3:=.int .i64 h2.ln) (v4:=.string (st h2.nm)) (v5:=.slice a2 n2 c2) (by omega))
  have HR8:=Xj (HR7.o.s6o (g:=gy) (v0:=.int .i64 h2.k) (v1:=.int .i64 h2.op) (v2:=.int .i64 h2.v) (v3:=.int .i64 h2.ln) (v4:=.string (st h2.nm)) (v5:=.slice a2 n2 c2) (by omega))
  have HM8:=Xj (HM7.o.s6 (b:=gy) (by omega) (.int .i64 h2.k) (.int .i64 h2.op) (.int .i64 h2.v) (.int .i64 h2.ln) (.string (st h2.nm)) (.slice a2 n2 c2))
  have hzg:=Xj (Xc (Yv (v0:=.int .i64 h2.k) (v1:=.int .i64 h2.op) (v2:=.int .i64 h2.v) (v3:=.int .i64 h2.ln) (v4:=.string (st h2.nm)) (v5:=.slice a2 n2 c2) hzq.o (λ b hb=>hb.2)) (λ b hb _=>hb.1))
  have hjm:Xq ((ok2=true/\∃ ar2,Ps .te r.tail (.ok (Xh h2 ar2) r7)/\Xk (set6 w7 gy (.int .i64 h2.k) (.int .i64 h2.op) (.int .i64 h2.v) (.int .i64 h2.ln) (.string (st h2.nm)) (.slice a2 n2 c2)) (TBk w gR gx) ar2 (.slice a2 n2 c2)/\r7.length<r.tail.length)\/(ok2=false/\Ps .te r.tail (.bad r7))):=Xj (by
   rcases hR.o with⟨h1,ar2,h2',h3,h4⟩|hr
   ·exact .inl ⟨h1,ar2,h2',Xc (Yv h3 (λ b hb=>by omega)) (λ b hb _=>⟨by omega,by omega,by omega⟩),h4⟩
   exact .inr hr)
  clear hR hp7 hg7 HM7 HR7 HX7 HY7 hzq
  go_upto_region 7 with fail
  obtain⟨w8,hw8⟩:∃ W,set6 w7 gy (.int .i64 h2.k) (.int .i64 h2.op) (.int .i64 h2.v) (.int .i64 h2.ln) (.string (st h2.nm)) (.slice a2 n2 c2)=W:=⟨_,rfl⟩
  have hqm:=hw8
  unfold set6 at hqm
  (try rw[hqm])
  rw[hw8] at HY8 HX8 HR8 HM8 hzg hjm
  clear hw8 hqm q0 q1 q2 q3 q4 q5 k0 k1 k2 k3 k4 k5 v0 v1 v2 v3 v4 v5 u0 u1 u2 u3 u4 u5 hvk hxy
  obtain⟨q0,q1,q2,q3,q4,q5⟩:=HX8.o.cells
  obtain⟨k0,k1,k2,k3,k4,k5⟩:=HX8.o.froz
  obtain⟨v0,v1,v2,v3,v4,v5⟩:=HY8.o.cells
  have hwr:=HX8.o.lt
  have hkj:=HY8.o.lt
  have hZ:∀ W,W=(set6 w8 gx (.int .i64 (Hd.k ⟨6,op,0,tn,[]⟩)) (.int .i64 (Hd.op ⟨6,op,0,tn,[]⟩)) (.int .i64 0) (.int .i64 (Hd.ln ⟨6,op,0,tn,[]⟩)) (.string { data := #[] }) (.slice (some ⟨w8.heap.size,0,none⟩) 2 2)).alloc (.cells #[.int .i64 h.k,.int .i64 h.op,.int .i64 h.v,.int .i64 h.ln,.string (st h.nm),.slice a n c,.int .i64 h2.k,.int .i64 h2.op,.int .i64 h2.v,.int .i64 h2.ln,.string (st h2.nm),.slice a2 n2 c2] 37) ->
    LI K w gR gx .su .suL rest ⟨6,op,0,tn,[]⟩ (some ⟨w8.heap.size,0,none⟩) 2 2 ok2 at7 r7 W:=λ W hW=>by
   rw[<- Zw _ HX8.o.lt] at hW
   have hA:=HX8.o.al (.cells #[.int .i64 h.k,.int .i64 h.op,.int .i64 h.v,.int .i64 h.ln,.string (st h.nm),.slice a n c,.int .i64 h2.k,.int .i64 h2.op,.int .i64 h2.v,.int .i64 h2.ln,.string (st h2.nm),.slice a2 n2 c2] 37)
   subst hW
   refine⟨(HM8.o.al _).s6 (by omega) _ _ _ _ _ _,(HR8.o.al _).s6o (by omega),hA.s6 ⟨6,op,0,tn,[]⟩ (.slice (some ⟨w8.heap.size,0,none⟩) 2 2),by have:=HRT.o;have:=HL.o.le;omega,?_⟩
   rcases hjm.o with⟨h1,ar2,h2,h3,h4⟩|⟨h1,h2⟩
   ·refine .inl ⟨h1,(Xh h ar).app (Xh _ ar2),λ z hz=>HCO.o z (Ps.suL_ok HT.o h2 (by rw[HLN.o.1,HLN.o.2];exact hz)),?_,by have:=HRT.o;have:=HLT.o;omega⟩
    exact Yv (Ur hzg.o h3 (λ b hb _=>hb) ⟨by have:=HM8.o.gr.size;omega,by have:=HR8.o.lt;omega,by have:=HX8.o.lt;omega⟩) (λ b hb=>hb.2.2)
   exact .inr ⟨h1,HCO.o _ (Ps.suL_bad HT.o h2)⟩
  have hjy:=Xj hZ
  clear hZ
  go_wp2_with fail
  go_roundw
  case rel=>exact⟨⟨6,op,0,tn,[]⟩,some ⟨w8.heap.size,0,none⟩,2,2,ok2,at7,r7,rfl,Xj (hjy.o _ rfl)⟩
  have h1:=(hjy.o _ rfl).ms.pat.natAt
  have h2:=HL.o.ms.pat.natAt
  have h3:=HL.o.ms.pat.lt.1
  unfold set6 at h1
  rw[h2]
  simp only[World.setCell_alloc_past] at h1 ⊢
  first|(rw[h1];omega)|(simp at h1;rw[h1];omega)
 have HD4:=Xj (HR4.o.s6 h (.slice a n c))
 have HZ:Xq (Ps .su rest (.ok (Xh h ar) r4)):=Xj (HCO.o _ (Ps.suL_end hT))
 obtain⟨x0,x1,x2,x3,x4,x5⟩:=HX4.o.cells
 obtain⟨g0,g1,g2,g3,g4,g5⟩:=HR4.o.froz
 obtain⟨y0,y1,y2,y3,y4,y5⟩:=HR4.o.cells
 have hyv:=HR4.o.lt
 clear hT
 go_wp2_with fail
 obtain⟨wz,hwz⟩:∃ W,set6 w4 gR (.int .i64 h.k) (.int .i64 h.op) (.int .i64 h.v) (.int .i64 h.ln) (.string (st h.nm)) (.slice a n c)=W:=⟨_,rfl⟩
 have HMZ:=Xj (HM4.o.s6 (b:=gR) (by omega) (.int .i64 h.k) (.int .i64 h.op) (.int .i64 h.v) (.int .i64 h.ln) (.string (st h.nm)) (.slice a n c))
 have HAZ:=Xj (Yv (v0:=.int .i64 h.k) (v1:=.int .i64 h.op) (v2:=.int .i64 h.v) (v3:=.int .i64 h.ln) (v4:=.string (st h.nm)) (v5:=.slice a n c) hqg.o (λ b hb=>hb.2.1))
 have hY:=hwz
 unfold set6 at hY
 (try rw[hY])
 rw[hwz] at HD4 HMZ HAZ
 obtain⟨d0,d1,d2,d3,d4,d5⟩:=HD4.o.cells
 refine bodyPost_ret (v:=.tuple #[exv h (.slice a n c),.bool true]) (by simp[results,Tryz.results169,go_sem,d0,d1,d2,d3,d4,d5]) rfl ?_
 exact⟨h,a,n,c,true,at4,r4,rfl,HMZ.o.pat,HL.o.le,HMZ.o.gr,Xj (.inl ⟨rfl,ar,HZ.o,Xc HAZ.o (λ b hb _=>hb.1),HLT.o⟩)⟩
theorem Ij (m:Nat) (hA:CE 202 .un m):CE 189 .te m:=by
 intro K at_ rest w hP hm
 have HM1:=Xj ((MS.init hP).al zex)
 have HR1:=Xj (Lc.zero w)
 have HA:=Xj hA
 have HMm:=Xj hm
 clear hA hP hm
 go_enter Tryz.func189,Tryz.ntmps189
 go_upto_region 1 with fail
 obtain⟨w1,hw1⟩:∃ W,w.alloc zex=W:=⟨_,rfl⟩
 obtain⟨gR,hgR⟩:∃ x,w.heap.size=x:=⟨_,rfl⟩
 (try rw[show w.alloc (.cells #[.int .i64 0,.int .i64 0,.int .i64 0,.int .i64 0,.string { data := #[] },.slice none 0 0] 37)=w1 from hw1])
 rw[hw1] at HM1 HR1
 rw[hgR] at HR1
 (try rw[hgR])
 have HGR:=Xj hgR
 have HS1:Xq (w1.heap.size=gR+1):=Xj (by rw[<- hw1,<- hgR];simp)
 clear hw1 hgR
 go_wp2_with fail
 refine(HA.o K at_ rest _ HM1.o.pat HMm.o).mono ?_
 rintro e w2 ⟨h,a,n,c,ok,at2,r,rfl,hp2,hjb,hg2,hI⟩
 have HM2:=Xj (HM1.o.call hp2 hg2)
 have HR2:=Xj (HR1.o.gr hg2 (by have:=HM1.o.gl;have:=HGR.o;omega))
 have hs2:=hg2.size
 have HM3:=Xj (HM2.o.al (.cells (ecs h (.slice a n c)) 37))
 have HR3:=Xj (HR2.o.al (.cells (ecs h (.slice a n c)) 37))
 have HX3:=Xj (Lc.new w2 h (.slice a n c))
 have H9:Xq ((ok=true/\∃ ar,(∀ z,Ps (.teL (Xh h ar)) r z->Ps .te rest z)/\Xk (w2.alloc (.cells (ecs h (.slice a n c)) 37)) (TBk w gR w2.heap.size) ar (.slice a n c)/\r.length<rest.length)\/(ok=false/\Ps .te rest (.bad r))):=Xj (by
  rcases hI.o with⟨h1,ar,h2,h3,h4⟩|⟨h1,h2⟩
  ·exact .inl ⟨h1,ar,λ z hz=>Ps.te_ok h2 hz,Xc (Yl _ h3) (λ b hb _=>⟨by have:=hb.1;have:=HS1.o;have:=HGR.o;omega,by have:=hb.1;have:=HS1.o;omega,hb.2⟩),h4⟩
  exact .inr ⟨h1,Ps.te_bad h2⟩)
 clear hI hp2 hg2
 go_upto_block 0 with fail
 obtain⟨w3,hw3⟩:∃ W,w2.alloc (.cells (ecs h (.slice a n c)) 37)=W:=⟨_,rfl⟩
 obtain⟨gx,hgx⟩:∃ x,w2.heap.size=x:=⟨_,rfl⟩
 (try rw[show w2.alloc (.cells #[.int .i64 h.k,.int .i64 h.op,.int .i64 h.v,.int .i64 h.ln,.string (st h.nm),.slice a n c] 37)=w3 from hw3])
 rw[hw3] at HM3 HR3 HX3 H9
 rw[hgx] at HX3 H9
 (try rw[hgx])
 have HGX:Xq (gR<gx):=Xj (by have:=HS1.o;omega)
 have HLE:=Xj hjb
 clear hw3 hgx hs2 hjb HM2 HR2 HM1 HR1
 go_wp2_with fail
 go_loopw [5] (λ v5 wr=>∃ (h:Hd) (a:Option Addr) (n c:Nat) (ok:Bool) (at2:Nat) (r:List Tk),v5=.bool ok/\Xq (LI K w gR gx .te .teL rest h a n c ok at2 r wr)) (λ _ wr=>K.ts.length-natAt wr K.g)
 case atStart=>exact⟨h,a,n,c,ok,at2,r,rfl,Xj ⟨HM3.o,HR3.o,HX3.o,HLE.o,H9.o⟩⟩
 rename World=>wa
 obtain⟨h,a,n,c,ok,at2,r,rfl,HL⟩:=hrel
 obtain⟨x0,x1,x2,x3,x4,x5⟩:=HL.o.xc.cells
 obtain⟨g0,g1,g2,g3,g4,g5⟩:=HL.o.rc.froz
 obtain⟨y0,y1,y2,y3,y4,y5⟩:=HL.o.rc.cells
 have hlR:=HL.o.rc.lt
 have hlX:=HL.o.xc.lt
 have hgg:=HL.o.ms.gl
 have hxv:=HGR.o
 have hyx:=HGX.o
 have hqn:∀ (ok2:Bool),((ok2=true/\∃ ar,Ps .te rest (.ok (Xh h ar) r)/\Xk wa (TBk w gR gx) ar (.slice a n c)/\r.length<rest.length)\/(ok2=false/\Ps .te rest (.bad r)))->EP K .te rest w (.returned (.tuple #[exv h (.slice a n c),.bool ok2])) (set6 wa gR (.int .i64 h.k) (.int .i64 h.op) (.int .i64 h.v) (.int .i64 h.ln) (.string (st h.nm)) (.slice a n c)):=λ ok2 hr=>by
  have hms:=HL.o.ms.s6 (b:=gR) (by omega) (.int .i64 h.k) (.int .i64 h.op) (.int .i64 h.v) (.int .i64 h.ln) (.string (st h.nm)) (.slice a n c)
  refine⟨h,a,n,c,ok2,at2,r,rfl,hms.pat,HL.o.le,hms.gr,Xj ?_⟩
  rcases hr with⟨h1,ar,h2,h3,h4⟩|hr
  ·exact .inl ⟨h1,ar,h2,Xc (Yv h3 (λ b hb=>hb.2.1)) (λ b hb _=>hb.1),h4⟩
  exact .inr hr
 have hjw:=Xj hqn
 have HD0:=Xj (HL.o.rc.s6 h (.slice a n c))
 clear hqn
 cases ok
 ·have HB:Xq (Ps .te rest (.bad r)):=Xj (by
   rcases HL.o.res with⟨h1,_⟩|⟨_,h1⟩
   ·cases h1
   exact h1)
  go_wp2_with fail
  obtain⟨wz,hwz⟩:∃ W,set6 wa gR (.int .i64 h.k) (.int .i64 h.op) (.int .i64 h.v) (.int .i64 h.ln) (.string (st h.nm)) (.slice a n c)=W:=⟨_,rfl⟩
  have hY:=hwz
  unfold set6 at hY
  (try rw[hY])
  rw[hwz] at HD0 hjw
  obtain⟨d0,d1,d2,d3,d4,d5⟩:=HD0.o.cells
  refine bodyPost_ret (v:=.tuple #[exv h (.slice a n c),.bool false]) (by simp[results,Tryz.results189,go_sem,d0,d1,d2,d3,d4,d5]) rfl ?_
  exact hjw.o _ (.inr ⟨rfl,HB.o⟩)
 obtain⟨ar,hjh,har,hlt⟩:∃ ar,(∀ z,Ps (.teL (Xh h ar)) r z->Ps .te rest z)/\Xk wa (TBk w gR gx) ar (.slice a n c)/\r.length<rest.length:=by
  rcases HL.o.res with⟨_,h1⟩|⟨h1,_⟩
  ·exact h1
  cases h1
 have HCO:=Xj hjh
 have HAR:=Xj har
 have HLT:=Xj hlt
 clear hjh har hlt
 have HOP:=Xj (Vx K 5 7 (by omega) at2 r wa HL.o.ms.pat)
 clear x0 x1 x2 x3 x4 x5 y0 y1 y2 y3 y4 y5 g0 g1 g2 g3 g4 g5
 go_wp2_with fail
 refine HOP.o.mono ?_
 rintro e w4 ⟨at4,r4,hp4,hg4,hI⟩
 have HM4:=Xj (HL.o.ms.call hp4 hg4)
 have HR4:=Xj (HL.o.rc.gr hg4 (by omega))
 have HX4:=Xj (HL.o.xc.gr hg4 (by omega))
 have hqg:=Xj (Zq HAR.o hg4 (λ b hb=>by have:=hb.1;omega))
 clear hp4 hg4 hjw HD0
 rcases hI with⟨hT,rfl,rfl,rfl⟩|⟨hT,rfl,rfl,rfl⟩
 ·have HT:=Xj hT
  obtain⟨op,hop⟩:∃ o,Zr 5 7 r=o:=⟨_,rfl⟩
  obtain⟨tn,htn⟩:∃ o,Yc r=o:=⟨_,rfl⟩
  have HLN:=Xj (And.intro hop htn)
  have HRT:Xq (r.tail.length<r.length):=Xj (Jv (by intro e;rw[e] at hT;exact hT rfl))
  have dop:(op==0)=false:=by rw[beq_eq_false_iff_ne,<- hop];exact hT
  (try rw[hop])
  (try rw[htn])
  have HM6:=Xj (HM4.o.al zex)
  have HR6:=Xj (HR4.o.al zex)
  have HX6:=Xj (HX4.o.al zex)
  have HY6:=Xj (Lc.zero w4)
  have hzu:=Xj (Yl zex hqg.o)
  have hmf:=Xj HX4.o.lt
  clear hT hop htn HM4 HR4 HX4 hqg
  go_upto_region 6 with fail
  obtain⟨w6,hw6⟩:∃ W,(w4).alloc zex=W:=⟨_,rfl⟩
  obtain⟨gy,hgy⟩:∃ x,w4.heap.size=x:=⟨_,rfl⟩
  have hvw:Xq (gx<gy):=Xj (by rw[<- hgy];exact hmf.o)
  have HGY:Xq (w6.heap.size=gy+1):=Xj (by rw[<- hw6,<- hgy];simp[World.setCell])
  (try rw[show (w4).alloc (.cells #[.int .i64 0,.int .i64 0,.int .i64 0,.int .i64 0,.string { data := #[] },.slice none 0 0] 37)=w6 from hw6])
  have hzb:(w4).heap.size=gy:=by rw[<- hgy]
  rw[hw6,hzb] at HY6 hzu
  rw[hw6] at HM6 HR6 HX6
  (try rw[hgy])
  have hmb:=hvw.o
  have hmp:=HGY.o
  clear hw6 hgy hzb
  go_wp2_with fail
  refine(HA.o K (at2+1) r.tail _ HM6.o.pat (by have:=HRT.o;have:=HL.o.le;have:=HMm.o;omega)).mono ?_
  rintro e w7 ⟨h2,a2,n2,c2,ok2,at7,r7,rfl,hp7,HJ,hg7,hR⟩
  have hs7:=hg7.size
  have HM7:=Xj (HM6.o.call hp7 hg7)
  have HR7:=Xj (HR6.o.gr hg7 (by omega))
  have HX7:=Xj (HX6.o.gr hg7 (by omega))
  have HY7:=Xj (HY6.o.gr hg7 (by omega))
  have hzq:=Xj (Zq hzu.o hg7 (λ b hb=>by have:=hb.1.1;omega))
  have hmg:at2<at7:=by
   have h1:=HM7.o.pat.lt.2
   have h2:=HL.o.ms.pat.lt.2
   have h3:=HRT.o
   omega
  obtain⟨q0,q1,q2,q3,q4,q5⟩:=HX7.o.cells
  obtain⟨k0,k1,k2,k3,k4,k5⟩:=HX7.o.froz
  obtain⟨v0,v1,v2,v3,v4,v5⟩:=HY7.o.froz
  obtain⟨u0,u1,u2,u3,u4,u5⟩:=HY7.o.cells
  have hvk:=HX7.o.lt
  have hxy:=HY7.o.lt
  have HY8:=Xj (HY7.o.s6 h2 (.slice a2 n2 c2))
  have HX8:=Xj (HX7.o.s6o (g:=gy) (v0:=.int .i64 h2.k) (v1:=.int .i64 h2.op) (v2:=.int .i64 h2.v) (v3:=.int .i64 h2.ln) (v4:=.string (st h2.nm)) (v5:=.slice a2 n2 c2) (by omega))
  have HR8:=Xj (HR7.o.s6o (g:=gy) (v0:=.int .i64 h2.k) (v1:=.int .i64 h2.op) (v2:=.int .i64 h2.v) (v3:=.int .i64 h2.ln) (v4:=.string (st h2.nm)) (v5:=.slice a2 n2 c2) (by omega))
  have HM8:=Xj (HM7.o.s6 (b:=gy) (by omega) (.int .i64 h2.k) (.int .i64 h2.op) (.int .i64 h2.v) (.int .i64 h2.ln) (.string (st h2.nm)) (.slice a2 n2 c2))
  have hzg:=Xj (Xc (Yv (v0:=.int .i64 h2.k) (v1:=.int .i64 h2.op) (v2:=.int .i64 h2.v) (v3:=.int .i64 h2.ln) (v4:=.string (st h2.nm)) (v5:=.slice a2 n2 c2) hzq.o (λ b hb=>hb.2)) (λ b hb _=>hb.1))
  have hjm:Xq ((ok2=true/\∃ ar2,Ps .un r.tail (.ok (Xh h2 ar2) r7)/\Xk (set6 w7 gy (.int .i64 h2.k) (.int .i64 h2.op) (.int .i64 h2.v) (.int .i64 h2.ln) (.string (st h2.nm)) (.slice a2 n2 c2)) (TBk w gR gx) ar2 (.slice a2 n2 c2)/\r7.length<r.tail.length)\/(ok2=false/\Ps .un r.tail (.bad r7))):=Xj (by
   rcases hR.o with⟨h1,ar2,h2',h3,h4⟩|hr
   ·exact .inl ⟨h1,ar2,h2',Xc (Yv h3 (λ b hb=>by omega)) (λ b hb _=>⟨by omega,by omega,by omega⟩),h4⟩
   exact .inr hr)
  clear hR hp7 hg7 HM7 HR7 HX7 HY7 hzq
  go_upto_region 7 with fail
  obtain⟨w8,hw8⟩:∃ W,set6 w7 gy (.int .i64 h2.k) (.int .i64 h2.op) (.int .i64 h2.v) (.int .i64 h2.ln) (.string (st h2.nm)) (.slice a2 n2 c2)=W:=⟨_,rfl⟩
  have hqm:=hw8
  unfold set6 at hqm
  (try rw[hqm])
  rw[hw8] at HY8 HX8 HR8 HM8 hzg hjm
  clear hw8 hqm q0 q1 q2 q3 q4 q5 k0 k1 k2 k3 k4 k5 v0 v1 v2 v3 v4 v5 u0 u1 u2 u3 u4 u5 hvk hxy
  obtain⟨q0,q1,q2,q3,q4,q5⟩:=HX8.o.cells
  obtain⟨k0,k1,k2,k3,k4,k5⟩:=HX8.o.froz
  obtain⟨v0,v1,v2,v3,v4,v5⟩:=HY8.o.cells
  have hwr:=HX8.o.lt
  have hkj:=HY8.o.lt
  have hZ:∀ W,W=(set6 w8 gx (.int .i64 (Hd.k ⟨6,op,0,tn,[]⟩)) (.int .i64 (Hd.op ⟨6,op,0,tn,[]⟩)) (.int .i64 0) (.int .i64 (Hd.ln ⟨6,op,0,tn,[]⟩)) (.string { data := #[] }) (.slice (some ⟨w8.heap.size,0,none⟩) 2 2)).alloc (.cells #[.int .i64 h.k,.int .i64 h.op,.int .i64 h.v,.int .i64 h.ln,.string (st h.nm),.slice a n c,.int .i64 h2.k,.int .i64 h2.op,.int .i64 h2.v,.int .i64 h2.ln,.string (st h2.nm),.slice a2 n2 c2] 37) ->
    LI K w gR gx .te .teL rest ⟨6,op,0,tn,[]⟩ (some ⟨w8.heap.size,0,none⟩) 2 2 ok2 at7 r7 W:=λ W hW=>by
   rw[<- Zw _ HX8.o.lt] at hW
   have hA:=HX8.o.al (.cells #[.int .i64 h.k,.int .i64 h.op,.int .i64 h.v,.int .i64 h.ln,.string (st h.nm),.slice a n c,.int .i64 h2.k,.int .i64 h2.op,.int .i64 h2.v,.int .i64 h2.ln,.string (st h2.nm),.slice a2 n2 c2] 37)
   subst hW
   refine⟨(HM8.o.al _).s6 (by omega) _ _ _ _ _ _,(HR8.o.al _).s6o (by omega),hA.s6 ⟨6,op,0,tn,[]⟩ (.slice (some ⟨w8.heap.size,0,none⟩) 2 2),by have:=HRT.o;have:=HL.o.le;omega,?_⟩
   rcases hjm.o with⟨h1,ar2,h2,h3,h4⟩|⟨h1,h2⟩
   ·refine .inl ⟨h1,(Xh h ar).app (Xh _ ar2),λ z hz=>HCO.o z (Ps.teL_ok HT.o h2 (by rw[HLN.o.1,HLN.o.2];exact hz)),?_,by have:=HRT.o;have:=HLT.o;omega⟩
    exact Yv (Ur hzg.o h3 (λ b hb _=>hb) ⟨by have:=HM8.o.gr.size;omega,by have:=HR8.o.lt;omega,by have:=HX8.o.lt;omega⟩) (λ b hb=>hb.2.2)
   exact .inr ⟨h1,HCO.o _ (Ps.teL_bad HT.o h2)⟩
  have hjy:=Xj hZ
  clear hZ
  go_wp2_with fail
  go_roundw
  case rel=>exact⟨⟨6,op,0,tn,[]⟩,some ⟨w8.heap.size,0,none⟩,2,2,ok2,at7,r7,rfl,Xj (hjy.o _ rfl)⟩
  have h1:=(hjy.o _ rfl).ms.pat.natAt
  have h2:=HL.o.ms.pat.natAt
  have h3:=HL.o.ms.pat.lt.1
  unfold set6 at h1
  rw[h2]
  simp only[World.setCell_alloc_past] at h1 ⊢
  first|(rw[h1];omega)|(simp at h1;rw[h1];omega)
 have HD4:=Xj (HR4.o.s6 h (.slice a n c))
 have HZ:Xq (Ps .te rest (.ok (Xh h ar) r4)):=Xj (HCO.o _ (Ps.teL_end hT))
 obtain⟨x0,x1,x2,x3,x4,x5⟩:=HX4.o.cells
 obtain⟨g0,g1,g2,g3,g4,g5⟩:=HR4.o.froz
 obtain⟨y0,y1,y2,y3,y4,y5⟩:=HR4.o.cells
 have hyv:=HR4.o.lt
 clear hT
 go_wp2_with fail
 obtain⟨wz,hwz⟩:∃ W,set6 w4 gR (.int .i64 h.k) (.int .i64 h.op) (.int .i64 h.v) (.int .i64 h.ln) (.string (st h.nm)) (.slice a n c)=W:=⟨_,rfl⟩
 have HMZ:=Xj (HM4.o.s6 (b:=gR) (by omega) (.int .i64 h.k) (.int .i64 h.op) (.int .i64 h.v) (.int .i64 h.ln) (.string (st h.nm)) (.slice a n c))
 have HAZ:=Xj (Yv (v0:=.int .i64 h.k) (v1:=.int .i64 h.op) (v2:=.int .i64 h.v) (v3:=.int .i64 h.ln) (v4:=.string (st h.nm)) (v5:=.slice a n c) hqg.o (λ b hb=>hb.2.1))
 have hY:=hwz
 unfold set6 at hY
 (try rw[hY])
 rw[hwz] at HD4 HMZ HAZ
 obtain⟨d0,d1,d2,d3,d4,d5⟩:=HD4.o.cells
 refine bodyPost_ret (v:=.tuple #[exv h (.slice a n c),.bool true]) (by simp[results,Tryz.results189,go_sem,d0,d1,d2,d3,d4,d5]) rfl ?_
 exact⟨h,a,n,c,true,at4,r4,rfl,HMZ.o.pat,HL.o.le,HMZ.o.gr,Xj (.inl ⟨rfl,ar,HZ.o,Xc HAZ.o (λ b hb _=>hb.1),HLT.o⟩)⟩
end
end Go.Proofs.YtldgghnjminhiaaGreatDoor
