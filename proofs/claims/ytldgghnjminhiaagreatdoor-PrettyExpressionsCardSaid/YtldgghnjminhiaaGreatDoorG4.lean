/-
  WORDS, PLAIN LAWS and WALKS (PsP PsT PpE PxP Bdr WpA WpB WpE), pressed. (Filled in from templates of this repo.)
-/
import Derived.Test.YtldgghnjminhiaaGreatDoorG2
import Derived.Test.YtldgghnjminhiaaGreatDoorG3
import Derived.Lib.AtoiAllCases
import Derived.Lib.Builder
import Derived.Lib.AppendStr
import Derived.Lib.UnsafeStr
import Derived.Lib.OthersKept
import Derived.Deep.CutBlock
import Derived.Deep.CutRange
namespace Go.Proofs.YtldgghnjminhiaaGreatDoor
open Go.ChangeAt Go.ChangeShapes Go.RowKit Go.WideShapes
set_option linter.unusedVariables false
set_option linter.unusedSimpArgs false
set_option maxRecDepth 100000
set_option maxHeartbeats 16000000
section
def isT (t:Bt):List Tk->Bool
 | x::_=>(x.k==3||x.k==4)&&x.t==t
 | []=>false
def Zy (t:Bt):Int :=
 if t=[60] then 8 else if t=[60,61] then 9 else if t=[61,61] then 10 else if t=[33,61] then 11 else if t=[43] then 3 else if t=[45] then 4
 else if t=[42] then 5 else if t=[47] then 6 else if t=[37] then 7 else 0
def Yy (lo hi:Int):List Tk->Int
 | x::_=>if x.k=4/\lo<=Zy x.t/\Zy x.t<=hi then Zy x.t else 0
 | []=>0
def Yj:List Tk->Int
 | x::_=>x.n
 | []=>0
def kOf:List Tk->Int
 | x::_=>x.k
 | []=>0
def tOf:List Tk->Bt
 | x::_=>x.t
 | []=>[]
def vOf:List Tk->Int
 | x::_=>x.v
 | []=>0
inductive PR where
 | ok (F:Fo) (r:List Tk)
 | bad (r:List Tk)
inductive Lv where
 | ex
 | exL (x:Fo)
 | an
 | anL (x:Fo)
 | cm
 | su
 | suL (x:Fo)
 | te
 | teL (x:Fo)
 | un
 | ca
 | caL (plain:Bool) (x:Fo)
 | ag (first:Bool) (F:Fo)
 | pr
def Vl:Fo->Hd
 | .cons h _ _=>h
 | .nil=>⟨0,0,0,0,[]⟩
abbrev nd (k op v ln:Int) (nm:Bt) (ar:Fo):Fo:=.cons ⟨k,op,v,ln,nm⟩ ar .nil
def bnP (o:Option PR) (k:Fo->List Tk->Option PR):Option PR:=match o with
 | none=>none
 | some (.bad r)=>some (.bad r)
 | some (.ok F r)=>k F r
def Zw (f:Lv->List Tk->Option PR) (lv:Lv) (ts:List Tk):Option PR:=match lv with
 | .ex=>bnP (f .an ts) λ x r=>f (.exL x) r
 | .exL x=>if isT [124,124] ts=true then bnP (f .an ts.tail) λ y r=>f (.exL (nd 8 0 0 (Yj ts) [] (x.app y))) r else some (.ok x ts)
 | .an=>bnP (f .cm ts) λ x r=>f (.anL x) r
 | .anL x=>if isT [38,38] ts=true then bnP (f .cm ts.tail) λ y r=>f (.anL (nd 7 0 0 (Yj ts) [] (x.app y))) r else some (.ok x ts)
 | .cm=>bnP (f .su ts) λ x r=>if Yy 8 11 r=0 then some (.ok x r) else bnP (f .su r.tail) λ y r2=>some (.ok (nd 6 (Yy 8 11 r) 0 (Yj r) [] (x.app y)) r2)
 | .su=>bnP (f .te ts) λ x r=>f (.suL x) r
 | .suL x=>if Yy 3 4 ts=0 then some (.ok x ts) else bnP (f .te ts.tail) λ y r=>f (.suL (nd 6 (Yy 3 4 ts) 0 (Yj ts) [] (x.app y))) r
 | .te=>bnP (f .un ts) λ x r=>f (.teL x) r
 | .teL x=>if Yy 5 7 ts=0 then some (.ok x ts) else bnP (f .un ts.tail) λ y r=>f (.teL (nd 6 (Yy 5 7 ts) 0 (Yj ts) [] (x.app y))) r
 | .un=>if isT [45] ts=true then bnP (f .un ts.tail) λ x r=>some (.ok (nd 5 1 0 (Yj ts) [] x) r)
   else if isT [33] ts=true then bnP (f .un ts.tail) λ x r=>some (.ok (nd 5 2 0 (Yj ts) [] x) r)
   else f .ca ts
 | .ca=>bnP (f .pr ts) λ x r=>f (.caL (kOf ts==1&&(Vl x).k==13) x) r
 | .caL plain x=>if isT [40] ts=true then bnP (f (.ag true .nil) ts.tail) λ F r=>f (.caL false (if plain=true then nd 9 0 0 (Yj ts) (Vl x).nm F else nd 10 0 0 (Yj ts) [] (x.app F))) r else some (.ok x ts)
 | .ag first F=>if isT [41] ts=true then some (.ok F ts.tail)
   else if first=true then bnP (f .ex ts) λ x r=>f (.ag false (F.app x)) r
   else if isT [44] ts=true then bnP (f .ex ts.tail) λ x r=>f (.ag false (F.app x)) r
   else some (.bad ts)
 | .pr=>if kOf ts=2 then some (.ok (nd 1 0 (vOf ts) (Yj ts) [] .nil) ts.tail)
   else if kOf ts=1 then
    (if isT [91] ts.tail=true then bnP (f .ex ts.tail.tail) λ x r=>if isT [93] r=true then some (.ok (nd 4 0 0 (Yj ts) (tOf ts) x) r.tail) else some (.bad r)
    else some (.ok (nd 13 0 0 (Yj ts) (tOf ts) .nil) ts.tail))
   else if isT [38] ts=true then (if kOf ts.tail=1 then some (.ok (nd 11 0 0 (Yj ts) (tOf ts.tail) .nil) ts.tail.tail) else some (.bad ts.tail))
   else if isT [114,101,97,100] ts=true then some (.ok (nd 12 0 0 (Yj ts) [] .nil) ts.tail)
   else if isT [40] ts=true then bnP (f .ex ts.tail) λ x r=>if isT [41] r=true then some (.ok x r.tail) else some (.bad r)
   else some (.bad ts)
def Pn:Nat->Lv->List Tk->Option PR
 | 0=>λ _ _=>none
 | n+1=>Zw (Pn n)
theorem Sg {o o':Option PR} {k k':Fo->List Tk->Option PR} {y:PR} (h:bnP o k=some y) (ho:∀ x,o=some x->o'=some x) (hk:∀ F r,k F r=some y->k' F r=some y):bnP o' k'=some y:=by
 unfold bnP at h ⊢
 cases o with
 | none=>cases h
 | some x =>
  rw[ho x rfl]
  cases x with
  | ok F r=>exact hk F r h
  | bad r=>exact h
theorem Hy {f g:Lv->List Tk->Option PR} (hfg:∀ lv ts y,f lv ts=some y->g lv ts=some y) (lv:Lv) (ts:List Tk) (y:PR) (h:Zw f lv ts=some y):Zw g lv ts=some y:=by
 have hb:∀ {lv2 ts2} {k k':Fo->List Tk->Option PR} {y:PR},bnP (f lv2 ts2) k=some y->(∀ F r,k F r=some y->k' F r=some y)->bnP (g lv2 ts2) k'=some y:=λ h hk=>Sg h (λ x=>hfg _ _ x) hk
 cases lv with
 | ex=>exact hb h λ _ _=>hfg _ _ _
 | exL x =>
  unfold Zw at h ⊢
  dsimp only at h ⊢
  split
  ·rename_i hc;rw[if_pos hc] at h;exact hb h λ _ _=>hfg _ _ _
  rename_i hc;rw[if_neg hc] at h;exact h
 | an=>exact hb h λ _ _=>hfg _ _ _
 | anL x =>
  unfold Zw at h ⊢
  dsimp only at h ⊢
  split
  ·rename_i hc;rw[if_pos hc] at h;exact hb h λ _ _=>hfg _ _ _
  rename_i hc;rw[if_neg hc] at h;exact h
 | cm =>
  refine hb h λ F r h=>?_
  split
  ·rename_i hc;rw[if_pos hc] at h;exact h
  rename_i hc;rw[if_neg hc] at h;exact hb h λ _ _ h=>h
 | su=>exact hb h λ _ _=>hfg _ _ _
 | suL x =>
  unfold Zw at h ⊢
  dsimp only at h ⊢
  split
  ·rename_i hc;rw[if_pos hc] at h;exact h
  rename_i hc;rw[if_neg hc] at h;exact hb h λ _ _=>hfg _ _ _
 | te=>exact hb h λ _ _=>hfg _ _ _
 | teL x =>
  unfold Zw at h ⊢
  dsimp only at h ⊢
  split
  ·rename_i hc;rw[if_pos hc] at h;exact h
  rename_i hc;rw[if_neg hc] at h;exact hb h λ _ _=>hfg _ _ _
 | un =>
  unfold Zw at h ⊢
  dsimp only at h ⊢
  split
  ·rename_i hc;rw[if_pos hc] at h;exact hb h λ _ _ h=>h
  rename_i hc
  rw[if_neg hc] at h
  split
  ·rename_i hc2;rw[if_pos hc2] at h;exact hb h λ _ _ h=>h
  rename_i hc2;rw[if_neg hc2] at h;exact hfg _ _ _ h
 | ca=>exact hb h λ _ _=>hfg _ _ _
 | caL p x =>
  unfold Zw at h ⊢
  dsimp only at h ⊢
  split
  ·rename_i hc;rw[if_pos hc] at h;exact hb h λ _ _=>hfg _ _ _
  rename_i hc;rw[if_neg hc] at h;exact h
 | ag b F =>
  unfold Zw at h ⊢
  dsimp only at h ⊢
  split
  ·rename_i hc;rw[if_pos hc] at h;exact h
  rename_i hc
  rw[if_neg hc] at h
  split
  ·rename_i hc2;rw[if_pos hc2] at h;exact hb h λ _ _=>hfg _ _ _
  rename_i hc2
  rw[if_neg hc2] at h
  split
  ·rename_i hc3;rw[if_pos hc3] at h;exact hb h λ _ _=>hfg _ _ _
  rename_i hc3;rw[if_neg hc3] at h;exact h
 | pr =>
  unfold Zw at h ⊢
  dsimp only at h ⊢
  split
  ·rename_i hc;rw[if_pos hc] at h;exact h
  rename_i c1
  rw[if_neg c1] at h
  split
  ·rename_i c2
   rw[if_pos c2] at h
   split
   ·rename_i c3;rw[if_pos c3] at h;exact hb h λ _ _ h=>h
   rename_i c3;rw[if_neg c3] at h;exact h
  rename_i c2
  rw[if_neg c2] at h
  split
  ·rename_i c3;rw[if_pos c3] at h;exact h
  rename_i c3
  rw[if_neg c3] at h
  split
  ·rename_i c4;rw[if_pos c4] at h;exact h
  rename_i c4
  rw[if_neg c4] at h
  split
  ·rename_i c5;rw[if_pos c5] at h;exact hb h λ _ _ h=>h
  rename_i c5;rw[if_neg c5] at h;exact h
theorem Ds (n:Nat):∀ lv ts y,Pn n lv ts=some y->Pn (n+1) lv ts=some y:=by
 induction n with
 | zero=>intro lv ts y h;cases h
 | succ n ih=>intro lv ts y h;exact Hy ih lv ts y h
theorem Gn {n m:Nat} (h:n<=m) {lv:Lv} {ts:List Tk} {y:PR} (hn:Pn n lv ts=some y):Pn m lv ts=some y:=by
 induction h with
 | refl=>exact hn
 | step _ ih=>exact Ds _ _ _ _ ih
def Ps (lv:Lv) (ts:List Tk) (y:PR):Prop:=∃ n,Pn n lv ts=some y
theorem Ps.det {lv:Lv} {ts:List Tk} {y z:PR} (h:Ps lv ts y) (k:Ps lv ts z):y=z:=by
 obtain⟨n,hn⟩:=h
 obtain⟨m,hm⟩:=k
 have h1:=Gn (Nat.le_max_left n m) hn
 have h2:=Gn (Nat.le_max_right n m) hm
 rw[h1] at h2
 injection h2
theorem Ps.mk0 {lv:Lv} {ts:List Tk} {y:PR} (h:∀ f,Zw f lv ts=some y):Ps lv ts y:=⟨1,h _⟩
theorem Ps.mk1 {lv l1:Lv} {ts t1:List Tk} {y y1:PR} (h1:Ps l1 t1 y1) (h:∀ f,f l1 t1=some y1->Zw f lv ts=some y):Ps lv ts y:=by
 obtain⟨n,hn⟩:=h1
 exact⟨n+1,h _ hn⟩
theorem Ps.mk2 {lv l1 l2:Lv} {ts t1 t2:List Tk} {y y1 y2:PR} (h1:Ps l1 t1 y1) (h2:Ps l2 t2 y2) (h:∀ f,f l1 t1=some y1->f l2 t2=some y2->Zw f lv ts=some y):Ps lv ts y:=by
 obtain⟨n,hn⟩:=h1
 obtain⟨m,hm⟩:=h2
 exact⟨max n m+1,h _ (Gn (Nat.le_max_left n m) hn) (Gn (Nat.le_max_right n m) hm)⟩
section
variable {ts r:List Tk} {x y:Fo} {z:PR}
theorem Ps.ex_ok (h:Ps .an ts (.ok x r)) (k:Ps (.exL x) r z):Ps .ex ts z:=.mk2 h k λ f e1 e2=>by show bnP _ _=_;rw[e1];exact e2
theorem Ps.ex_bad (h:Ps .an ts (.bad r)):Ps .ex ts (.bad r):=.mk1 h λ f e1=>by show bnP _ _=_;rw[e1];rfl
theorem Ps.exL_end (h:isT [124,124] ts=false):Ps (.exL x) ts (.ok x ts):=.mk0 λ f=>by show (if _ then _ else _)=_;rw[if_neg (by rw[h];simp)]
theorem Ps.exL_ok (h:isT [124,124] ts=true) (h1:Ps .an ts.tail (.ok y r)) (h2:Ps (.exL (nd 8 0 0 (Yj ts) [] (x.app y))) r z):Ps (.exL x) ts z:=.mk2 h1 h2 λ f e1 e2=>by show (if _ then _ else _)=_;rw[if_pos h,e1];exact e2
theorem Ps.exL_bad (h:isT [124,124] ts=true) (h1:Ps .an ts.tail (.bad r)):Ps (.exL x) ts (.bad r):=.mk1 h1 λ f e1=>by show (if _ then _ else _)=_;rw[if_pos h,e1];rfl
theorem Ps.an_ok (h:Ps .cm ts (.ok x r)) (k:Ps (.anL x) r z):Ps .an ts z:=.mk2 h k λ f e1 e2=>by show bnP _ _=_;rw[e1];exact e2
theorem Ps.an_bad (h:Ps .cm ts (.bad r)):Ps .an ts (.bad r):=.mk1 h λ f e1=>by show bnP _ _=_;rw[e1];rfl
theorem Ps.anL_end (h:isT [38,38] ts=false):Ps (.anL x) ts (.ok x ts):=.mk0 λ f=>by show (if _ then _ else _)=_;rw[if_neg (by rw[h];simp)]
theorem Ps.anL_ok (h:isT [38,38] ts=true) (h1:Ps .cm ts.tail (.ok y r)) (h2:Ps (.anL (nd 7 0 0 (Yj ts) [] (x.app y))) r z):Ps (.anL x) ts z:=.mk2 h1 h2 λ f e1 e2=>by show (if _ then _ else _)=_;rw[if_pos h,e1];exact e2
theorem Ps.anL_bad (h:isT [38,38] ts=true) (h1:Ps .cm ts.tail (.bad r)):Ps (.anL x) ts (.bad r):=.mk1 h1 λ f e1=>by show (if _ then _ else _)=_;rw[if_pos h,e1];rfl
theorem Ps.cm_end (h:Ps .su ts (.ok x r)) (h0:Yy 8 11 r=0):Ps .cm ts (.ok x r):=.mk1 h λ f e1=>by show bnP _ _=_;rw[e1];show (if _ then _ else _)=_;rw[if_pos h0]
theorem Ps.cm_bad (h:Ps .su ts (.bad r)):Ps .cm ts (.bad r):=.mk1 h λ f e1=>by show bnP _ _=_;rw[e1];rfl
theorem Ps.cm_two {r2:List Tk} (h:Ps .su ts (.ok x r)) (h0:Yy 8 11 r≠0) (k:Ps .su r.tail (.ok y r2)):Ps .cm ts (.ok (nd 6 (Yy 8 11 r) 0 (Yj r) [] (x.app y)) r2):=.mk2 h k λ f e1 e2=>by show bnP _ _=_;rw[e1];show (if _ then _ else _)=_;rw[if_neg h0,e2];rfl
theorem Ps.cm_two_bad {r2:List Tk} (h:Ps .su ts (.ok x r)) (h0:Yy 8 11 r≠0) (k:Ps .su r.tail (.bad r2)):Ps .cm ts (.bad r2):=.mk2 h k λ f e1 e2=>by show bnP _ _=_;rw[e1];show (if _ then _ else _)=_;rw[if_neg h0,e2];rfl
theorem Ps.su_ok (h:Ps .te ts (.ok x r)) (k:Ps (.suL x) r z):Ps .su ts z:=.mk2 h k λ f e1 e2=>by show bnP _ _=_;rw[e1];exact e2
theorem Ps.su_bad (h:Ps .te ts (.bad r)):Ps .su ts (.bad r):=.mk1 h λ f e1=>by show bnP _ _=_;rw[e1];rfl
theorem Ps.suL_end (h:Yy 3 4 ts=0):Ps (.suL x) ts (.ok x ts):=.mk0 λ f=>by show (if _ then _ else _)=_;rw[if_pos h]
theorem Ps.suL_ok (h:Yy 3 4 ts≠0) (h1:Ps .te ts.tail (.ok y r)) (h2:Ps (.suL (nd 6 (Yy 3 4 ts) 0 (Yj ts) [] (x.app y))) r z):Ps (.suL x) ts z:=.mk2 h1 h2 λ f e1 e2=>by show (if _ then _ else _)=_;rw[if_neg h,e1];exact e2
theorem Ps.suL_bad (h:Yy 3 4 ts≠0) (h1:Ps .te ts.tail (.bad r)):Ps (.suL x) ts (.bad r):=.mk1 h1 λ f e1=>by show (if _ then _ else _)=_;rw[if_neg h,e1];rfl
theorem Ps.te_ok (h:Ps .un ts (.ok x r)) (k:Ps (.teL x) r z):Ps .te ts z:=.mk2 h k λ f e1 e2=>by show bnP _ _=_;rw[e1];exact e2
theorem Ps.te_bad (h:Ps .un ts (.bad r)):Ps .te ts (.bad r):=.mk1 h λ f e1=>by show bnP _ _=_;rw[e1];rfl
theorem Ps.teL_end (h:Yy 5 7 ts=0):Ps (.teL x) ts (.ok x ts):=.mk0 λ f=>by show (if _ then _ else _)=_;rw[if_pos h]
theorem Ps.teL_ok (h:Yy 5 7 ts≠0) (h1:Ps .un ts.tail (.ok y r)) (h2:Ps (.teL (nd 6 (Yy 5 7 ts) 0 (Yj ts) [] (x.app y))) r z):Ps (.teL x) ts z:=.mk2 h1 h2 λ f e1 e2=>by show (if _ then _ else _)=_;rw[if_neg h,e1];exact e2
theorem Ps.teL_bad (h:Yy 5 7 ts≠0) (h1:Ps .un ts.tail (.bad r)):Ps (.teL x) ts (.bad r):=.mk1 h1 λ f e1=>by show (if _ then _ else _)=_;rw[if_neg h,e1];rfl
theorem Ps.un_neg (h:isT [45] ts=true) (h1:Ps .un ts.tail (.ok x r)):Ps .un ts (.ok (nd 5 1 0 (Yj ts) [] x) r):=.mk1 h1 λ f e1=>by show (if _ then _ else _)=_;rw[if_pos h,e1];rfl
theorem Ps.un_neg_bad (h:isT [45] ts=true) (h1:Ps .un ts.tail (.bad r)):Ps .un ts (.bad r):=.mk1 h1 λ f e1=>by show (if _ then _ else _)=_;rw[if_pos h,e1];rfl
theorem Ps.un_not (h0:isT [45] ts=false) (h:isT [33] ts=true) (h1:Ps .un ts.tail (.ok x r)):Ps .un ts (.ok (nd 5 2 0 (Yj ts) [] x) r):=.mk1 h1 λ f e1=>by show (if _ then _ else _)=_;rw[if_neg (by rw[h0];simp),if_pos h,e1];rfl
theorem Ps.un_not_bad (h0:isT [45] ts=false) (h:isT [33] ts=true) (h1:Ps .un ts.tail (.bad r)):Ps .un ts (.bad r):=.mk1 h1 λ f e1=>by show (if _ then _ else _)=_;rw[if_neg (by rw[h0];simp),if_pos h,e1];rfl
theorem Ps.un_ca (h0:isT [45] ts=false) (h:isT [33] ts=false) (h1:Ps .ca ts z):Ps .un ts z:=.mk1 h1 λ f e1=>by show (if _ then _ else _)=_;rw[if_neg (by rw[h0];simp),if_neg (by rw[h];simp)];exact e1
theorem Ps.ca_ok {p:Bool} (h:Ps .pr ts (.ok x r)) (hp:p=(kOf ts==1&&(Vl x).k==13)) (k:Ps (.caL p x) r z):Ps .ca ts z:=.mk2 h k λ f e1 e2=>by show bnP _ _=_;rw[e1];rw[hp] at e2;exact e2
theorem Ps.ca_bad (h:Ps .pr ts (.bad r)):Ps .ca ts (.bad r):=.mk1 h λ f e1=>by show bnP _ _=_;rw[e1];rfl
theorem Ps.caL_end {p:Bool} (h:isT [40] ts=false):Ps (.caL p x) ts (.ok x ts):=.mk0 λ f=>by show (if _ then _ else _)=_;rw[if_neg (by rw[h];simp)]
theorem Ps.caL_call (h:isT [40] ts=true) (h1:Ps (.ag true .nil) ts.tail (.ok y r)) (h2:Ps (.caL false (nd 9 0 0 (Yj ts) (Vl x).nm y)) r z):Ps (.caL true x) ts z:=.mk2 h1 h2 λ f e1 e2=>by show (if _ then _ else _)=_;rw[if_pos h,e1];exact e2
theorem Ps.caL_value (h:isT [40] ts=true) (h1:Ps (.ag true .nil) ts.tail (.ok y r)) (h2:Ps (.caL false (nd 10 0 0 (Yj ts) [] (x.app y))) r z):Ps (.caL false x) ts z:=.mk2 h1 h2 λ f e1 e2=>by show (if _ then _ else _)=_;rw[if_pos h,e1];exact e2
theorem Ps.caL_bad {p:Bool} (h:isT [40] ts=true) (h1:Ps (.ag true .nil) ts.tail (.bad r)):Ps (.caL p x) ts (.bad r):=.mk1 h1 λ f e1=>by show (if _ then _ else _)=_;rw[if_pos h,e1];rfl
theorem Ps.ag_end {b:Bool} {F:Fo} (h:isT [41] ts=true):Ps (.ag b F) ts (.ok F ts.tail):=.mk0 λ f=>by show (if _ then _ else _)=_;rw[if_pos h]
theorem Ps.ag_first {F:Fo} (h:isT [41] ts=false) (h1:Ps .ex ts (.ok x r)) (h2:Ps (.ag false (F.app x)) r z):Ps (.ag true F) ts z:=.mk2 h1 h2 λ f e1 e2=>by show (if _ then _ else _)=_;rw[if_neg (by rw[h];simp),if_pos rfl,e1];exact e2
theorem Ps.ag_first_bad {F:Fo} (h:isT [41] ts=false) (h1:Ps .ex ts (.bad r)):Ps (.ag true F) ts (.bad r):=.mk1 h1 λ f e1=>by show (if _ then _ else _)=_;rw[if_neg (by rw[h];simp),if_pos rfl,e1];rfl
theorem Ps.ag_next {F:Fo} (h:isT [41] ts=false) (hc:isT [44] ts=true) (h1:Ps .ex ts.tail (.ok x r)) (h2:Ps (.ag false (F.app x)) r z):Ps (.ag false F) ts z:=.mk2 h1 h2 λ f e1 e2=>by show (if _ then _ else _)=_;rw[if_neg (by rw[h];simp),if_neg (by simp),if_pos hc,e1];exact e2
theorem Ps.ag_next_bad {F:Fo} (h:isT [41] ts=false) (hc:isT [44] ts=true) (h1:Ps .ex ts.tail (.bad r)):Ps (.ag false F) ts (.bad r):=.mk1 h1 λ f e1=>by show (if _ then _ else _)=_;rw[if_neg (by rw[h];simp),if_neg (by simp),if_pos hc,e1];rfl
theorem Ps.ag_bad {F:Fo} (h:isT [41] ts=false) (hc:isT [44] ts=false):Ps (.ag false F) ts (.bad ts):=.mk0 λ f=>by show (if _ then _ else _)=_;rw[if_neg (by rw[h];simp),if_neg (by simp),if_neg (by rw[hc];simp)]
theorem Ps.pr_num (h:kOf ts=2):Ps .pr ts (.ok (nd 1 0 (vOf ts) (Yj ts) [] .nil) ts.tail):=.mk0 λ f=>by show (if _ then _ else _)=_;rw[if_pos h]
theorem Ps.pr_name (h:kOf ts=1) (hb:isT [91] ts.tail=false):Ps .pr ts (.ok (nd 13 0 0 (Yj ts) (tOf ts) .nil) ts.tail):=.mk0 λ f=>by show (if _ then _ else _)=_;rw[if_neg (by omega),if_pos h,if_neg (by rw[hb];simp)]
theorem Ps.pr_el (h:kOf ts=1) (hb:isT [91] ts.tail=true) (h1:Ps .ex ts.tail.tail (.ok x r)) (hc:isT [93] r=true):Ps .pr ts (.ok (nd 4 0 0 (Yj ts) (tOf ts) x) r.tail):=.mk1 h1 λ f e1=>by show (if _ then _ else _)=_;rw[if_neg (by omega),if_pos h,if_pos hb,e1];show (if _ then _ else _)=_;rw[if_pos hc]
theorem Ps.pr_el_bad (h:kOf ts=1) (hb:isT [91] ts.tail=true) (h1:Ps .ex ts.tail.tail (.bad r)):Ps .pr ts (.bad r):=.mk1 h1 λ f e1=>by show (if _ then _ else _)=_;rw[if_neg (by omega),if_pos h,if_pos hb,e1];rfl
theorem Ps.pr_el_bad2 (h:kOf ts=1) (hb:isT [91] ts.tail=true) (h1:Ps .ex ts.tail.tail (.ok x r)) (hc:isT [93] r=false):Ps .pr ts (.bad r):=.mk1 h1 λ f e1=>by show (if _ then _ else _)=_;rw[if_neg (by omega),if_pos h,if_pos hb,e1];show (if _ then _ else _)=_;rw[if_neg (by rw[hc];simp)]
theorem Ys {t:Bt} (h:isT t ts=true):kOf ts≠1/\kOf ts≠2/\kOf ts≠0/\tOf ts=t:=by
 cases ts with
 | nil=>cases h
 | cons x r =>
  simp only[isT,Bool.and_eq_true,Bool.or_eq_true,beq_iff_eq] at h
  exact⟨by show x.k≠1;omega,by show x.k≠2;omega,by show x.k≠0;omega,h.2⟩
theorem Js {t u:Bt} (h:isT t ts=true) (hne:t≠u):isT u ts=false:=by
 cases ts with
 | nil=>cases h
 | cons x r =>
  simp only[isT,Bool.and_eq_true,beq_iff_eq] at h
  cases hh:isT u (x::r) with
  | false=>rfl
  | true =>
   simp only[isT,Bool.and_eq_true,beq_iff_eq] at hh
   exact absurd (h.2.symm.trans hh.2) hne
theorem Ps.pr_func (h:isT [38] ts=true) (hb:kOf ts.tail=1):Ps .pr ts (.ok (nd 11 0 0 (Yj ts) (tOf ts.tail) .nil) ts.tail.tail):=.mk0 λ f=>by
 obtain⟨h1,h2,_⟩:=Ys h
 show (if _ then _ else _)=_;rw[if_neg h2,if_neg h1,if_pos h,if_pos hb]
theorem Ps.pr_func_bad (h:isT [38] ts=true) (hb:kOf ts.tail≠1):Ps .pr ts (.bad ts.tail):=.mk0 λ f=>by
 obtain⟨h1,h2,_⟩:=Ys h
 show (if _ then _ else _)=_;rw[if_neg h2,if_neg h1,if_pos h,if_neg hb]
theorem Ps.pr_read (h:isT [114,101,97,100] ts=true):Ps .pr ts (.ok (nd 12 0 0 (Yj ts) [] .nil) ts.tail):=.mk0 λ f=>by
 obtain⟨h1,h2,_⟩:=Ys h
 show (if _ then _ else _)=_;rw[if_neg h2,if_neg h1,if_neg (by rw[Js h (by decide)];simp),if_pos h]
theorem Ps.pr_par (h:isT [40] ts=true) (h1:Ps .ex ts.tail (.ok x r)) (hc:isT [41] r=true):Ps .pr ts (.ok x r.tail):=.mk1 h1 λ f e1=>by
 obtain⟨k1,k2,_⟩:=Ys h
 show (if _ then _ else _)=_;rw[if_neg k2,if_neg k1,if_neg (by rw[Js h (by decide)];simp),if_neg (by rw[Js h (by decide)];simp),if_pos h,e1];show (if _ then _ else _)=_;rw[if_pos hc]
theorem Ps.pr_par_bad (h:isT [40] ts=true) (h1:Ps .ex ts.tail (.bad r)):Ps .pr ts (.bad r):=.mk1 h1 λ f e1=>by
 obtain⟨k1,k2,_⟩:=Ys h
 show (if _ then _ else _)=_;rw[if_neg k2,if_neg k1,if_neg (by rw[Js h (by decide)];simp),if_neg (by rw[Js h (by decide)];simp),if_pos h,e1];rfl
theorem Ps.pr_par_bad2 (h:isT [40] ts=true) (h1:Ps .ex ts.tail (.ok x r)) (hc:isT [41] r=false):Ps .pr ts (.bad r):=.mk1 h1 λ f e1=>by
 obtain⟨k1,k2,_⟩:=Ys h
 show (if _ then _ else _)=_;rw[if_neg k2,if_neg k1,if_neg (by rw[Js h (by decide)];simp),if_neg (by rw[Js h (by decide)];simp),if_pos h,e1];show (if _ then _ else _)=_;rw[if_neg (by rw[hc];simp)]
theorem Ps.pr_bad (h1:kOf ts≠1) (h2:kOf ts≠2) (h3:isT [38] ts=false) (h4:isT [114,101,97,100] ts=false) (h5:isT [40] ts=false):Ps .pr ts (.bad ts):=.mk0 λ f=>by
 show (if _ then _ else _)=_;rw[if_neg h2,if_neg h1,if_neg (by rw[h3];simp),if_neg (by rw[h4];simp),if_neg (by rw[h5];simp)]
end
theorem Jv {ts:List Tk} (h:ts≠[]):ts.tail.length<ts.length:=by
 cases ts with
 | nil=>exact absurd rfl h
 | cons x r=>simp
end
def Tv (x:Tk):Prop:=(x.k=1\/x.k=2\/x.k=3\/x.k=4)/\(x.k=3->isW x.t=true)/\(x.k=4->isS x.t=true)
theorem Qb.tv {x:Tk} (h:Qb x):Tv x:=by
 obtain⟨ln0,b,l,hst⟩:=h
 obtain⟨_,_,_,_,h5,_⟩:=Qm hst
 unfold nxI at h5
 dsimp only at h5
 split at h5
 ·injection h5 with e h5
  injection h5 with _ h5
  injection h5 with e2 h5
  rw[e2] at e
  split at e
  ·rename_i hw;exact⟨by omega,λ _=>hw,λ e3=>by omega⟩
  exact⟨by omega,λ e3=>by omega,λ e3=>by omega⟩
 split at h5
 ·split at h5
  ·injection h5 with e _;exact⟨by omega,λ e3=>by omega,λ e3=>by omega⟩
  injection h5 with e _;exact⟨by omega,λ e3=>by omega,λ e3=>by omega⟩
 split at h5
 ·rename_i hc
  injection h5 with e h5
  injection h5 with _ h5
  injection h5 with e2 _
  exact⟨by omega,λ e3=>by omega,λ _=>by rw[<- e2];exact hc.2⟩
 injection h5 with e h5
 injection h5 with _ h5
 injection h5 with e2 h5
 exact⟨by omega,λ e3=>by omega,λ _=>by rw[<- e2];exact h5⟩
def Qv:List Tk->Prop
 | []=>False
 | [x]=>x.k=0
 | x::y::r=>Tv x/\Qv (y::r)
theorem Qv.of {ys:List Tk} {ln:Int} (h:∀ x∈ys,Tv x):Qv (ys++[⟨0,ln,0,[]⟩]):=by
 induction ys with
 | nil=>rfl
 | cons x ys ih =>
  have h1:=ih (λ z hz=>h z (by simp[hz]))
  cases ys with
  | nil=>exact⟨h x (by simp),h1⟩
  | cons y ys=>exact⟨h x (by simp),h1⟩
theorem Qv.scan {l:Bt} {ts:List Tk} {y:Int} (h:Go.Proofs.YtldgghnjminhiaaGreatDoor.scan l=(some ts,y)):Qv ts:=by
 obtain⟨ys,ln,rfl,_,h3,_⟩:=Vx h
 exact Qv.of λ x hx=>(h3 x hx).tv
theorem Qv.cons {ts:List Tk} (h:Qv ts):∃ x r,ts=x::r:=by
 cases ts with
 | nil=>exact absurd h id
 | cons x r=>exact⟨x,r,rfl⟩
theorem Qv.more {x:Tk} {r:List Tk} (h:Qv (x::r)) (hk:x.k≠0):Qv r/\Tv x:=by
 cases r with
 | nil=>exact absurd h hk
 | cons y r=>exact⟨h.2,h.1⟩
theorem Qv.tv {x:Tk} {r:List Tk} (h:Qv (x::r)):x.k=0\/Tv x:=by
 cases r with
 | nil=>exact .inl h
 | cons y r=>exact .inr h.1
theorem Qv.isT {t:Bt} {ts:List Tk} (h:Qv ts) (k:Go.Proofs.YtldgghnjminhiaaGreatDoor.isT t ts=true):Qv ts.tail:=by
 obtain⟨x,r,rfl⟩:=h.cons
 have h0:=(Ys k).2.2.1
 exact(h.more h0).1
theorem Qv.kOf {ts:List Tk} (h:Qv ts) (k:Go.Proofs.YtldgghnjminhiaaGreatDoor.kOf ts≠0):Qv ts.tail:=by
 obtain⟨x,r,rfl⟩:=h.cons
 exact(h.more k).1
theorem Gv (t:Bt):0<=Zy t/\Zy t<=11:=by
 unfold Zy
 (repeat' split)<;>omega
theorem Av {lo hi:Int} (ts:List Tk):0<=Yy lo hi ts/\Yy lo hi ts<=11:=by
 cases ts with
 | nil=>exact⟨Int.le_refl _,by show (0:Int)<=11;omega⟩
 | cons x r =>
  show 0<=(if x.k=4/\lo<=Zy x.t/\Zy x.t<=hi then Zy x.t else 0)/\(if x.k=4/\lo<=Zy x.t/\Zy x.t<=hi then Zy x.t else 0)<=11
  split
  ·exact Gv x.t
  omega
def Fo.drop:Fo->Nat->Fo
 | F,0=>F
 | .nil,_+1=>.nil
 | .cons _ _ r,i+1=>r.drop i
def eqF (lines:Bool):Fo->Fo->Bool
 | .nil,.nil=>true
 | .cons h a r,.cons h' a' r'=>(h.k==h'.k&&(h.op==h'.op&&(h.v==h'.v&&(h.nm==h'.nm&&((!lines||h.ln==h'.ln)&&eqF lines a a')))))&&eqF lines r r'
 | _,_=>false
theorem Bx {lines:Bool} {F G:Fo} (h:F.len≠G.len):eqF lines F G=false:=by
 induction F generalizing G with
 | nil=>cases G with
  | nil=>exact absurd rfl h
  | cons h a r=>rfl
 | cons h1 a1 r1 _ ih =>
  cases G with
  | nil=>rfl
  | cons h2 a2 r2 =>
   have:=ih (G:=r2) (λ e=>h (by simp only[Fo.len,e]))
   simp[eqF,this]
theorem Fo.drop_get {F:Fo} {i:Nat} {x:Hd×Fo} (h:F.get i=some x):F.drop i=.cons x.1 x.2 (F.drop (i+1)):=by
 induction F generalizing i with
 | nil=>cases h
 | cons h1 a1 r1 _ ih =>
  cases i with
  | zero=>injection h with h;subst h;cases r1<;>rfl
  | succ i =>
   have:=ih (i:=i) h
   show r1.drop i=_
   rw[this]
   rfl
theorem Fo.drop_len (F:Fo):F.drop F.len=.nil:=by
 induction F with
 | nil=>rfl
 | cons h1 a1 r1 _ ih=>exact ih
theorem Fo.app_asc (F G H:Fo):(F.app G).app H=F.app (G.app H):=by
 induction F with
 | nil=>rfl
 | cons h a r _ ih=>show Fo.cons h a _=Fo.cons h a _;rw[ih]
theorem Fo.app_nil3 (F:Fo):F.app .nil=F:=by
 induction F with
 | nil=>rfl
 | cons h a r _ ih=>show Fo.cons h a _=Fo.cons h a _;rw[ih]
theorem Us {l:Bool} {F F' G G':Fo} (h:eqF l F F'=true) (k:eqF l G G'=true):eqF l (F.app G) (F'.app G')=true:=by
 induction F generalizing F' with
 | nil =>
  cases F' with
  | nil=>exact k
  | cons h a r=>cases h
 | cons h1 a1 r1 _ ih =>
  cases F' with
  | nil=>cases h
  | cons h2 a2 r2 =>
   simp only[eqF,Bool.and_eq_true] at h
   show eqF l (.cons h1 a1 (r1.app G)) (.cons h2 a2 (r2.app G'))=true
   simp only[eqF,Bool.and_eq_true]
   exact⟨h.1,ih h.2⟩
theorem Bz {F:Fo} {h:Hd} {ar:Fo} (e:eqF false F (Xb h ar)=true):∃ h' ar',F=Xb h' ar'/\h'.k=h.k/\h'.op=h.op/\h'.v=h.v/\h'.nm=h.nm/\eqF false ar' ar=true:=by
 cases F with
 | nil=>cases e
 | cons h1 a1 r1 =>
  cases r1 with
  | nil=>simp[eqF] at e;exact⟨h1,a1,rfl,e.1,e.2.1,e.2.2.1,e.2.2.2.1,e.2.2.2.2⟩
  | cons h2 a2 r2=>simp[eqF] at e
theorem Qd {h' h:Hd} {ar' ar:Fo} (h1:h'.k=h.k) (h2:h'.op=h.op) (h3:h'.v=h.v) (h4:h'.nm=h.nm) (h5:eqF false ar' ar=true):eqF false (Xb h' ar') (Xb h ar)=true:=by
 simp[eqF,h1,h2,h3,h4,h5]
theorem Xh {ts:List Tk} {k v:Int} {t:Bt} {R:List Xt} (h:unl ts=(k,v,t)::R):kOf ts=k/\vOf ts=v/\tOf ts=t/\unl ts.tail=R/\(∀ u,isT u ts=((k==3||k==4)&&t==u))/\∀ lo hi,Yy lo hi ts=(if k=4/\lo<=Zy t/\Zy t<=hi then Zy t else 0):=by
 cases ts with
 | nil=>cases h
 | cons x r =>
  unfold unl at h
  rw[List.map_cons] at h
  injection h with h1 h2
  injection h1 with h1 h3
  injection h3 with h3 h4
  subst h1 h3 h4
  exact⟨rfl,rfl,rfl,h2,λ u=>rfl,λ lo hi=>rfl⟩
def enX:Bt->Xt
 | []=>(0,0,[])
 | b::t=>sgX (b::t)
def Cd:List Bt:=[[],[41],[93],[44],[59],[123]]
def stE (R:List Xt):Prop:=∃ t R',R=enX t::R'/\t∈Cd
def Ax:List Bt:=[[41],[93],[44],[59],[123],[38,38],[124,124],[43],[45],[42],[47],[37],[60],[60,61],[61,61],[33,61]]
def stO (R:List Xt):Prop:=(∃ t R',R=sgX t::R'/\t∈Ax)\/∃ R',R=(0,0,[])::R'
theorem stE.o {R:List Xt} (h:stE R):stO R:=by
 obtain⟨t,R',e,h⟩:=h
 simp only[Cd,List.mem_cons,List.not_mem_nil,or_false] at h
 rcases h with rfl|rfl|rfl|rfl|rfl|rfl
 ·exact .inr ⟨R',e⟩
 all_goals exact .inl ⟨_,R',e,by decide⟩
theorem stO.no {R:List Xt} (h:stO R) {ts:List Tk} (e:unl ts=R):isT [40] ts=false/\isT [91] ts=false:=by
 rcases h with⟨t,R',rfl,h⟩|⟨R',rfl⟩
 ·obtain⟨_,_,_,_,h5,_⟩:=Xh e
  rw[h5,h5]
  simp only[Ax,List.mem_cons,List.not_mem_nil,or_false] at h
  rcases h with rfl|rfl|rfl|rfl|rfl|rfl|rfl|rfl|rfl|rfl|rfl|rfl|rfl|rfl|rfl|rfl<;>decide
 obtain⟨_,_,_,_,h5,_⟩:=Xh e
 rw[h5,h5]
 decide
theorem stE.no {R:List Xt} (h:stE R) {ts:List Tk} (e:unl ts=R):Yy 5 7 ts=0/\Yy 3 4 ts=0/\Yy 8 11 ts=0/\isT [38,38] ts=false/\isT [124,124] ts=false:=by
 obtain⟨t,R',rfl,h⟩:=h
 simp only[Cd,List.mem_cons,List.not_mem_nil,or_false] at h
 rcases h with rfl|rfl|rfl|rfl|rfl|rfl
 all_goals (
  obtain⟨_,_,_,_,h5,h6⟩:=Xh e
  rw[h5,h5,h6,h6,h6]
  exact⟨by decide,by decide,by decide,by decide,by decide⟩)
theorem Ps.up_te {ts r:List Tk} {F:Fo} (h:Ps .un ts (.ok F r)) (h1:Yy 5 7 r=0):Ps .te ts (.ok F r):=Ps.te_ok h (Ps.teL_end h1)
theorem Ps.up_su {ts r:List Tk} {F:Fo} (h:Ps .te ts (.ok F r)) (h1:Yy 3 4 r=0):Ps .su ts (.ok F r):=Ps.su_ok h (Ps.suL_end h1)
theorem Ps.up_ex {ts r:List Tk} {F:Fo} (h:Ps .cm ts (.ok F r)) (h1:isT [38,38] r=false) (h2:isT [124,124] r=false):Ps .ex ts (.ok F r):=Ps.ex_ok (Ps.an_ok h (Ps.anL_end h1)) (Ps.exL_end h2)
theorem Ps.up_all {ts r:List Tk} {F:Fo} {R:List Xt} (h:Ps .un ts (.ok F r)) (he:unl r=R) (hs:stE R):Ps .ex ts (.ok F r):=by
 obtain⟨h1,h2,h3,h4,h5⟩:=hs.no he
 exact Ps.up_ex (Ps.cm_end (Ps.up_su (Ps.up_te h h1) h2) h3) h4 h5
def PaE (h:Hd) (ar:Fo):Prop :=
 (∀ ts R,unl ts=Yw h ar++R->isT [41] ts=false/\isT [125] ts=false) /\
 (∀ ts R,unl ts=Yw h ar++R->stE R->∃ F r,Ps .ex ts (.ok F r)/\unl r=R/\eqF false F (Xb h ar)=true) /\
 (Qh h=false->∀ ts R,unl ts=Yw h ar++R->isT [45] ts=false/\isT [33] ts=false/\((∀ (r:List Tk),unl r=R->isT [91] r=false) ->
  ∃ F r,unl r=R/\eqF false F (Xb h ar)=true/\∀ z,Ps (.caL (h.k==13) F) r z->Ps .ca ts z))
theorem PaE.opr {h:Hd} {ar:Fo} (k:PaE h ar) {ts:List Tk} {R:List Xt} (e:unl ts=Yr h (Yw h ar)++R) (hs:∀ r:List Tk,unl r=R->isT [40] r=false/\isT [91] r=false) :
  ∃ F r,Ps .un ts (.ok F r)/\unl r=R/\eqF false F (Xb h ar)=true:=by
 unfold Yr at e
 by_cases hc:Qh h=true
 ·rw[if_pos hc] at e
  unfold Jf at e
  simp only[List.cons_append,List.append_assoc,List.nil_append] at e
  obtain⟨a1,a2,a3,a4,a5,a6⟩:=Xh e
  obtain⟨F,r,p1,p2,p3⟩:=k.2.1 _ _ a4 ⟨[41],R,rfl,by decide⟩
  obtain⟨b1,b2,b3,b4,b5,b6⟩:=Xh p2
  refine⟨F,r.tail,?_,b4,p3⟩
  have hp:Ps .pr ts (.ok F r.tail):=Ps.pr_par (by rw[a5];decide) p1 (by rw[b5];decide)
  exact Ps.un_ca (by rw[a5];decide) (by rw[a5];decide) (Ps.ca_ok (p:=false) hp (by rw[a1];rfl) (Ps.caL_end (hs _ b4).1))
 rw[if_neg hc] at e
 obtain⟨h1,h2,h3⟩:=k.2.2 (by simpa using hc) _ _ e
 obtain⟨F,r,q1,q2,q3⟩:=h3 (λ r hr=>(hs r hr).2)
 exact⟨F,r,Ps.un_ca h1 h2 (q3 _ (Ps.caL_end (hs _ q1).1)),q1,q2⟩
theorem PaE.hd {h:Hd} {ar:Fo} (k:PaE h ar) (hk:h.k≠13) {ts:List Tk} {R:List Xt} (e:unl ts=Yr h (Yw h ar)++(sgX [40]::R)) :
  isT [45] ts=false/\isT [33] ts=false/\∃ F r,unl r=sgX [40]::R/\eqF false F (Xb h ar)=true/\∀ z,Ps (.caL false F) r z->Ps .ca ts z:=by
 unfold Yr at e
 by_cases hc:Qh h=true
 ·rw[if_pos hc] at e
  unfold Jf at e
  simp only[List.cons_append,List.append_assoc,List.nil_append] at e
  obtain⟨a1,a2,a3,a4,a5,a6⟩:=Xh e
  obtain⟨F,r,p1,p2,p3⟩:=k.2.1 _ _ a4 ⟨[41],_,rfl,by decide⟩
  obtain⟨b1,b2,b3,b4,b5,b6⟩:=Xh p2
  refine⟨by rw[a5];decide,by rw[a5];decide,F,r.tail,b4,p3,λ z hz=>?_⟩
  have hp:Ps .pr ts (.ok F r.tail):=Ps.pr_par (by rw[a5];decide) p1 (by rw[b5];decide)
  exact Ps.ca_ok (p:=false) hp (by rw[a1];rfl) hz
 rw[if_neg hc] at e
 obtain⟨h1,h2,h3⟩:=k.2.2 (by simpa using hc) _ _ e
 obtain⟨F,r,q1,q2,q3⟩:=h3 (λ r hr=>by obtain⟨_,_,_,_,h5,_⟩:=Xh hr;rw[h5];decide)
 refine⟨h1,h2,F,r,q1,q2,λ z hz=>q3 z ?_⟩
 rw[show (h.k==13)=false by simpa using hk]
 exact hz
def tlX:List (List Xt)->List Xt
 | []=>[]
 | s::r=>sgX [44]::(s++tlX r)
theorem Dq (s:List Xt) (l:List (List Xt)):commX (s::l)=s++tlX l:=by
 induction l generalizing s with
 | nil=>simp[commX,tlX]
 | cons a l ih =>
  show s++(sgX [44]::commX (a::l))=_
  rw[ih a]
  rfl
theorem PaE.agN (F:Fo) (hF:∀ j x,F.get j=some x->PaE x.1 x.2):∀ ts R (acc:Fo),unl ts=tlX ((Yn F).map (·.2))++(sgX [41]::R)->∃ G r,Ps (.ag false acc) ts (.ok (acc.app G) r)/\unl r=R/\eqF false G F=true:=by
 induction F with
 | nil =>
  intro ts R acc e
  obtain⟨a1,a2,a3,a4,a5,a6⟩:=Xh (show unl ts=sgX [41]::R from e)
  exact⟨.nil,ts.tail,by rw[Fo.app_nil3];exact Ps.ag_end (by rw[a5];decide),a4,rfl⟩
 | cons h ar F _ ih =>
  intro ts R acc e
  have e:unl ts=sgX [44]::(Yw h ar++(tlX ((Yn F).map (·.2))++(sgX [41]::R))):=by
   rw[e]
   show (sgX [44]::(Yw h ar++tlX ((Yn F).map (·.2))))++_=_
   simp
  obtain⟨a1,a2,a3,a4,a5,a6⟩:=Xh e
  obtain⟨G,r,p1,p2,p3⟩:=(hF 0 (h,ar) rfl).2.1 _ _ a4 (by
   cases F with
   | nil=>exact⟨[41],R,rfl,by decide⟩
   | cons h2 a2 F2=>exact⟨[44],_,rfl,by decide⟩)
  obtain⟨G2,r2,q1,q2,q3⟩:=ih (λ j x hj=>hF (j+1) x hj) r R (acc.app G) p2
  refine⟨G.app G2,r2,?_,q2,?_⟩
  ·rw[<- Fo.app_asc]
   exact Ps.ag_next (by rw[a5];decide) (by rw[a5];decide) p1 q1
  exact Us (F':=Xb h ar) p3 q3
theorem PaE.ags (F:Fo) (hF:∀ j x,F.get j=some x->PaE x.1 x.2) {ts:List Tk} {R:List Xt} (e:unl ts=commX ((Yn F).map (·.2))++(sgX [41]::R)):∃ G r,Ps (.ag true .nil) ts (.ok G r)/\unl r=R/\eqF false G F=true:=by
 cases F with
 | nil =>
  obtain⟨a1,a2,a3,a4,a5,a6⟩:=Xh (show unl ts=sgX [41]::R from e)
  exact⟨.nil,ts.tail,Ps.ag_end (by rw[a5];decide),a4,rfl⟩
 | cons h ar F =>
  have e:unl ts=Yw h ar++(tlX ((Yn F).map (·.2))++(sgX [41]::R)):=by
   rw[e]
   show commX (Yw h ar::(Yn F).map (·.2))++_=_
   rw[Dq]
   simp
  have k:=hF 0 (h,ar) rfl
  obtain⟨G,r,p1,p2,p3⟩:=k.2.1 _ _ e (by
   cases F with
   | nil=>exact⟨[41],R,rfl,by decide⟩
   | cons h2 a2 F2=>exact⟨[44],_,rfl,by decide⟩)
  obtain⟨G2,r2,q1,q2,q3⟩:=PaE.agN F (λ j x hj=>hF (j+1) x hj) r R G p2
  exact⟨G.app G2,r2,Ps.ag_first (k.1 _ _ e).1 p1 q1,q2,Us (F':=Xb h ar) p3 q3⟩
theorem PaE.lst (F:Fo) (hF:∀ j x,F.get j=some x->PaE x.1 x.2) {ts:List Tk} {R:List Xt} (e:unl ts=Zl ((Yn F).map (·.2))++R):isT [40] ts=true/\∃ G r,Ps (.ag true .nil) ts.tail (.ok G r)/\unl r=R/\eqF false G F=true:=by
 unfold Zl Jf at e
 simp only[List.cons_append,List.append_assoc,List.nil_append] at e
 obtain⟨a1,a2,a3,a4,a5,a6⟩:=Xh e
 exact⟨by rw[a5];decide,PaE.ags F hF a4⟩
theorem Cl {op:Int} (h3:3<=op) (h11:op<=11) {ts r r2:List Tk} {A B:Fo} {R R2:List Xt} (hA:Ps .un ts (.ok A r)) (hr:unl r=sgX (sgn op)::R) (hB:Ps .un r.tail (.ok B r2)) (hr2:unl r2=R2) (hs:stE R2) :
  ∃ ln,Ps .ex ts (.ok (nd 6 op 0 ln [] (A.app B)) r2):=by
 obtain⟨n1,n2,n3,n4,n5⟩:=hs.no hr2
 obtain⟨a1,a2,a3,a4,a5,a6⟩:=Xh hr
 have hc:op=3\/op=4\/op=5\/op=6\/op=7\/op=8\/op=9\/op=10\/op=11:=by omega
 refine⟨Yj r,?_⟩
 have add:(op=3\/op=4)->Ps .ex ts (.ok (nd 6 op 0 (Yj r) [] (A.app B)) r2):=λ h=>by
  have e34:Yy 3 4 r=op:=by rw[a6];rcases h with rfl|rfl<;>decide
  have e57:Yy 5 7 r=0:=by rw[a6];rcases h with rfl|rfl<;>decide
  refine Ps.up_ex (Ps.cm_end (Ps.su_ok (Ps.up_te hA e57) (Ps.suL_ok (by rw[e34];omega) (Ps.up_te hB n1) ?_)) n3) n4 n5
  rw[e34]
  exact Ps.suL_end n2
 have mul:(op=5\/op=6\/op=7)->Ps .ex ts (.ok (nd 6 op 0 (Yj r) [] (A.app B)) r2):=λ h=>by
  have e57:Yy 5 7 r=op:=by rw[a6];rcases h with rfl|rfl|rfl<;>decide
  refine Ps.up_ex (Ps.cm_end (Ps.up_su (Ps.te_ok hA (Ps.teL_ok (by rw[e57];omega) hB ?_)) n2) n3) n4 n5
  rw[e57]
  exact Ps.teL_end n1
 have cmp:(op=8\/op=9\/op=10\/op=11)->Ps .ex ts (.ok (nd 6 op 0 (Yj r) [] (A.app B)) r2):=λ h=>by
  have e34:Yy 3 4 r=0:=by rw[a6];rcases h with rfl|rfl|rfl|rfl<;>decide
  have e57:Yy 5 7 r=0:=by rw[a6];rcases h with rfl|rfl|rfl|rfl<;>decide
  have e811:Yy 8 11 r=op:=by rw[a6];rcases h with rfl|rfl|rfl|rfl<;>decide
  have:=Ps.cm_two (Ps.up_su (Ps.up_te hA e57) e34) (by rw[e811];omega) (Ps.up_su (Ps.up_te hB n1) n2)
  rw[e811] at this
  exact Ps.up_ex this n4 n5
 rcases hc with h|h|h|h|h|h|h|h|h
 ·exact add (.inl h)
 ·exact add (.inr h)
 ·exact mul (.inl h)
 ·exact mul (.inr (.inl h))
 ·exact mul (.inr (.inr h))
 ·exact cmp (.inl h)
 ·exact cmp (.inr (.inl h))
 ·exact cmp (.inr (.inr (.inl h)))
 exact cmp (.inr (.inr (.inr h)))
theorem Td {op:Int} (h3:3<=op) (h11:op<=11):sgn op∈Ax:=by
 have hc:op=3\/op=4\/op=5\/op=6\/op=7\/op=8\/op=9\/op=10\/op=11:=by omega
 rcases hc with rfl|rfl|rfl|rfl|rfl|rfl|rfl|rfl|rfl<;>decide
theorem PaE.atom {h:Hd} {ar:Fo} (hc:Qh h=false)
  (k1:∀ ts R,unl ts=Yw h ar++R->isT [41] ts=false/\isT [125] ts=false/\isT [45] ts=false/\isT [33] ts=false/\((∀ (r:List Tk),unl r=R->isT [91] r=false)->∃ F r,unl r=R/\eqF false F (Xb h ar)=true/\∀ z,Ps (.caL (h.k==13) F) r z->Ps .ca ts z)):PaE h ar:=by
 refine⟨λ ts R e=>⟨(k1 ts R e).1,(k1 ts R e).2.1⟩,λ ts R e hs=>?_,λ _ ts R e=>(k1 ts R e).2.2⟩
 obtain⟨_,_,h1,h2,h3⟩:=k1 ts R e
 obtain⟨F,r,q1,q2,q3⟩:=h3 (λ r hr=>(hs.o.no hr).2)
 exact⟨F,r,Ps.up_all (Ps.un_ca h1 h2 (q3 _ (Ps.caL_end (hs.o.no q1).1))) q1 hs,q1,q2⟩
theorem PaE.prim {h:Hd} {ar:Fo} (hc:Qh h=false) (hk:(h.k==13)=true->∀ ts R,unl ts=Yw h ar++R->kOf ts=1)
  (k1:∀ ts R,unl ts=Yw h ar++R->isT [41] ts=false/\isT [125] ts=false/\isT [45] ts=false/\isT [33] ts=false/\((∀ (r:List Tk),unl r=R->isT [91] r=false)->∃ F r,unl r=R/\eqF false F (Xb h ar)=true/\Ps .pr ts (.ok F r))):PaE h ar:=by
 refine PaE.atom hc λ ts R e=>?_
 obtain⟨h1,h2,h3,h4,h5⟩:=k1 ts R e
 refine⟨h1,h2,h3,h4,λ hb=>?_⟩
 obtain⟨F,r,q1,q2,q3⟩:=h5 hb
 refine⟨F,r,q1,q2,λ z hz=>Ps.ca_ok (p:=(h.k==13)) q3 ?_ hz⟩
 obtain⟨h',ar',rfl,e1,_⟩:=Bz q2
 show (h.k==13)=(kOf ts==1&&h'.k==13)
 rw[e1]
 cases hh:(h.k==13) with
 | false=>simp
 | true=>rw[hk hh ts R e];rfl
theorem PaE.one (h:Hd) (ar:Fo) (hok:okG h ar) (hF:∀ j x,ar.get j=some x->PaE x.1 x.2):PaE h ar:=by
 rcases hok with⟨hop,hv,k⟩|⟨hop,k,hnm,k0,k1,rfl⟩|⟨hv,hnm,k⟩
 ·rcases k with⟨k,hn,rfl⟩|⟨k,hnm,rfl⟩|⟨k,hn,rfl⟩|⟨k,hn,hl⟩|⟨k,hnm,hl⟩|⟨k,hn⟩|⟨k,hnm,g,bs,r0,rfl⟩
  ·have e2:Yw h .nil=[nmX h.nm]:=by show Yg h _=_;unfold Yg;simp[k]
   refine PaE.prim (by simp[Qh,k]) (λ _ ts R e=>?_) (λ ts R e=>?_)
   ·rw[e2] at e;exact(Xh e).1
   rw[e2] at e
   obtain⟨a1,a2,a3,a4,a5,a6⟩:=Xh e
   refine⟨by rw[a5];rfl,by rw[a5];rfl,by rw[a5];rfl,by rw[a5];rfl,λ hb=>⟨_,ts.tail,a4,?_,Ps.pr_name a1 (hb _ a4)⟩⟩
   exact Qd (by simp[k]) (by simp[hop]) (by simp[hv]) (by simp[a3]) rfl
  ·have e2:Yw h .nil=[wdX [114,101,97,100]]:=by show Yg h _=_;unfold Yg;simp[k]
   refine PaE.prim (by simp[Qh,k]) (λ hh=>by simp[k] at hh) (λ ts R e=>?_)
   rw[e2] at e
   obtain⟨a1,a2,a3,a4,a5,a6⟩:=Xh e
   refine⟨by rw[a5];rfl,by rw[a5];rfl,by rw[a5];rfl,by rw[a5];rfl,λ hb=>⟨_,ts.tail,a4,?_,Ps.pr_read (by rw[a5];rfl)⟩⟩
   exact Qd (by simp[k]) (by simp[hop]) (by simp[hv]) (by simp[hnm]) rfl
  ·have e2:Yw h .nil=[sgX [38],nmX h.nm]:=by show Yg h _=_;unfold Yg;simp[k]
   refine PaE.prim (by simp[Qh,k]) (λ hh=>by simp[k] at hh) (λ ts R e=>?_)
   rw[e2] at e
   obtain⟨a1,a2,a3,a4,a5,a6⟩:=Xh e
   obtain⟨b1,b2,b3,b4,b5,b6⟩:=Xh a4
   refine⟨by rw[a5];rfl,by rw[a5];rfl,by rw[a5];rfl,by rw[a5];rfl,λ hb=>⟨_,ts.tail.tail,b4,?_,Ps.pr_func (by rw[a5];rfl) b1⟩⟩
   exact Qd (by simp[k]) (by simp[hop]) (by simp[hv]) (by simp[b3]) rfl
  ·obtain⟨x,hx0,f1,t1⟩:=Fo.one hl
   have e2:Yw h ar=nmX h.nm::sgX [91]::(Yw x.1 x.2++[sgX [93]]):=by show Yg h _=_;rw[t1];unfold Yg;simp[k]
   refine PaE.prim (by simp[Qh,k]) (λ hh=>by simp[k] at hh) (λ ts R e=>?_)
   rw[e2] at e
   simp only[List.cons_append,List.append_assoc,List.nil_append] at e
   obtain⟨a1,a2,a3,a4,a5,a6⟩:=Xh e
   obtain⟨b1,b2,b3,b4,b5,b6⟩:=Xh a4
   obtain⟨F,r,p1,p2,p3⟩:=(hF 0 x hx0).2.1 _ _ b4 ⟨[93],R,rfl,by decide⟩
   obtain⟨c1,c2,c3,c4,c5,c6⟩:=Xh p2
   refine⟨by rw[a5];rfl,by rw[a5];rfl,by rw[a5];rfl,by rw[a5];rfl,λ hb=>⟨_,r.tail,c4,?_,Ps.pr_el a1 (by rw[b5];rfl) p1 (by rw[c5];rfl)⟩⟩
   refine Qd (by simp[k]) (by simp[hop]) (by simp[hv]) (by simp[a3]) ?_
   cases ar with
   | nil=>cases hx0
   | cons h2 a2 r2 =>
    injection hx0 with hx0
    subst hx0
    cases r2 with
    | nil=>exact p3
    | cons _ _ _=>simp[Fo.len] at hl
  ·obtain⟨x,y,hx0,hy0,f1,t1⟩:=Fo.two hl
   have hab:ar=(Xb x.1 x.2).app (Xb y.1 y.2):=by
    cases ar with
    | nil=>cases hx0
    | cons h2 a2 r2 =>
     cases r2 with
     | nil=>cases hy0
     | cons h3 a3 r3 =>
      injection hx0 with hx0
      injection hy0 with hy0
      subst hx0 hy0
      cases r3 with
      | nil=>rfl
      | cons _ _ _=>simp[Fo.len] at hl
   have hx:=hF 0 x hx0
   have hy:=hF 1 y hy0
   have key:∀ (s:Bt),s∈Ax->Yw h ar=Yr x.1 (Yw x.1 x.2)++(sgX s::Yr y.1 (Yw y.1 y.2))->(∀ ts r r2 A B,Ps .un ts (.ok A r)->isT s r=true->Yy 5 7 r=0->Yy 3 4 r=0->Yy 8 11 r=0->(s=[124,124]->isT [38,38] r=false)->Ps .cm r.tail (.ok B r2)->isT [38,38] r2=false->isT [124,124] r2=false->∃ ln,Ps .ex ts (.ok (nd h.k 0 0 ln [] (A.app B)) r2))->(s=[38,38]\/s=[124,124])->PaE h ar:=by
    intro s hs e2 hkey hss
    refine⟨λ ts R e=>?_,λ ts R e hst=>?_,λ hcc=>?_⟩
    ·rw[e2] at e
     unfold Yr at e
     by_cases hcx:Qh x.1=true
     ·rw[if_pos hcx] at e
      obtain⟨_,_,_,_,a5,_⟩:=Xh (show unl ts=sgX [40]::_ from e)
      exact⟨by rw[a5];rfl,by rw[a5];rfl⟩
     rw[if_neg hcx,List.append_assoc] at e
     exact hx.1 _ _ e
    ·rw[e2,List.append_assoc,List.cons_append] at e
     have hsO:stO (sgX s::(Yr y.1 (Yw y.1 y.2)++R)):=.inl ⟨s,_,rfl,hs⟩
     obtain⟨A,r,p1,p2,p3⟩:=hx.opr e (λ r hr=>hsO.no hr)
     obtain⟨a1,a2,a3,a4,a5,a6⟩:=Xh p2
     obtain⟨B,r2,q1,q2,q3⟩:=hy.opr a4 (λ r hr=>hst.o.no hr)
     obtain⟨n1,n2,n3,n4,n5⟩:=hst.no q2
     obtain⟨ln,hln⟩:=hkey ts r r2 A B p1 (by rw[a5];rcases hss with rfl|rfl<;>rfl) (by rw[a6];rcases hss with rfl|rfl<;>decide) (by rw[a6];rcases hss with rfl|rfl<;>decide) (by rw[a6];rcases hss with rfl|rfl<;>decide) (λ e3=>by rw[a5,e3];rfl) (Ps.cm_end (Ps.up_su (Ps.up_te q1 n1) n2) n3) n4 n5
     refine⟨_,r2,hln,q2,Qd rfl (by simp[hop]) (by simp[hv]) (by simp[hnm]) ?_⟩
     rw[hab]
     exact Us p3 q3
    rcases k with k|k<;>simp[Qh,k] at hcc
   rcases k with k|k
   ·refine key [38,38] (by decide) (by show Yg h _=_;rw[t1];unfold Yg;simp[k]) (λ ts r r2 A B hA hi h57 h34 hzh _ hB n4 n5=>⟨Yj r,?_⟩) (.inl rfl)
    rw[k]
    exact Ps.ex_ok (Ps.an_ok (Ps.cm_end (Ps.up_su (Ps.up_te hA h57) h34) hzh) (Ps.anL_ok hi hB (Ps.anL_end n4))) (Ps.exL_end n5)
   refine key [124,124] (by decide) (by show Yg h _=_;rw[t1];unfold Yg;simp[k]) (λ ts r r2 A B hA hi h57 h34 hzh hno hB n4 n5=>⟨Yj r,?_⟩) (.inr rfl)
   rw[k]
   exact Ps.ex_ok (Ps.an_ok (Ps.cm_end (Ps.up_su (Ps.up_te hA h57) h34) hzh) (Ps.anL_end (hno rfl))) (Ps.exL_ok hi (Ps.an_ok hB (Ps.anL_end n4)) (Ps.exL_end n5))
  ·have e2:Yw h ar=nmX h.nm::Zl ((Yn ar).map (·.2)):=by show Yg h _=_;unfold Yg;simp[k]
   refine PaE.atom (by simp[Qh,k]) (λ ts R e=>?_)
   rw[e2,List.cons_append] at e
   obtain⟨a1,a2,a3,a4,a5,a6⟩:=Xh e
   obtain⟨b1,G,r,b2,b3,b4⟩:=PaE.lst ar hF a4
   refine⟨by rw[a5];rfl,by rw[a5];rfl,by rw[a5];rfl,by rw[a5];rfl,λ hb=>⟨nd 9 0 0 (Yj ts.tail) h.nm G,r,b3,Qd (by simp[k]) (by simp[hop]) (by simp[hv]) rfl b4,λ z hz=>?_⟩⟩
   rw[show (h.k==13)=false by simp[k]] at hz
   refine Ps.ca_ok (p:=true) (Ps.pr_name a1 (Js b1 (by decide))) (by rw[a1];rfl) (Ps.caL_call b1 b2 ?_)
   show Ps (.caL false (nd 9 0 0 _ (tOf ts) G)) r z
   rw[a3]
   exact hz
  have h0:=hF 0 (g,bs) rfl
  have key:∀ ts R,unl ts=Yw h (.cons g bs r0)++R->∃ X,((X=Yr g (Yw g bs)/\g.k≠13)\/X=Jf (Yr g (Yw g bs)))/\unl ts=X++(Zl ((Yn r0).map (·.2))++R):=λ ts R e=>by
   by_cases hk2:g.k=13\/g.k=2\/g.k=3
   ·have e2:Yw h (.cons g bs r0)=Jf (Yr g (Yw g bs))++Zl ((Yn r0).map (·.2)):=by show Yg h ((g,Yw g bs)::Yn r0)=_;unfold Yg;simp[k,hk2]
    exact⟨_,.inr rfl,by rw[e,e2,List.append_assoc]⟩
   have e2:Yw h (.cons g bs r0)=Yr g (Yw g bs)++Zl ((Yn r0).map (·.2)):=by show Yg h ((g,Yw g bs)::Yn r0)=_;unfold Yg;simp[k,hk2]
   exact⟨_,.inl ⟨rfl,λ h=>hk2 (.inl h)⟩,by rw[e,e2,List.append_assoc]⟩
  refine PaE.atom (by simp[Qh,k]) (λ ts R e=>?_)
  obtain⟨X,hX,e3⟩:=key ts R e
  have hlst:Zl ((Yn r0).map (·.2))++R=sgX [40]::(commX ((Yn r0).map (·.2))++(sgX [41]::R)):=by simp[Zl,Jf]
  have fin:∀ (F:Fo) (r:List Tk),unl r=Zl ((Yn r0).map (·.2))++R->eqF false F (Xb g bs)=true->(∀ z,Ps (.caL false F) r z->Ps .ca ts z)->∃ F r,unl r=R/\eqF false F (Xb h (.cons g bs r0))=true/\∀ z,Ps (.caL (h.k==13) F) r z->Ps .ca ts z:=λ F r hr hF2 hz=>by
   obtain⟨b1,G,r2,b2,b3,b4⟩:=PaE.lst r0 (λ j y hy=>hF (j+1) y hy) hr
   refine⟨nd 10 0 0 (Yj r) [] (F.app G),r2,b3,Qd (by simp[k]) (by simp[hop]) (by simp[hv]) (by simp[hnm]) ?_,λ z k2=>hz z (Ps.caL_value b1 b2 ?_)⟩
   ·exact Us (F':=Xb g bs) hF2 b4
   rw[show (h.k==13)=false by simp[k]] at k2
   exact k2
  rcases hX with⟨rfl,hg⟩|rfl
  ·rw[hlst] at e3
   obtain⟨h1,h2,F,r,q1,q2,q3⟩:=h0.hd hg e3
   have h12:isT [41] ts=false/\isT [125] ts=false:=by
    unfold Yr at e3
    by_cases hcx:Qh g=true
    ·rw[if_pos hcx] at e3
     obtain⟨_,_,_,_,a5,_⟩:=Xh (show unl ts=sgX [40]::_ from e3)
     exact⟨by rw[a5];rfl,by rw[a5];rfl⟩
    rw[if_neg hcx] at e3
    exact h0.1 _ _ e3
   exact⟨h12.1,h12.2,h1,h2,λ _=>fin F r (by rw[q1,hlst]) q2 q3⟩
  unfold Jf at e3
  simp only[List.cons_append,List.append_assoc,List.nil_append] at e3
  obtain⟨a1,a2,a3,a4,a5,a6⟩:=Xh e3
  have hsE:stE (sgX [41]::(Zl ((Yn r0).map (·.2))++R)):=⟨[41],_,rfl,by decide⟩
  obtain⟨F,r,p1,p2,p3⟩:=h0.opr a4 (λ r hr=>hsE.o.no hr)
  obtain⟨b1,b2,b3,b4,b5,b6⟩:=Xh p2
  have hp:Ps .pr ts (.ok F r.tail):=Ps.pr_par (by rw[a5];rfl) (Ps.up_all p1 p2 hsE) (by rw[b5];rfl)
  exact⟨by rw[a5];rfl,by rw[a5];rfl,by rw[a5];rfl,by rw[a5];rfl,λ _=>fin F r.tail b4 p3 (λ z hz=>Ps.ca_ok (p:=false) hp (by rw[a1];rfl) hz)⟩
 ·have e2:Yw h .nil=[(2,h.v,Lib.decDigits h.v.toNat)]:=by show Yg h _=_;unfold Yg;simp[k]
  refine PaE.prim (by simp[Qh,k]) (λ hh=>by simp[k] at hh) (λ ts R e=>?_)
  rw[e2] at e
  obtain⟨a1,a2,a3,a4,a5,a6⟩:=Xh e
  refine⟨by rw[a5];rfl,by rw[a5];rfl,by rw[a5];rfl,by rw[a5];rfl,λ hb=>⟨_,ts.tail,a4,?_,Ps.pr_num a1⟩⟩
  exact Qd (by simp[k]) (by simp[hop]) (by simp[a2]) (by simp[hnm]) rfl
 rcases k with⟨k,o1,o2,hl⟩|⟨k,o1,o2,hl⟩
 ·obtain⟨x,hx0,f1,t1⟩:=Fo.one hl
  have hab:ar=Xb x.1 x.2:=by
   cases ar with
   | nil=>cases hx0
   | cons h2 a2 r2 =>
    injection hx0 with hx0
    subst hx0
    cases r2 with
    | nil=>rfl
    | cons _ _ _=>simp[Fo.len] at hl
  have e2:Yw h ar=sgX (sgn h.op)::Yr x.1 (Yw x.1 x.2):=by show Yg h _=_;rw[t1];unfold Yg;simp[k]
  have hx:=hF 0 x hx0
  refine⟨λ ts R e=>?_,λ ts R e hst=>?_,λ hcc=>by simp[Qh,k] at hcc⟩
  ·rw[e2] at e
   obtain⟨a1,a2,a3,a4,a5,a6⟩:=Xh e
   have:h.op=1\/h.op=2:=by omega
   rw[a5,a5]
   rcases this with e3|e3<;>rw[e3]<;>exact⟨rfl,rfl⟩
  rw[e2,List.cons_append] at e
  obtain⟨a1,a2,a3,a4,a5,a6⟩:=Xh e
  obtain⟨A,r,p1,p2,p3⟩:=hx.opr a4 (λ r hr=>hst.o.no hr)
  have:h.op=1\/h.op=2:=by omega
  rcases this with e3|e3
  ·refine⟨_,r,Ps.up_all (Ps.un_neg (by rw[a5,e3];rfl) p1) p2 hst,p2,Qd (by simp[k]) (by simp[e3]) (by simp[hv]) (by simp[hnm]) ?_⟩
   rw[hab];exact p3
  refine⟨_,r,Ps.up_all (Ps.un_not (by rw[a5,e3];rfl) (by rw[a5,e3];rfl) p1) p2 hst,p2,Qd (by simp[k]) (by simp[e3]) (by simp[hv]) (by simp[hnm]) ?_⟩
  rw[hab];exact p3
 obtain⟨x,y,hx0,hy0,f1,t1⟩:=Fo.two hl
 have hab:ar=(Xb x.1 x.2).app (Xb y.1 y.2):=by
  cases ar with
  | nil=>cases hx0
  | cons h2 a2 r2 =>
   cases r2 with
   | nil=>cases hy0
   | cons h3 a3 r3 =>
    injection hx0 with hx0
    injection hy0 with hy0
    subst hx0 hy0
    cases r3 with
    | nil=>rfl
    | cons _ _ _=>simp[Fo.len] at hl
 have e2:Yw h ar=Yr x.1 (Yw x.1 x.2)++(sgX (sgn h.op)::Yr y.1 (Yw y.1 y.2)):=by show Yg h _=_;rw[t1];unfold Yg;simp[k]
 have hx:=hF 0 x hx0
 have hy:=hF 1 y hy0
 refine⟨λ ts R e=>?_,λ ts R e hst=>?_,λ hcc=>by simp[Qh,k] at hcc⟩
 ·rw[e2] at e
  unfold Yr at e
  by_cases hcx:Qh x.1=true
  ·rw[if_pos hcx] at e
   obtain⟨_,_,_,_,a5,_⟩:=Xh (show unl ts=sgX [40]::_ from e)
   exact⟨by rw[a5];rfl,by rw[a5];rfl⟩
  rw[if_neg hcx,List.append_assoc] at e
  exact hx.1 _ _ e
 rw[e2,List.append_assoc,List.cons_append] at e
 have hsO:stO (sgX (sgn h.op)::(Yr y.1 (Yw y.1 y.2)++R)):=.inl ⟨_,_,rfl,Td o1 o2⟩
 obtain⟨A,r,p1,p2,p3⟩:=hx.opr e (λ r hr=>hsO.no hr)
 obtain⟨a1,a2,a3,a4,a5,a6⟩:=Xh p2
 obtain⟨B,r2,q1,q2,q3⟩:=hy.opr a4 (λ r hr=>hst.o.no hr)
 obtain⟨ln,hln⟩:=Cl o1 o2 p1 p2 q1 q2 hst
 refine⟨_,r2,hln,q2,Qd (by simp[k]) rfl (by simp[hv]) (by simp[hnm]) ?_⟩
 rw[hab]
 exact Us p3 q3
theorem PaE.all (F:Fo) (hw:F.wg):∀ j x,F.get j=some x->PaE x.1 x.2:=by
 induction F with
 | nil=>intro j x hx;cases hx
 | cons h ar r ih1 ih2 =>
  intro j x hx
  cases j with
  | zero =>
   have e:(h,ar)=x:=by injection hx
   subst e
   exact PaE.one h ar hw.1 (ih1 hw.2.1)
  | succ j=>exact ih2 hw.2.2 j x hx
theorem Cg {p:UInt8->Bool} {l:Bt} {c:UInt8} (h:c∈l.takeWhile p):p c=true:=by
 induction l with
 | nil=>cases h
 | cons b l ih =>
  rw[List.takeWhile_cons] at h
  split at h
  ·rename_i hb
   rcases List.mem_cons.1 h with rfl|h
   ·exact hb
   exact ih h
  cases h
theorem Mf {x:Tk} (h:Qb x) (hk:x.k=1):okM x.t:=by
 obtain⟨ln0,b,l,hst⟩:=h
 obtain⟨_,_,_,_,h5,_⟩:=Qm hst
 unfold nxI at h5
 dsimp only at h5
 split at h5
 ·rename_i hb
  injection h5 with e1 e2
  injection e2 with _ e2
  injection e2 with e2 e3
  have hr:run in8 (b::l)=b::run in8 l:=by
   unfold run
   rw[List.takeWhile_cons,if_pos (Hn hb)]
  have hw:isW (run in8 (b::l))=false:=by
   cases hw:isW (run in8 (b::l))
   ·rfl
   rw[hw] at e1;simp at e1;omega
  rw[<- e2]
  refine⟨b,run in8 l,hr,hb,λ c hc=>?_,hw,by simpa using e3⟩
  unfold run at hc
  exact Cg hc
 split at h5
 ·split at h5<;>(injection h5 with e _;omega)
 split at h5<;>(injection h5 with e _;omega)
theorem Tg {x:Tk} (h:Qb x) (hk:x.k=2):0<=x.v/\x.v<=9223372036854775807:=by
 obtain⟨ln0,b,l,hst⟩:=h
 obtain⟨_,_,_,_,h5,_⟩:=Qm hst
 unfold nxI at h5
 dsimp only at h5
 split at h5
 ·injection h5 with e _
  split at e<;>omega
 split at h5
 ·rename_i hd
  have hjl:run dg8 (b::l)=b::run dg8 l:=by
   unfold run
   rw[List.takeWhile_cons,if_pos hd]
  split at h5
  ·rename_i v hv
   injection h5 with e1 e2
   injection e2 with e2 _
   rw[<- e2]
   have hb:=Lib.atoiAll_bounds hv
   refine⟨?_,hb.2⟩
   rw[hjl] at hv
   unfold dg8 at hd
   simp only[Bool.and_eq_true,decide_eq_true_eq] at hd
   rw[Lib.atoiAll_plain b _ (by omega) (by omega)] at hv
   cases hp:Lib.parseMag (b::run dg8 l) with
   | ok u =>
    rw[hp] at hv
    simp only[Lib.signless] at hv
    split at hv
    ·cases hv
    injection hv with hv;omega
   | _=>rw[hp] at hv;cases hv
  injection h5 with e1 e2
  injection e2 with e2 _
  rw[<- e2]
  omega
 split at h5<;>(injection h5 with e _;omega)
def Gt (ts:List Tk):Prop:=∀ x∈ts,Qb x\/x.k=0
theorem Gt.tail {ts:List Tk} (h:Gt ts):Gt ts.tail:=λ x hx=>h x (List.mem_of_mem_tail hx)
def tw (ts:List Tk):Nat:=Yc 60 ts
def Fo.ct:Fo->Nat
 | .nil=>0
 | .cons h ar r=>h.nm.length+60+ar.ct+r.ct
theorem Fo.ct_app (F G:Fo):(F.app G).ct=F.ct+G.ct:=by
 induction F with
 | nil=>simp[app,ct]
 | cons h ar r _ ih=>simp only[app,ct,ih];omega
theorem Fo.wg_app {F G:Fo} (h:F.wg) (k:G.wg):(F.app G).wg:=by
 induction F with
 | nil=>exact k
 | cons hd ar r _ ih=>exact⟨h.1,h.2.1,ih h.2.2⟩
theorem Tu {ts:List Tk} (h:kOf ts≠0):tw ts=tw ts.tail+60+(tOf ts).length:=by
 cases ts with
 | nil=>exact absurd rfl h
 | cons x r=>show x.t.length+60+Yc 60 r=Yc 60 r+60+x.t.length;omega
theorem Wn (ts:List Tk):tw ts.tail<=tw ts:=by
 cases ts with
 | nil=>exact Nat.le_refl _
 | cons x r=>show Yc 60 r<=x.t.length+60+Yc 60 r;omega
theorem Wx {t:Bt} {ts:List Tk} (h:isT t ts=true):tw ts.tail+60<=tw ts:=by have:=Tu (Ys h).2.2.1;omega
theorem Mg {lo hi:Int} {ts:List Tk} (h:Yy lo hi ts≠0):tw ts.tail+60<=tw ts:=by
 cases ts with
 | nil=>exact absurd rfl h
 | cons x r=>show Yc 60 r+60<=x.t.length+60+Yc 60 r;omega
theorem Hc {lo hi:Int} (h0:3<=lo) (h1:hi<=11) {ts:List Tk} (h:Yy lo hi ts≠0):3<=Yy lo hi ts/\Yy lo hi ts<=11:=by
 cases ts with
 | nil=>exact absurd rfl h
 | cons x r =>
  unfold Yy at h ⊢
  dsimp only at h ⊢
  split at h
  ·rename_i hc;rw[if_pos hc];omega
  exact absurd rfl h
theorem Gt.name {ts:List Tk} (h:Gt ts) (hk:kOf ts=1):okM (tOf ts):=by
 cases ts with
 | nil=>cases hk
 | cons x r =>
  rcases h x (by simp) with h1|h1
  ·exact Mf h1 hk
  exact absurd (h1.symm.trans hk) (by decide)
theorem Gt.num {ts:List Tk} (h:Gt ts) (hk:kOf ts=2):0<=vOf ts/\vOf ts<=9223372036854775807:=by
 cases ts with
 | nil=>cases hk
 | cons x r =>
  rcases h x (by simp) with h1|h1
  ·exact Tg h1 hk
  exact absurd (h1.symm.trans hk) (by decide)
theorem Zz {o:Option PR} {k:Fo->List Tk->Option PR} {F:Fo} {r:List Tk} (h:bnP o k=some (.ok F r)):∃ x r1,o=some (.ok x r1)/\k x r1=some (.ok F r):=by
 unfold bnP at h
 split at h
 ·cases h
 ·cases h
 exact⟨_,_,rfl,h⟩
theorem Fo.wg1 {x:Fo} (h:x.len=1) (w:x.wg):∃ hd ar,x=Xb hd ar/\okG hd ar/\ar.wg:=by
 match x,h,w with
 | .cons hd ar .nil,_,w=>exact⟨hd,ar,rfl,w.1,w.2.1⟩
def Lv.ok:Lv->Prop
 | .exL x|.anL x|.suL x|.teL x=>x.len=1/\x.wg
 | .caL p x=>x.len=1/\x.wg/\(p=true->okM (Vl x).nm)
 | .ag _ F=>F.wg
 | _=>True
def Lv.ct:Lv->Nat
 | .exL x|.anL x|.suL x|.teL x|.caL _ x=>x.ct
 | .ag _ F=>F.ct
 | _=>0
def Lv.one:Lv->Bool
 | .ag _ _=>false
 | _=>true
def Sr (lv:Lv) (ts:List Tk) (F:Fo) (r:List Tk):Prop:=F.wg/\(lv.one=true->F.len=1)/\F.ct+tw r<=lv.ct+tw ts/\Gt r
theorem okG.k13 {h:Hd} {ar:Fo} (k:okG h ar) (h13:h.k=13):okM h.nm:=by
 rcases k with⟨_,_,k⟩|⟨_,k,_⟩|⟨_,_,k⟩
 ·rcases k with k|k|k|k|k|k|k
  ·exact k.2.1
  all_goals exact absurd k.1 (by omega)
 ·omega
 rcases k with k|k<;>exact absurd k.1 (by omega)
theorem Kp {k op v ln:Int} {x y:Fo} (hx:x.len=1) (hy:y.len=1) (wx:x.wg) (wy:y.wg) (hk:(op=0/\v=0/\(k=7\/k=8))\/(v=0/\k=6/\3<=op/\op<=11)) :
  (nd k op v ln [] (x.app y)).len=1/\(nd k op v ln [] (x.app y)).wg/\(nd k op v ln [] (x.app y)).ct=x.ct+y.ct+60:=by
 have hl:(x.app y).len=2:=by rw[Fo.len_app,hx,hy]
 refine⟨rfl,⟨?_,Fo.wg_app wx wy,trivial⟩,?_⟩
 ·rcases hk with⟨rfl,rfl,hk⟩|⟨rfl,rfl,h3,h11⟩
  ·exact .inl ⟨rfl,rfl,.inr (.inr (.inr (.inr (.inl ⟨hk,rfl,hl⟩))))⟩
  exact .inr (.inr ⟨rfl,rfl,.inr ⟨rfl,h3,h11,hl⟩⟩)
 show 0+60+(x.app y).ct+0=_;rw[Fo.ct_app];omega
theorem Bp:∀ (n:Nat) (lv:Lv) (ts:List Tk) (F:Fo) (r:List Tk),Pn n lv ts=some (.ok F r)->Gt ts->lv.ok->Sr lv ts F r:=by
 intro n
 induction n with
 | zero=>intro lv ts F r h;cases h
 | succ n ih =>
  intro lv ts F r h hg hlv
  replace h:Zw (Pn n) lv ts=some (.ok F r):=h
  have e1:∀ {a b c d:Nat},a+b<=c+d->a+b<=c+d:=λ h=>h
  cases lv with
  | ex =>
   obtain⟨x,r1,h1,h2⟩:=Zz h
   obtain⟨a1,a2,a3,a4⟩:=ih _ _ _ _ h1 hg trivial
   obtain⟨b1,b2,b3,b4⟩:=ih _ _ _ _ h2 a4 ⟨a2 rfl,a1⟩
   refine⟨b1,λ _=>b2 rfl,?_,b4⟩
   simp only[Lv.ct] at a3 b3 ⊢;omega
  | an =>
   obtain⟨x,r1,h1,h2⟩:=Zz h
   obtain⟨a1,a2,a3,a4⟩:=ih _ _ _ _ h1 hg trivial
   obtain⟨b1,b2,b3,b4⟩:=ih _ _ _ _ h2 a4 ⟨a2 rfl,a1⟩
   refine⟨b1,λ _=>b2 rfl,?_,b4⟩
   simp only[Lv.ct] at a3 b3 ⊢;omega
  | su =>
   obtain⟨x,r1,h1,h2⟩:=Zz h
   obtain⟨a1,a2,a3,a4⟩:=ih _ _ _ _ h1 hg trivial
   obtain⟨b1,b2,b3,b4⟩:=ih _ _ _ _ h2 a4 ⟨a2 rfl,a1⟩
   refine⟨b1,λ _=>b2 rfl,?_,b4⟩
   simp only[Lv.ct] at a3 b3 ⊢;omega
  | te =>
   obtain⟨x,r1,h1,h2⟩:=Zz h
   obtain⟨a1,a2,a3,a4⟩:=ih _ _ _ _ h1 hg trivial
   obtain⟨b1,b2,b3,b4⟩:=ih _ _ _ _ h2 a4 ⟨a2 rfl,a1⟩
   refine⟨b1,λ _=>b2 rfl,?_,b4⟩
   simp only[Lv.ct] at a3 b3 ⊢;omega
  | exL x =>
   simp only[Zw] at h
   split at h
   ·rename_i hT
    have ht:=Wx hT
    obtain⟨y,r1,h1,h2⟩:=Zz h
    obtain⟨a1,a2,a3,a4⟩:=ih _ _ _ _ h1 hg.tail trivial
    obtain⟨c1,c2,c3⟩:=Kp (k:=8) (op:=0) (v:=0) (ln:=Yj ts) hlv.1 (a2 rfl) hlv.2 a1 (.inl ⟨rfl,rfl,.inr rfl⟩)
    obtain⟨b1,b2,b3,b4⟩:=ih _ _ _ _ h2 a4 ⟨c1,c2⟩
    refine⟨b1,λ _=>b2 rfl,?_,b4⟩
    simp only[Lv.ct] at a3 b3 ⊢;omega
   injection h with h;injection h with e1 e2;subst e1 e2
   exact⟨hlv.2,λ _=>hlv.1,Nat.le_refl _,hg⟩
  | anL x =>
   simp only[Zw] at h
   split at h
   ·rename_i hT
    have ht:=Wx hT
    obtain⟨y,r1,h1,h2⟩:=Zz h
    obtain⟨a1,a2,a3,a4⟩:=ih _ _ _ _ h1 hg.tail trivial
    obtain⟨c1,c2,c3⟩:=Kp (k:=7) (op:=0) (v:=0) (ln:=Yj ts) hlv.1 (a2 rfl) hlv.2 a1 (.inl ⟨rfl,rfl,.inl rfl⟩)
    obtain⟨b1,b2,b3,b4⟩:=ih _ _ _ _ h2 a4 ⟨c1,c2⟩
    refine⟨b1,λ _=>b2 rfl,?_,b4⟩
    simp only[Lv.ct] at a3 b3 ⊢;omega
   injection h with h;injection h with e1 e2;subst e1 e2
   exact⟨hlv.2,λ _=>hlv.1,Nat.le_refl _,hg⟩
  | cm =>
   obtain⟨x,r1,h1,h2⟩:=Zz h
   obtain⟨a1,a2,a3,a4⟩:=ih _ _ _ _ h1 hg trivial
   split at h2
   ·injection h2 with h2;injection h2 with e1 e2;subst e1 e2
    exact⟨a1,λ _=>a2 rfl,a3,a4⟩
   rename_i ho
   have ht:=Mg ho
   have hb:=Hc (by decide) (by decide) ho
   obtain⟨y,r2,h3,h4⟩:=Zz h2
   obtain⟨b1,b2,b3,b4⟩:=ih _ _ _ _ h3 a4.tail trivial
   injection h4 with h4;injection h4 with e1 e2;subst e1 e2
   obtain⟨c1,c2,c3⟩:=Kp (k:=6) (op:=Yy 8 11 r1) (v:=0) (ln:=Yj r1) (a2 rfl) (b2 rfl) a1 b1 (.inr ⟨rfl,rfl,hb.1,hb.2⟩)
   refine⟨c2,λ _=>c1,?_,b4⟩
   simp only[Lv.ct] at a3 b3 ⊢;omega
  | suL x =>
   simp only[Zw] at h
   split at h
   ·injection h with h;injection h with e1 e2;subst e1 e2
    exact⟨hlv.2,λ _=>hlv.1,Nat.le_refl _,hg⟩
   rename_i ho
   have ht:=Mg ho
   have hb:=Hc (by decide) (by decide) ho
   obtain⟨y,r1,h1,h2⟩:=Zz h
   obtain⟨a1,a2,a3,a4⟩:=ih _ _ _ _ h1 hg.tail trivial
   obtain⟨c1,c2,c3⟩:=Kp (k:=6) (op:=Yy 3 4 ts) (v:=0) (ln:=Yj ts) hlv.1 (a2 rfl) hlv.2 a1 (.inr ⟨rfl,rfl,hb.1,hb.2⟩)
   obtain⟨b1,b2,b3,b4⟩:=ih _ _ _ _ h2 a4 ⟨c1,c2⟩
   refine⟨b1,λ _=>b2 rfl,?_,b4⟩
   simp only[Lv.ct] at a3 b3 ⊢;omega
  | teL x =>
   simp only[Zw] at h
   split at h
   ·injection h with h;injection h with e1 e2;subst e1 e2
    exact⟨hlv.2,λ _=>hlv.1,Nat.le_refl _,hg⟩
   rename_i ho
   have ht:=Mg ho
   have hb:=Hc (by decide) (by decide) ho
   obtain⟨y,r1,h1,h2⟩:=Zz h
   obtain⟨a1,a2,a3,a4⟩:=ih _ _ _ _ h1 hg.tail trivial
   obtain⟨c1,c2,c3⟩:=Kp (k:=6) (op:=Yy 5 7 ts) (v:=0) (ln:=Yj ts) hlv.1 (a2 rfl) hlv.2 a1 (.inr ⟨rfl,rfl,hb.1,hb.2⟩)
   obtain⟨b1,b2,b3,b4⟩:=ih _ _ _ _ h2 a4 ⟨c1,c2⟩
   refine⟨b1,λ _=>b2 rfl,?_,b4⟩
   simp only[Lv.ct] at a3 b3 ⊢;omega
  | un =>
   simp only[Zw] at h
   have key:∀ op:Int,1<=op->op<=2->∀ x r1,Sr .un ts.tail x r1->tw ts.tail+60<=tw ts->Sr .un ts (nd 5 op 0 (Yj ts) [] x) r1:=λ op o1 o2 x r1 ⟨a1,a2,a3,a4⟩ ht=>by
    refine⟨⟨.inr (.inr ⟨rfl,rfl,.inl ⟨rfl,o1,o2,a2 rfl⟩⟩),a1,trivial⟩,λ _=>rfl,?_,a4⟩
    show 0+60+x.ct+0+_<=_
    simp only[Lv.ct] at a3 ⊢;omega
   split at h
   ·rename_i hT
    obtain⟨y,r1,h1,h2⟩:=Zz h
    injection h2 with h2;injection h2 with e1 e2;subst e1 e2
    exact key 1 (by decide) (by decide) _ _ (ih _ _ _ _ h1 hg.tail trivial) (Wx hT)
   split at h
   ·rename_i hT
    obtain⟨y,r1,h1,h2⟩:=Zz h
    injection h2 with h2;injection h2 with e1 e2;subst e1 e2
    exact key 2 (by decide) (by decide) _ _ (ih _ _ _ _ h1 hg.tail trivial) (Wx hT)
   exact ih .ca _ _ _ h hg trivial
  | ca =>
   obtain⟨x,r1,h1,h2⟩:=Zz h
   obtain⟨a1,a2,a3,a4⟩:=ih _ _ _ _ h1 hg trivial
   obtain⟨hd,ar,rfl,k1,k2⟩:=Fo.wg1 (a2 rfl) a1
   obtain⟨b1,b2,b3,b4⟩:=ih _ _ _ _ h2 a4 ⟨rfl,a1,λ hp=>k1.k13 (by rw[Bool.and_eq_true] at hp;simpa [Vl] using hp.2)⟩
   refine⟨b1,λ _=>b2 rfl,?_,b4⟩
   simp only[Lv.ct] at a3 b3 ⊢;omega
  | caL p x =>
   simp only[Zw] at h
   split at h
   ·rename_i hT
    have ht:=Wx hT
    obtain⟨y,r1,h1,h2⟩:=Zz h
    obtain⟨a1,a2,a3,a4⟩:=ih _ _ _ _ h1 hg.tail trivial
    obtain⟨hd,ar,rfl,k1,k2⟩:=Fo.wg1 hlv.1 hlv.2.1
    cases p with
    | true =>
     rw[if_pos rfl] at h2
     obtain⟨b1,b2,b3,b4⟩:=ih _ _ _ _ h2 a4 ⟨rfl,⟨.inl ⟨rfl,rfl,.inr (.inr (.inr (.inr (.inr (.inl ⟨rfl,hlv.2.2 rfl⟩)))))⟩,a1,trivial⟩,λ e=>nomatch e⟩
     refine⟨b1,λ _=>b2 rfl,?_,b4⟩
     simp only[Lv.ct,Fo.ct,Vl] at a3 b3 ⊢;omega
    | false =>
     rw[if_neg (by decide)] at h2
     obtain⟨b1,b2,b3,b4⟩:=ih _ _ _ _ h2 a4 ⟨rfl,⟨.inl ⟨rfl,rfl,.inr (.inr (.inr (.inr (.inr (.inr ⟨rfl,rfl,_,_,_,rfl⟩)))))⟩,Fo.wg_app hlv.2.1 a1,trivial⟩,λ e=>nomatch e⟩
     refine⟨b1,λ _=>b2 rfl,?_,b4⟩
     simp only[Lv.ct,Fo.ct,Fo.ct_app,List.length_nil] at a3 b3 ⊢;omega
   injection h with h;injection h with e1 e2;subst e1 e2
   exact⟨hlv.2.1,λ _=>hlv.1,Nat.le_refl _,hg⟩
  | ag first G =>
   simp only[Zw] at h
   split at h
   ·rename_i hT
    have ht:=Wx hT
    injection h with h;injection h with e1 e2;subst e1 e2
    refine⟨hlv,λ e=>(nomatch e),?_,hg.tail⟩
    simp only[Lv.ct];omega
   split at h
   ·obtain⟨x,r1,h1,h2⟩:=Zz h
    obtain⟨a1,a2,a3,a4⟩:=ih _ _ _ _ h1 hg trivial
    obtain⟨b1,b2,b3,b4⟩:=ih _ _ _ _ h2 a4 (Fo.wg_app hlv a1)
    refine⟨b1,λ e=>(nomatch e),?_,b4⟩
    simp only[Lv.ct,Fo.ct_app] at a3 b3 ⊢;omega
   split at h
   ·rename_i hT
    have ht:=Wx hT
    obtain⟨x,r1,h1,h2⟩:=Zz h
    obtain⟨a1,a2,a3,a4⟩:=ih _ _ _ _ h1 hg.tail trivial
    obtain⟨b1,b2,b3,b4⟩:=ih _ _ _ _ h2 a4 (Fo.wg_app hlv a1)
    refine⟨b1,λ e=>(nomatch e),?_,b4⟩
    simp only[Lv.ct,Fo.ct_app] at a3 b3 ⊢;omega
   cases h
  | pr =>
   simp only[Zw] at h
   split at h
   ·rename_i hk
    have ht:=Tu (ts:=ts) (by omega)
    injection h with h;injection h with e1 e2;subst e1 e2
    refine⟨⟨.inr (.inl ⟨rfl,rfl,rfl,(hg.num hk).1,(hg.num hk).2,rfl⟩),trivial,trivial⟩,λ _=>rfl,?_,hg.tail⟩
    simp only[Lv.ct,Fo.ct,List.length_nil];omega
   split at h
   ·rename_i hk
    have ht:=Tu (ts:=ts) (by omega)
    split at h
    ·have ht2:=Wn ts.tail
     obtain⟨x,r1,h1,h2⟩:=Zz h
     obtain⟨a1,a2,a3,a4⟩:=ih _ _ _ _ h1 hg.tail.tail trivial
     split at h2
     ·have ht3:=Wn r1
      injection h2 with h2;injection h2 with e1 e2;subst e1 e2
      refine⟨⟨.inl ⟨rfl,rfl,.inr (.inr (.inr (.inl ⟨rfl,hg.name hk,a2 rfl⟩)))⟩,a1,trivial⟩,λ _=>rfl,?_,a4.tail⟩
      simp only[Lv.ct,Fo.ct] at a3 ⊢;omega
     cases h2
    injection h with h;injection h with e1 e2;subst e1 e2
    refine⟨⟨.inl ⟨rfl,rfl,.inl ⟨rfl,hg.name hk,rfl⟩⟩,trivial,trivial⟩,λ _=>rfl,?_,hg.tail⟩
    simp only[Lv.ct,Fo.ct];omega
   split at h
   ·split at h
    ·rename_i hT hk
     have ht:=Wx hT
     have ht2:=Tu (ts:=ts.tail) (by omega)
     injection h with h;injection h with e1 e2;subst e1 e2
     refine⟨⟨.inl ⟨rfl,rfl,.inr (.inr (.inl ⟨rfl,hg.tail.name hk,rfl⟩))⟩,trivial,trivial⟩,λ _=>rfl,?_,hg.tail.tail⟩
     simp only[Lv.ct,Fo.ct];omega
    cases h
   split at h
   ·rename_i hT
    have ht:=Wx hT
    injection h with h;injection h with e1 e2;subst e1 e2
    refine⟨⟨.inl ⟨rfl,rfl,.inr (.inl ⟨rfl,rfl,rfl⟩)⟩,trivial,trivial⟩,λ _=>rfl,?_,hg.tail⟩
    simp only[Lv.ct,Fo.ct,List.length_nil];omega
   split at h
   ·rename_i hT
    have ht:=Wx hT
    obtain⟨x,r1,h1,h2⟩:=Zz h
    obtain⟨a1,a2,a3,a4⟩:=ih _ _ _ _ h1 hg.tail trivial
    split at h2
    ·have ht3:=Wn r1
     injection h2 with h2;injection h2 with e1 e2;subst e1 e2
     refine⟨a1,λ _=>a2 rfl,?_,a4.tail⟩
     simp only[Lv.ct] at a3 ⊢;omega
    cases h2
   cases h
def Bw (B b:Nat) (t:Bt) (w:World):Prop:=Lib.IsBuilder 78 5 B b (Lib.byteCells t) w
theorem Bw.lt {B b:Nat} {t:Bt} {w:World} (h:Bw B b t w):B<=b/\b<w.heap.size:=by
 rcases h with h|h
 ·exact⟨h.1,h.lt⟩
 exact⟨h.1,h.lt⟩
theorem Bw.at {B b:Nat} {t:Bt} {w:World} (h:Bw B b t w):∃ p,Lib.BuilderAt 78 5 B b p (Lib.byteCells t) w:=by
 rcases h with h|h
 ·exact⟨_,h⟩
 exact⟨_,h⟩
theorem Bw.keep {B b:Nat} {t:Bt} {w w':World} (h:Bw B b t w) (hb:Below w.heap.size w w'):Bw B b t w':=by
 have key:∀ p,Lib.BuilderAt 78 5 B b p (Lib.byteCells t) w->Lib.BuilderAt 78 5 B b p (Lib.byteCells t) w':=by
  rintro p ⟨h1,v,h2,h3,h4⟩
  refine⟨h1,v,?_,?_,h4⟩
  ·rw[hb.block b (Array.getElem?_eq_some_iff.1 h2).1];exact h2
  exact h3.kept (row:=none) ⟨hb.os,hb.tape,hb.output,hb.size,λ k hk _=>hb.block k hk⟩ (by cases v.ownBlock<;>simp)
 rcases h with h|h
 ·exact .inl (key _ h)
 exact .inr (key _ h)
structure WK (B b:Nat) (w w':World):Prop where
 be:Below B w w'
 ok:Lib.OthersKept 5 (some b) w w'
theorem WK.trans {B b:Nat} {w w' w'':World} (h:WK B b w w') (k:WK B b w' w''):WK B b w w'':=⟨h.be.trans k.be,h.ok.trans k.ok⟩
theorem WK.refl (B b:Nat) (w:World):WK B b w w:=⟨Below.refl _ _,Lib.OthersKept.refl _ _ _⟩
theorem WK.of {B b:Nat} {w w':World} (h:Below w.heap.size w w') (hB:B<=w.heap.size):WK B b w w' :=
 ⟨h.mono hB,λ k o hk _ _=>by rw[h.block k (Array.getElem?_eq_some_iff.1 hk).1];exact hk⟩
theorem WK.row {B b k:Nat} {w w':World} {cs:Array Value} {T:TypeId} {f:Nat×Nat} (h:WK B b w w') (hk:w.heap[k]?=some (.cells cs T f)) (hT:T≠5) (hb:k≠b):w'.heap[k]?=some (.cells cs T f) :=
 h.ok k _ hk (λ e=>hb (Option.some.inj e)) (λ c fz e=>by injection e with _ e _;exact hT e)
theorem Dw:∃ j,Tryz.prog.info? 76=some j/\j.size≠0:=by
 have h:(Tryz.prog.info? 76).map (λ i=>i.size)=some 2:=by kernel_rfl
 obtain⟨j,hj,h2⟩:=Option.map_eq_some_iff.1 h
 exact⟨j,hj,by rw[h2];decide⟩
theorem Wb:(Tryz.prog.info? 5).map (λ i=>(i.zero,i.size,i.bytes))=some (some (.int .u8 0),1,1):=by kernel_rfl
theorem Nl (b:Nat) (w:World) (h0:w.cell? ⟨b,0,none⟩=some (.pointer none)) (hsh:w.shape? b=some (78,2)) (hfz:w.frozen? ⟨b,0,none⟩=false) :
  Calls Tryz.prog 76 #[.pointer (some ⟨b,0,none⟩)] w λ e w'=>e=.returned (.tuple #[])/\w'=w.setCell ⟨b,0,none⟩ (.pointer (some ⟨b,0,none⟩)):=by
 obtain⟨j,hj,hjs⟩:=Dw
 have q1:=Lib.run_to_unsafe (P:=Tryz.prog) w (src:=74) (dst:=176) (t:=76) ⟨b,0,none⟩ (by kernel_rfl) (by kernel_rfl) hj hjs hsh (Nat.zero_lt_succ 1)
 have q2:=Lib.run_from_unsafe (P:=Tryz.prog) w (src:=176) (dst:=74) (u:=76) ⟨b,0,none⟩ (by kernel_rfl) (by kernel_rfl) hj hsh (by kernel_rfl)
 have q3:(callFunc 127 #[.pointer (some ⟨b,0,none⟩)]).run Tryz.prog w=.ok (.value (.pointer (some ⟨b,0,none⟩))) w:=by
  rw[run_callFunc_extern (fn:=Tryz.f127) (by kernel_rfl) (by kernel_rfl) (by kernel_rfl) (by kernel_rfl) (e:=Extern.AbiNoEscape.same) (by kernel_rfl)]
  rw[Lib.run_noEscape];rfl
 go_enter Tryz.func76,Tryz.ntmps76
 go_wp2
 go_end0
 exact⟨rfl,rfl⟩
theorem Su (b:Nat) (w:World) (h0:w.cell? ⟨b,0,none⟩=some (.pointer (some ⟨b,0,none⟩))) :
  Calls Tryz.prog 76 #[.pointer (some ⟨b,0,none⟩)] w λ e w'=>e=.returned (.tuple #[])/\w'=w:=by
 obtain⟨j,hj,hjs⟩:=Dw
 have hq:=Lib.run_neq_ptr_same (P:=Tryz.prog) w (tp:=74) (te:=76) ⟨b,0,none⟩ (by kernel_rfl) hj
 go_enter Tryz.func76,Tryz.ntmps76
 go_wp2
 go_end0
 exact⟨rfl,rfl⟩
theorem Dn (B b:Nat) (t:Bt) (w:World) (h:Bw B b t w) :
  Calls Tryz.prog 76 #[.pointer (some ⟨b,0,none⟩)] w λ e w'=>e=.returned (.tuple #[])/\Lib.BuilderAt 78 5 B b (.pointer (some ⟨b,0,none⟩)) (Lib.byteCells t) w'/\WK B b w w':=by
 rcases h with h|h
 ·refine(Nl b w h.cell0 h.shape h.frozen0).mono ?_
  rintro e w' ⟨rfl,rfl⟩
  exact⟨rfl,h.used _,(Below.refl B w).setCell (p:=⟨b,0,none⟩) h.1 _,(Lib.OthersKept.refl _ _ w).setCell ⟨b,0,none⟩ rfl _⟩
 refine(Su b w h.cell0).mono ?_
 rintro e w' ⟨rfl,rfl⟩
 exact⟨rfl,h,WK.refl B b _⟩
theorem Cq (B b:Nat) (t s:Bt) (w:World) (h:Bw B b t w) (hl:t.length+s.length<=100000000) :
  Calls Tryz.prog 42 #[.pointer (some ⟨b,0,none⟩),.string (st s)] w λ e w'=>e=.returned (.tuple #[.int .i64 s.length,.nilIface])/\Bw B b (t++s) w'/\WK B b w w':=by
 obtain⟨i0,hi,hz0,hz1,hz2⟩:=info_parts Wb
 have HBd:=Xj h
 have hbw:=h.lt
 clear h
 have hsz:(st s).size=s.length:=by show s.toArray.size=_;simp
 go_enter Tryz.func42,Tryz.ntmps42
 go_wp2_with (go_at_call 76;refine(Dn B b t _ HBd.o).mono ?_)
 rintro e w1 ⟨rfl,⟨hB,v,hbk,hjk,hne⟩,hb1,ho1⟩
 have c0:w1.cell? ⟨b,0,none⟩=some (.pointer (some ⟨b,0,none⟩)):=by rw[Lib.cell_of_heap hbk];rfl
 have c1:w1.cell? ⟨b,1,none⟩=some v:=by rw[Lib.cell_of_heap hbk];rfl
 go_wp2_with (at_builtin;refine Lib.wpList_append_own_string _ rfl _ _ 22 9 rfl B 5 i0 (by kernel_rfl) (by kernel_rfl) hi hz0 hz1 hz2 _ _ _ rfl hjk (st s) rfl ?c3 ?c4 ?c5 ?_)
 case c3=>rw[Lib.byteCells_length,hsz];unfold maxLen;omega
 case c4=>rw[Lib.byteCells_length,hsz];omega
 case c5=>have:=hb1.size;omega
 intro v' w2 hown' hgrow _
 have hlt:b<w1.heap.size:=(Array.getElem?_eq_some_iff.1 hbk).1
 have hb2:w2.heap[b]?=some (.cells #[.pointer (some ⟨b,0,none⟩),v] 78 (0,0)):=by
  rw[hgrow.block b hlt (λ e=>hne e.symm)]
  exact hbk
 have d0:w2.cell? ⟨b,0,none⟩=some (.pointer (some ⟨b,0,none⟩)):=by rw[Lib.cell_of_heap hb2];rfl
 have d1:w2.cell? ⟨b,1,none⟩=some v:=by rw[Lib.cell_of_heap hb2];rfl
 have f1:w2.frozen? ⟨b,1,none⟩=false:=Lib.frozen_of_heap hb2 1
 obtain⟨ao,n',cap,rfl⟩:∃ ao n' cap,v'=.slice ao n' cap:=by
  rcases hown'.2 with⟨hv,_⟩|⟨g,cap,cur,hv,_⟩
  ·exact⟨_,_,_,hv⟩
  exact⟨_,_,_,hv⟩
 rw[Lib.strCells_eq,show (st s).data.toList=s from rfl,<- Lib.byteCells_append,Lib.byteCells_length] at hown'
 have HN:=Xj (Lib.BuilderAt.put (T:=78) (e:=5) hB hb2 (bs':=Lib.byteCells (t++s)) (by rw[Lib.byteCells_length,List.length_append];exact hown') (by decide))
 have hki:∀ g,v.ownBlock=some g->∃ c fz,w1.heap[g]?=some (.cells c 5 fz):=by
  intro g hg
  rcases hjk.2 with⟨rfl,_⟩|⟨g',cap,cur,rfl,_,hgg,_⟩
  ·simp[Value.ownBlock] at hg
  simp[Value.ownBlock] at hg
  subst hg
  exact⟨cur,_,hgg⟩
 have HO:=Xj ((ho1.grown hgrow hki).setCell ⟨b,1,none⟩ rfl (.slice ao n' cap))
 have HF:=Xj ((hb1.grown hgrow (by have:=hb1.size;omega) (λ k hk=>(hjk.lt k hk).1)).setCell (p:=⟨b,1,none⟩) hB (.slice ao n' cap))
 clear hjk hown' hgrow hb1 ho1 hki
 go_wp2
 refine bodyPost_ret (v:=.tuple #[.int .i64 s.length,.nilIface]) (by simp[results,Tryz.results42,go_sem]) rfl ?_
 exact⟨rfl,.inr HN.o,HF.o,HO.o⟩
theorem Cx (B b:Nat) (t:Bt) (c:UInt8) (w:World) (h:Bw B b t w) (hl:t.length<=100000000) :
  Calls Tryz.prog 87 #[.pointer (some ⟨b,0,none⟩),.int .u8 c.toNat] w λ e w'=>e=.returned .nilIface/\Bw B b (t++[c]) w'/\WK B b w w':=by
 obtain⟨i0,hi,hz0,hz1,hz2⟩:=info_parts Wb
 have HBd:=Xj h
 have hbw:=h.lt
 clear h
 go_enter Tryz.func87,Tryz.ntmps87
 go_wp2_with (go_at_call 76;refine(Dn B b t _ HBd.o).mono ?_)
 rintro e w1 ⟨rfl,⟨hB,v,hbk,hjk,hne⟩,hb1,ho1⟩
 have c0:w1.cell? ⟨b,0,none⟩=some (.pointer (some ⟨b,0,none⟩)):=by rw[Lib.cell_of_heap hbk];rfl
 have c1:w1.cell? ⟨b,1,none⟩=some v:=by rw[Lib.cell_of_heap hbk];rfl
 go_wp2_with (at_builtin;refine wpList_append_own _ rfl _ _ 22 rfl B 5 i0 (.int .u8 0) 1 1 (by kernel_rfl) hi hz0 hz1 hz2 rfl (by decide) _ _ _ rfl (hjk.alloc _) ⟨w1.heap.size,0,none⟩ 1 1 [.int .u8 c.toNat] rfl rfl ?c1 ?c2 ?c3 ?c4 ?c5 ?_)
 case c1 =>
  intro j u hj
  match j,hj with
  | 0,hj=>simp at hj;subst hj;simp[Addr.add]
 case c2=>intro u hu;simp at hu;subst hu;rfl
 case c3=>rw[Lib.byteCells_length];unfold maxLen;omega
 case c4=>rw[Lib.byteCells_length];omega
 case c5=>have:=hb1.size;simp;omega
 intro v' w2 hown' hgrow _
 have hlt:b<w1.heap.size:=(Array.getElem?_eq_some_iff.1 hbk).1
 have hb2:w2.heap[b]?=some (.cells #[.pointer (some ⟨b,0,none⟩),v] 78 (0,0)):=by
  rw[hgrow.block b (by simp;omega) (λ e=>hne e.symm),Lib.alloc_old w1 _ b hlt]
  exact hbk
 have d0:w2.cell? ⟨b,0,none⟩=some (.pointer (some ⟨b,0,none⟩)):=by rw[Lib.cell_of_heap hb2];rfl
 have d1:w2.cell? ⟨b,1,none⟩=some v:=by rw[Lib.cell_of_heap hb2];rfl
 have f1:w2.frozen? ⟨b,1,none⟩=false:=Lib.frozen_of_heap hb2 1
 obtain⟨ao,n',cap,rfl⟩:∃ ao n' cap,v'=.slice ao n' cap:=by
  rcases hown'.2 with⟨hv,_⟩|⟨g,cap,cur,hv,_⟩
  ·exact⟨_,_,_,hv⟩
  exact⟨_,_,_,hv⟩
 rw[show Lib.byteCells t++[Value.int .u8 c.toNat]=Lib.byteCells (t++[c]) from by rw[Lib.byteCells_append];rfl,Lib.byteCells_length] at hown'
 have HN:=Xj (Lib.BuilderAt.put (T:=78) (e:=5) hB hb2 (bs':=Lib.byteCells (t++[c])) (by rw[Lib.byteCells_length,List.length_append];exact hown') (by decide))
 have hki:∀ g,v.ownBlock=some g->∃ c fz,w1.heap[g]?=some (.cells c 5 fz):=by
  intro g hg
  rcases hjk.2 with⟨rfl,_⟩|⟨g',cap,cur,rfl,_,hgg,_⟩
  ·simp[Value.ownBlock] at hg
  simp[Value.ownBlock] at hg
  subst hg
  exact⟨cur,_,hgg⟩
 have HO:=Xj (((ho1.alloc _).grown hgrow (λ g hg=>(hki g hg).imp λ c h=>h.imp λ fz h2=>by rw[Lib.alloc_old w1 _ g (Array.getElem?_eq_some_iff.1 h2).1];exact h2)).setCell ⟨b,1,none⟩ rfl (.slice ao n' cap))
 have HF:=Xj (((hb1.alloc (by have:=hb1.size;omega) _).grown hgrow (by have:=hb1.size;simp;omega) (λ k hk=>(hjk.lt k hk).1)).setCell (p:=⟨b,1,none⟩) hB (.slice ao n' cap))
 clear hjk hown' hgrow hb1 ho1 hki
 go_wp2
 refine bodyPost_ret (v:=.nilIface) (by simp[results,Tryz.results87,go_sem]) rfl ?_
 exact⟨rfl,.inr HN.o,HF.o,HO.o⟩
theorem Tf (B b:Nat) (t:Bt) (w:World) (h:Bw B b t w) (h0:t≠[]) :
  Calls Tryz.prog 46 #[.pointer (some ⟨b,0,none⟩)] w λ e w'=>e=.returned (.string (st t))/\Below B w w':=by
 obtain⟨p,hB,v,hbk,hjk,hne⟩:=h.at
 rw[Lib.byteCells_length] at hjk
 have hl0:t.length≠0:=by simpa using h0
 obtain⟨g,cap,cur,rfl,hbg,hg,hnc,hcm,hcs,htake⟩:∃ g cap cur,v=.slice (some ⟨g,0,none⟩) t.length cap/\B<=g/\w.heap[g]?=some (.cells cur 5 (0,0))/\t.length<=cap/\cap<=maxLen/\cur.size=cap*1/\cur.toList.take (t.length*1)=Lib.byteCells t:=by
  rcases hjk.2 with⟨_,hz⟩|⟨g,cap,cur,hv,r⟩
  ·exact absurd hz hl0
  exact⟨g,cap,cur,hv,r⟩
 have c1:w.drew.cell? ⟨b,1,none⟩=some (.slice (some ⟨g,0,none⟩) t.length cap):=by
  have:w.drew.heap[b]?=some (.cells #[p,.slice (some ⟨g,0,none⟩) t.length cap] 78 (0,0)):=hbk
  rw[Lib.cell_of_heap this];rfl
 have hSD:(Builtin.unsafeSliceData_ #[22] 135 #[.slice (some ⟨g,0,none⟩) t.length cap]).run Tryz.prog w.drew=.ok (.pointer (some ⟨g,0,none⟩)) w.drew :=
  Lib.run_unsafeSliceData_row _ _ _ _ _ _ (by omega)
 have hUS:(Builtin.unsafeString_ #[135,3] 9 #[.pointer (some ⟨g,0,none⟩),.int .i64 t.length]).run Tryz.prog w.drew=.ok (.string (st t)) (w.drew.freeze ⟨g,0,none⟩ t.length):=by
  refine Lib.run_unsafeString_row w.drew 135 3 9 5 (by kernel_rfl) (by kernel_rfl) g cur.size (by have hg':w.drew.heap[g]?=some (.cells cur 5 (0,0)):=hg;simp[World.shape?,hg']) t h0 (by omega) (by unfold maxLen at hcm;omega) ?_
  intro j x hx
  have:=hjk.cells (g:=g) rfl j (.int .u8 x.toNat) (by simp[Lib.byteCells,hx])
  exact this
 go_enter Tryz.func46,Tryz.ntmps46
 go_wp2
 have mixed:Tryz.prog.follows .mixedOrders=true:=by kernel_rfl
 go_region_o
 all_goals (go_wp2;go_ret;exact⟨rfl,Lib.below_freeze (Below.drew (Below.refl B w)) (p:=⟨g,0,none⟩) hbg _⟩)
structure LB (B:Nat) (w:World):Prop where
 lad:Lad w
 b1:3<B
 b2:2<B
 b3:0<B
theorem LB.of {w:World} (h:Lad w):LB w.heap.size w:=by
 have h0:=h
 obtain⟨⟨t1,p1,h1⟩,⟨t2,p2,h2⟩,h3⟩:=h
 exact⟨h0,Vz Ur h1,Vz Gp h2,Vz Gb h3⟩
theorem LB.below {B:Nat} {w w':World} (h:LB B w) (hb:Below B w w'):LB B w':=by
 obtain⟨⟨⟨t1,p1,h1⟩,⟨t2,p2,h2⟩,h3⟩,b1,b2,b3⟩:=h
 exact⟨⟨⟨t1,p1,var?_below hb Ur b1 h1⟩,⟨t2,p2,var?_below hb Gp b2 h2⟩,var?_below hb Gb b3 h3⟩,b1,b2,b3⟩
structure Bd (B b:Nat) (t:Bt) (w:World):Prop where
 bw:Bw B b t w
 lb:LB B w
theorem Bd.lt {B b:Nat} {t:Bt} {w:World} (h:Bd B b t w):B<=b/\b<w.heap.size:=h.bw.lt
theorem Bd.keep {B b:Nat} {t:Bt} {w w':World} (h:Bd B b t w) (hb:Below w.heap.size w w'):Bd B b t w':=⟨h.bw.keep hb,h.lb.below (hb.mono (by have:=h.lt;omega))⟩
theorem Jx (B b:Nat) (t s:Bt) (w:World) (h:Bd B b t w) (hl:t.length+s.length<=100000000) :
  Calls Tryz.prog 42 #[.pointer (some ⟨b,0,none⟩),.string (st s)] w λ e w'=>e=.returned (.tuple #[.int .i64 s.length,.nilIface])/\Bd B b (t++s) w'/\WK B b w w' :=
 (Cq B b t s w h.bw hl).mono λ _ _ ⟨h1,h2,h3⟩=>⟨h1,⟨h2,h.lb.below h3.be⟩,h3⟩
theorem Kz (B b:Nat) (t:Bt) (c:UInt8) (w:World) (h:Bd B b t w) (hl:t.length<=100000000) :
  Calls Tryz.prog 87 #[.pointer (some ⟨b,0,none⟩),.int .u8 c.toNat] w λ e w'=>e=.returned .nilIface/\Bd B b (t++[c]) w'/\WK B b w w' :=
 (Cx B b t c w h.bw hl).mono λ _ _ ⟨h1,h2,h3⟩=>⟨h1,⟨h2,h.lb.below h3.be⟩,h3⟩
theorem Xv.belowB {B:Nat} {w w':World} {ar:Fo} {sl:Value} (h:Xv w (λ k=>k<B) ar sl) (hb:Below B w w'):Xv w' (λ k=>k<B) ar sl:=h.keep (λ b h1 hlt=>⟨hb.block b h1,h1⟩) hb.size
def WP (B b:Nat) (t:Bt) (W:World) (e:Ending) (w':World):Prop:=e=.returned (.tuple #[])/\Bd B b t w'/\WK B b W w'
def enc (q:Bool) (s:Bt):Bt:=match q with|true=>Zq s|false=>s
def PE (h:Hd) (ar:Fo):Prop:=∀ (W:World) (sl:Value) (B b:Nat) (t:Bt),Xv W (λ k=>k<B) ar sl->Bd B b t W->t.length+(Xn h ar).length<=90000000 ->
 Calls Tryz.prog 51 #[.pointer (some ⟨b,0,none⟩),exv h sl] W (WP B b (t++Xn h ar) W)
structure BX (B b:Nat) (t:Bt) (h:Hd) (ar:Fo) (a:Option Addr) (c:Nat) (W w1:World) (g:Nat):Prop where
 bd:Bd B b t w1
 wk:WK B b W w1
 at':Xv w1 (λ k=>k<B) ar (.slice a ar.len c)
 row:w1.heap[g]?=some (.cells #[.int .i64 h.k,.int .i64 h.op,.int .i64 h.v,.int .i64 h.ln,.string (st h.nm),.slice a ar.len c] 37 (0,0))
 gb:b<g
 gB:B<=g
 hc:c<=9223372036854775807/\ar.len<=c
theorem BX.next {B b:Nat} {t t':Bt} {h:Hd} {ar:Fo} {a:Option Addr} {c:Nat} {W w1 w2:World} {g:Nat} (X:BX B b t h ar a c W w1 g) (hb:Bd B b t' w2) (hk:WK B b w1 w2):BX B b t' h ar a c W w2 g :=
 ⟨hb,X.wk.trans hk,X.at'.belowB hk.be,hk.row X.row (by decide) (by have:=X.gb;omega),X.gb,X.gB,X.hc⟩
theorem BX.below {B b:Nat} {t:Bt} {h:Hd} {ar:Fo} {a:Option Addr} {c:Nat} {W w1 w2:World} {g:Nat} (X:BX B b t h ar a c W w1 g) (hk:Below w1.heap.size w1 w2):BX B b t h ar a c W w2 g :=
 X.next (X.bd.keep hk) (WK.of hk (by have:=X.bd.lt;omega))
theorem Ug {B b:Nat} {t:Bt} {h:Hd} {ar:Fo} {sl:Value} {W:World} (ha:Xv W (λ k=>k<B) ar sl) (hb:Bd B b t W) :
  ∃ a c w1 g,sl=.slice a ar.len c/\W.alloc (.cells #[.int .i64 h.k,.int .i64 h.op,.int .i64 h.v,.int .i64 h.ln,.string (st h.nm),.slice a ar.len c] 37)=w1/\W.heap.size=g/\BX B b t h ar a c W w1 g:=by
 have ha0:=ha
 obtain⟨a,c,rws,rfl,hlc,hcm,-,-,-⟩:=ha
 have hl:=hb.lt
 have hb0:=Xk W (.cells #[.int .i64 h.k,.int .i64 h.op,.int .i64 h.v,.int .i64 h.ln,.string (st h.nm),.slice a ar.len c] 37)
 refine⟨a,c,_,_,rfl,rfl,rfl,hb.keep hb0,WK.of hb0 (by omega),ha0.belowB (hb0.mono (by omega)),heap_alloc_new W _,hl.2,by omega,by unfold maxLen at hcm;omega,hlc⟩
theorem Wu (op:Int) (h0:0<=op) (h1:op<=11) (w:World):Calls Tryz.prog 88 #[.int .i64 op] w λ e w'=>e=.returned (.string (st (sgn op)))/\Below w.heap.size w w':=by
 have h:op=0\/op=1\/op=2\/op=3\/op=4\/op=5\/op=6\/op=7\/op=8\/op=9\/op=10\/op=11:=by omega
 clear h0 h1
 rcases h with rfl|rfl|rfl|rfl|rfl|rfl|rfl|rfl|rfl|rfl|rfl|rfl
 all_goals (
  go_enter Tryz.func88,Tryz.ntmps88
  go_wp2_with fail
  go_ret
  exact⟨rfl,Below.refl _ _⟩)
theorem Nm (xs:List Int) (v:Int) (w:World) (g cap:Nat) (hn:xs.length<=100) (hc:xs.length<=cap) (hx:∀ j z,xs[j]?=some z->w.cell? ⟨g,j,none⟩=some (.int .i64 z)) :
  Calls Tryz.prog 166 #[.slice (some ⟨g,0,none⟩) xs.length cap,.int .i64 v] w λ e w'=>(∃ i:Int,e=.returned (.int .i64 i)/\decide (0<=i)=xs.contains v)/\w'=w:=by
 have HX:=Xj hx
 clear hx
 obtain⟨n,hn2⟩:∃ n,xs.length=n:=⟨_,rfl⟩
 rw[hn2] at hn hc ⊢
 have HN:=Xj hn2
 clear hn2
 go_enter Tryz.func166,Tryz.ntmps166
 go_upto_block 0 with fail
 go_wp2_with fail
 go_loop [8] (λ v8=>∃ i:Nat,i<=n/\v8=.int .i64 i/\Xq (∀ j z,j<i->xs[j]?=some z->z≠v)) (λ v8=>n-(intOf v8).toNat)
 case atStart=>exact⟨0,by omega,rfl,Xj (λ j z hj=>absurd hj (by omega))⟩
 obtain⟨i,hi,rfl,HR⟩:=hrel
 by_cases hlt:i<n
 ·obtain⟨z,hz⟩:∃ z,xs[i]?=some z:=⟨_,List.getElem?_eq_getElem (by rw[HN.o];exact hlt)⟩
  have k0:=HX.o i z hz
  have HZ:=Xj hz
  clear hz
  by_cases hv:v=z
  ·subst hv
   go_wp2_with fail
   go_ret
   refine⟨⟨_,rfl,?_⟩,rfl⟩
   exact⟨λ _=>List.mem_of_getElem? HZ.o,λ _=>by omega⟩
  go_wp2_with fail
  go_round
  case rel =>
   refine⟨i+1,by omega,by go_num,Xj (λ j z' hj hz'=>?_)⟩
   by_cases hji:j=i
   ·subst hji;rw[HZ.o] at hz';injection hz' with hz';subst hz';exact λ e=>hv e.symm
   exact HR.o j z' (by omega) hz'
  simp[intOf];omega
 obtain rfl:i=n:=by omega
 go_wp2_with fail
 go_ret
 refine⟨⟨-1,rfl,?_⟩,rfl⟩
 refine⟨λ hm=>absurd hm (by omega),λ hm=>?_⟩
 exfalso
 obtain⟨j,hj,e⟩:=List.mem_iff_getElem.1 hm
 exact HR.o j v (by rw[<- HN.o];exact hj) (by rw[List.getElem?_eq_getElem hj,e]) rfl
theorem Ey (xs:List Int) (v:Int) (w:World) (g cap:Nat) (hn:xs.length<=100) (hc:xs.length<=cap) (hx:∀ j z,xs[j]?=some z->w.cell? ⟨g,j,none⟩=some (.int .i64 z)) :
  Calls Tryz.prog 138 #[.slice (some ⟨g,0,none⟩) xs.length cap,.int .i64 v] w λ e w'=>e=.returned (.bool (xs.contains v))/\w'=w:=by
 have HI:=Xj (Nm xs v w g cap hn hc hx)
 clear hx
 go_enter Tryz.func138,Tryz.ntmps138
 go_wp2_with fail
 refine HI.o.mono ?_
 rintro e w' ⟨⟨i,rfl,hi⟩,rfl⟩
 have HII:=Xj hi
 clear hi
 go_wp2_with fail
 refine bodyPost_ret (v:=.bool (decide (0<=i))) (by simp[results,Tryz.results138,go_sem]) rfl ?_
 exact⟨by rw[HII.o],rfl⟩
theorem Vm (h:Hd) (ar:Fo) (hE:PE h ar) (ks:List Int) (W:World) (sl:Value) (B b:Nat) (t:Bt) (gk ck:Nat) (ha:Xv W (λ k=>k<B) ar sl) (hb:Bd B b t W) (hn:ks.length<=100) (hc:ks.length<=ck)
  (hk:W.heap[gk]?=some (.cells (ks.map (Value.int .i64)).toArray 3 (0,0))) (hl:t.length+(enc (ks.contains h.k) (Xn h ar)).length<=90000000) :
  Calls Tryz.prog 92 #[.pointer (some ⟨b,0,none⟩),exv h sl,.slice (some ⟨gk,0,none⟩) ks.length ck] W (WP B b (t++enc (ks.contains h.k) (Xn h ar)) W):=by
 have HE:=Xj hE
 clear hE
 obtain⟨a,c,w1,g,rfl,hw1,hg,hX⟩:=Ug (h:=h) ha hb
 have hkg:gk<W.heap.size:=(Array.getElem?_eq_some_iff.1 hk).1
 have hk1:w1.heap[gk]?=some (.cells (ks.map (Value.int .i64)).toArray 3 (0,0)):=by rw[<- hw1,Lib.alloc_old W _ gk hkg];exact hk
 obtain⟨cb,hcb⟩:∃ x,ks.contains h.k=x:=⟨_,rfl⟩
 have hc0:=(Ey ks h.k w1 gk ck hn hc (λ j z hj=>by rw[cell_of_row _ _ _ _ _ _ hk1];simp[hj]))
 rw[hcb] at hc0 hl ⊢
 have HC:=Xj hc0
 have HX:=Xj hX
 clear hk hk1 hkg ha hb hcb hc0
 obtain⟨p0,p1,p2,p3,p4,p5⟩:=Yq hX.row
 have hlt:=hX.bd.lt
 clear hX
 go_enter Tryz.func92,Tryz.ntmps92
 go_upto_region 1 with fail
 (try rw[hw1])
 (try rw[hg])
 clear hw1 hg
 go_wp2_with fail
 refine HC.o.mono ?_
 rintro e w' ⟨rfl,rfl⟩
 cases cb
 ·have hl2:t.length+(Xn h ar).length<=90000000:=hl
  go_wp2_with fail
  refine(HE.o _ _ B b t HX.o.at' HX.o.bd (by omega)).mono ?_
  rintro e w2 ⟨rfl,hb2,hk2⟩
  have HB2:=Xj hb2
  have HK2:=Xj (HX.o.wk.trans hk2)
  clear hb2 hk2
  go_wp2_with fail
  refine bodyPost_ret (results_none rfl _ _ _) rfl ?_
  exact⟨rfl,HB2.o,HK2.o⟩
 have hl2:t.length+((Xn h ar).length+2)<=90000000:=by have:=hl;unfold enc Zq at this;simpa using this
 go_wp2_with fail
 refine(Kz B b t 40 _ HX.o.bd (by omega)).mono ?_
 rintro e w2 ⟨rfl,hb2,hk2⟩
 have HY:=Xj (HX.o.next hb2 hk2)
 obtain⟨q0,q1,q2,q3,q4,q5⟩:=Yq HY.o.row
 clear hb2 hk2 p0 p1 p2 p3 p4 p5
 go_wp2_with fail
 refine(HE.o _ _ B b (t++[40]) HY.o.at' HY.o.bd (by rw[List.length_append];show _+1+_<=_;omega)).mono ?_
 rintro e w3 ⟨rfl,hb3,hk3⟩
 have HZ:=Xj (HY.o.next hb3 hk3)
 clear hb3 hk3 q0 q1 q2 q3 q4 q5
 go_wp2_with fail
 refine(Kz B b _ 41 _ HZ.o.bd (by simp only[List.length_append,List.length_cons,List.length_nil];omega)).mono ?_
 rintro e w4 ⟨rfl,hb4,hk4⟩
 have HB4:=Xj hb4
 have HK4:=Xj (HZ.o.wk.trans hk4)
 clear hb4 hk4
 go_wp2_with fail
 refine bodyPost_ret (results_none rfl _ _ _) rfl ?_
 refine⟨rfl,?_,HK4.o⟩
 have:=HB4.o
 simp only[List.append_assoc] at this
 exact this
theorem Dp (h:Hd) (s:Bt):enc ([5,6,7,8].contains h.k) s=opd h s:=by
 unfold opd Qh enc
 by_cases h5:h.k=5
 ·simp[h5]
 by_cases h6:h.k=6
 ·simp[h6]
 by_cases h7:h.k=7
 ·simp[h7]
 by_cases h8:h.k=8
 ·simp[h8]
 simp[h5,h6,h7,h8]
theorem Jh (h:Hd) (ar:Fo) (hE:PE h ar) (W:World) (sl:Value) (B b:Nat) (t:Bt) (ha:Xv W (λ k=>k<B) ar sl) (hb:Bd B b t W) (hl:t.length+(opd h (Xn h ar)).length<=90000000) :
  Calls Tryz.prog 89 #[.pointer (some ⟨b,0,none⟩),exv h sl] W (WP B b (t++opd h (Xn h ar)) W):=by
 obtain⟨a,c,w1,g,rfl,hw1,hg,hX⟩:=Ug (h:=h) ha hb
 have HX:=Xj hX
 clear ha hb
 obtain⟨p0,p1,p2,p3,p4,p5⟩:=Yq hX.row
 have hlt:=hX.bd.lt
 clear hX
 go_enter Tryz.func89,Tryz.ntmps89
 go_upto_region 1 with fail
 (try rw[hw1])
 (try rw[hg])
 clear hw1 hg
 have hb2:=Xk w1 (.cells ([5,6,7,8].map (Value.int .i64)).toArray 3)
 have HY:=Xj (HX.o.below hb2)
 have HK:=Xj (Vm h ar hE [5,6,7,8] _ (.slice a ar.len c) B b t w1.heap.size 4 HY.o.at' HY.o.bd (by decide) (by decide) (heap_alloc_new w1 _) (by rw[Dp];exact hl))
 clear hb2 hE
 go_wp2_with fail
 refine HK.o.mono ?_
 rintro e w3 ⟨rfl,hb3,hk3⟩
 have HB3:=Xj hb3
 have HK3:=Xj (HY.o.wk.trans hk3)
 clear hb3 hk3
 go_wp2_with fail
 refine bodyPost_ret (results_none rfl _ _ _) rfl ?_
 refine⟨rfl,?_,HK3.o⟩
 have:=HB3.o
 rw[Dp] at this
 exact this
theorem Dh {w:World} {B:Nat} {ar:Fo} {a:Option Addr} {c:Nat} (h:Xv w (λ k=>k<B) ar (.slice a ar.len c)) {x:Hd×Fo} (hj:ar.get 0=some x) :
  ∃ b off asl csl,a=some ⟨b,off,none⟩/\Xq (Xv w (λ k=>k<B) x.2 (.slice asl x.2.len csl))/\w.cell? ⟨b,off,none⟩=some (.int .i64 x.1.k)/\w.cell? ⟨b,off+1,none⟩=some (.int .i64 x.1.op)/\w.cell? ⟨b,off+2,none⟩=some (.int .i64 x.1.v)/\w.cell? ⟨b,off+3,none⟩=some (.int .i64 x.1.ln)/\w.cell? ⟨b,off+4,none⟩=some (.string (st x.1.nm))/\w.cell? ⟨b,off+5,none⟩=some (.slice asl x.2.len csl):=by
 obtain⟨b,off,asl,csl,e,hb,_,ha,hk⟩:=h.elemP hj
 rw[Nat.zero_mul,Nat.add_zero] at hk
 exact⟨b,off,asl,csl,e,Xj ha,hk 0 _ rfl,hk 1 _ rfl,hk 2 _ rfl,hk 3 _ rfl,hk 4 _ rfl,hk 5 _ rfl⟩
theorem Iz {w:World} {B:Nat} {ar:Fo} {b off c:Nat} (h:Xv w (λ k=>k<B) ar (.slice (some ⟨b,off,none⟩) ar.len c)) {x:Hd×Fo} {j:Nat} (hj:ar.get j=some x) :
  ∃ asl csl,Xq (Xv w (λ k=>k<B) x.2 (.slice asl x.2.len csl))/\w.cell? ⟨b,off+j*6,none⟩=some (.int .i64 x.1.k)/\w.cell? ⟨b,off+j*6+1,none⟩=some (.int .i64 x.1.op)/\w.cell? ⟨b,off+j*6+2,none⟩=some (.int .i64 x.1.v)/\w.cell? ⟨b,off+j*6+3,none⟩=some (.int .i64 x.1.ln)/\w.cell? ⟨b,off+j*6+4,none⟩=some (.string (st x.1.nm))/\w.cell? ⟨b,off+j*6+5,none⟩=some (.slice asl x.2.len csl):=by
 obtain⟨b',off',asl,csl,e,hb,_,ha,hk⟩:=h.elemP hj
 injection e with e
 injection e with e1 e2
 subst e1 e2
 exact⟨asl,csl,Xj ha,hk 0 _ rfl,hk 1 _ rfl,hk 2 _ rfl,hk 3 _ rfl,hk 4 _ rfl,hk 5 _ rfl⟩
theorem Kq (h:Hd) (ar:Fo) (x y:Hd×Fo) (hx:ar.get 0=some x) (hy:ar.get 1=some y) (Ha:ar.len=2) (hE:PE x.1 x.2) (hE2:PE y.1 y.2) (bt:Bt) (W:World) (sl:Value) (B b:Nat) (t:Bt) (ha:Xv W (λ k=>k<B) ar sl) (hb:Bd B b t W) (hbt:bt.length<=100) (hl:t.length+(opd x.1 (Xn x.1 x.2)++([32]++(bt++([32]++opd y.1 (Xn y.1 y.2))))).length<=90000000) :
  Calls Tryz.prog 90 #[.pointer (some ⟨b,0,none⟩),exv h sl,.string (st bt)] W (WP B b (t++(opd x.1 (Xn x.1 x.2)++([32]++(bt++([32]++opd y.1 (Xn y.1 y.2)))))) W):=by
 have hol:(Xn x.1 x.2).length<=(opd x.1 (Xn x.1 x.2)).length:=by unfold opd Zq;split<;>simp<;>omega
 have hol2:(Xn y.1 y.2).length<=(opd y.1 (Xn y.1 y.2)).length:=by unfold opd Zq;split<;>simp<;>omega
 have HE:=Xj (λ W sl B b t=>Jh x.1 x.2 hE W sl B b t)
 have HE2:=Xj (λ W sl B b t=>Jh y.1 y.2 hE2 W sl B b t)
 clear hE hE2
 obtain⟨f1,hf1⟩:∃ z,opd x.1 (Xn x.1 x.2)=z:=⟨_,rfl⟩
 obtain⟨f2,hf2⟩:∃ z,opd y.1 (Xn y.1 y.2)=z:=⟨_,rfl⟩
 rw[hf1] at hol hl HE ⊢
 rw[hf2] at hol2 hl HE2 ⊢
 clear hf1 hf2
 simp only[List.length_append,List.length_cons,List.length_nil] at hl
 obtain⟨a,c,w1,g,rfl,hw1,hg,hX⟩:=Ug (h:=h) ha hb
 obtain⟨b0,o0,as0,cs0,rfl,HA0,k0,k1,k2,k3,k4,k5⟩:=Dh hX.at' hx
 have HX:=Xj hX
 have HXX:=Xj hx
 have HYY:=Xj hy
 clear ha hb hx hy
 obtain⟨p0,p1,p2,p3,p4,p5⟩:=Yq hX.row
 have hlt:=hX.bd.lt
 have hjq:=hX.hc
 clear hX
 rw[Ha] at p5 hjq
 have HLN:=Xj Ha
 (try rw[Ha])
 clear Ha
 go_enter Tryz.func90,Tryz.ntmps90
 go_upto_region 1 with fail
 (try rw[HLN.o] at hw1)
 (try rw[hw1])
 (try rw[hg])
 clear hw1 hg
 go_wp2_with fail
 refine(HE.o _ _ B b t HA0.o HX.o.bd (by omega)).mono ?_
 rintro e w2 ⟨rfl,hb2,hk2⟩
 have HX2:=Xj (HX.o.next hb2 hk2)
 clear hb2 hk2 k0 k1 k2 k3 k4 k5 p0 p1 p2 p3 p4 p5
 have hst:=Hu
 go_wp2_with fail
 refine(Jx B b _ _ _ HX2.o.bd (by simp only[List.length_append,List.length_cons,List.length_nil];omega)).mono ?_
 rintro e w3 ⟨rfl,hb3,hk3⟩
 have HX3:=Xj (HX2.o.next hb3 hk3)
 clear hb3 hk3 hst
 obtain⟨as1,cs1,HA1,j0,j1,j2,j3,j4,j5⟩:=Iz HX3.o.at' HYY.o
 rw[Nat.one_mul] at j0 j1 j2 j3 j4 j5
 obtain⟨p0,p1,p2,p3,p4,p5⟩:=Yq HX3.o.row
 rw[HLN.o] at p5
 go_wp2_with fail
 refine(HE2.o _ _ B b _ HA1.o HX3.o.bd (by simp only[List.length_append,List.length_cons,List.length_nil];omega)).mono ?_
 rintro e w4 ⟨rfl,hb4,hk4⟩
 have HB4:=Xj hb4
 have HK4:=Xj (HX3.o.wk.trans hk4)
 clear hb4 hk4
 go_wp2_with fail
 refine bodyPost_ret (results_none rfl _ _ _) rfl ?_
 refine⟨rfl,?_,HK4.o⟩
 have:=HB4.o
 simp only[List.append_assoc,List.cons_append,List.nil_append] at this ⊢
 exact this
theorem Eu (l:List Bt) (i:Nat):(comm (l.take i)).length<=(comm l).length:=by
 induction l generalizing i with
 | nil=>simp
 | cons s r ih =>
  cases i with
  | zero=>simp[comm]
  | succ i =>
   cases r with
   | nil=>simp
   | cons s2 r2 =>
    cases i with
    | zero=>simp[comm]
    | succ i =>
     have:=ih (i+1)
     simp only[List.take_succ_cons,comm,List.length_append] at this ⊢
     omega
theorem Ed (F:Fo) (hE:∀ j x,F.get j=some x->PE x.1 x.2) (W:World) (a:Option Addr) (c:Nat) (B b:Nat) (t:Bt) (ha:Xv W (λ k=>k<B) F (.slice a F.len c)) (hb:Bd B b t W) (hn:F.len<=100000) (hl:t.length+(Zc ((Yk F).map (·.2))).length<=90000000) :
  Calls Tryz.prog 91 #[.pointer (some ⟨b,0,none⟩),.slice a F.len c] W (WP B b (t++Zc ((Yk F).map (·.2))) W):=by
 have HE:=Xj hE
 have hfl:=Zr F
 have hcc:c<=9223372036854775807:=by obtain⟨_,_,_,e,_,h2,_⟩:=ha;injection e with _ _ e3;subst e3;unfold maxLen at h2;omega
 have hlt:=hb.lt
 have HA:=Xj ha
 have HB:=Xj hb
 clear hE ha hb
 obtain⟨n,hn2⟩:∃ n,F.len=n:=⟨_,rfl⟩
 have hll:(Zc ((Yk F).map (·.2))).length=(comm ((Yk F).map (·.2))).length+2:=by unfold Zc Zq;simp
 rw[hll] at hl
 rw[hn2] at hn hfl HA ⊢
 have HN:=Xj hn2
 have HFL:=Xj hfl
 clear hn2 hfl hll
 go_enter Tryz.func91,Tryz.ntmps91
 go_upto_block 0 with fail
 go_wp2_with fail
 refine(Kz B b t 40 _ HB.o (by omega)).mono ?_
 rintro e w1 ⟨rfl,hb1,hk1⟩
 have HB1:=Xj hb1
 have HK1:=Xj hk1
 have hs1:=hb1.lt
 clear hb1 hk1
 go_wp2_with fail
 go_loopw [12] (λ v12 wr=>∃ i:Nat,i<=n/\v12=.int .i64 i/\Xq (Bd B b (t++(40::comm (((Yk F).map (·.2)).take i))) wr)/\Xq (WK B b W wr)) (λ v12 _=>n-(intOf v12).toNat)
 case atStart=>exact⟨0,by omega,rfl,Xj HB1.o,HK1⟩
 obtain⟨i,hi,rfl,HR,HK⟩:=hrel
 have hltr:=HR.o.lt
 by_cases hqf:i<n
 ·obtain⟨x,hx⟩:=Fo.get_lt (F:=F) (i:=i) (by rw[HN.o];exact hqf)
  have hAr:=HA.o.belowB HK.o.be
  rw[<- HN.o] at hAr
  obtain⟨b0,o0,asl,csl,rfl,-,-,HAx,hk⟩:=hAr.elemP hx
  have k0:wr.cell? ⟨b0,o0+i*6,none⟩=some (.int .i64 x.1.k):=hk 0 _ rfl
  have k1:wr.cell? ⟨b0,o0+i*6+1,none⟩=some (.int .i64 x.1.op):=hk 1 _ rfl
  have k2:wr.cell? ⟨b0,o0+i*6+2,none⟩=some (.int .i64 x.1.v):=hk 2 _ rfl
  have k3:wr.cell? ⟨b0,o0+i*6+3,none⟩=some (.int .i64 x.1.ln):=hk 3 _ rfl
  have k4:wr.cell? ⟨b0,o0+i*6+4,none⟩=some (.string (st x.1.nm)):=hk 4 _ rfl
  have k5:wr.cell? ⟨b0,o0+i*6+5,none⟩=some (.slice asl x.2.len csl):=hk 5 _ rfl
  have hg:=Zf F i x hx
  have HCT:=Xj (Nf (Yk F) i _ hg)
  have HXE:=Xj (HE.o i x hx)
  obtain⟨a2,c2,wx,gx,e2,hwx,hgx,hX⟩:=Ug (h:=x.1) HAx HR.o
  injection e2 with e2 e3 e4
  subst e2 e4
  have HX:=Xj hX
  have hqt:(comm (((Yk F).map (·.2)).take (i+1))).length<=(comm ((Yk F).map (·.2))).length:=Eu _ _
  have HPR:=Xj hqt
  clear hAr hk hX hg HAx
  go_upto_region 4 with fail
  clear hwx hgx k0 k1 k2 k3 k4 k5 hltr
  obtain⟨p0,p1,p2,p3,p4,p5⟩:=Yq HX.o.row
  have hlx:=HX.o.bd.lt
  obtain⟨s1,hzl⟩:∃ z,comm (((Yk F).map (·.2)).take i)=z:=⟨_,rfl⟩
  have HS1:=Xj hzl
  obtain⟨s2,hzn⟩:∃ z,Xn x.1 x.2=z:=⟨_,rfl⟩
  have HS2:=Xj hzn
  have hct:=HCT.o
  rw[hzl] at hct HX
  simp only[hzn] at hct
  clear hzl hzn
  by_cases hi0:i=0
  ·subst hi0
   rw[if_pos rfl] at hct
   have HCE:=Xj hct
   rw[hct] at hqt
   clear hct hqt
   go_wp2_with fail
   refine(HXE.o _ _ B b _ HX.o.at' HX.o.bd (by have h1:=HPR.o;rw[HCE.o] at h1;rw[HS2.o];have h2:s1=[]:=HS1.o.symm;subst h2;simp only[List.length_append,List.length_cons,List.length_nil];omega)).mono ?_
   rintro e w2 ⟨rfl,hb2,hk2⟩
   have HB2:=Xj hb2
   have HK2:=Xj ((HK.o.trans HX.o.wk).trans hk2)
   clear hb2 hk2 p0 p1 p2 p3 p4 p5
   go_wp2_with fail
   go_roundw
   case rel =>
    refine⟨1,by omega,by go_num,Xj ?_,HK2⟩
    have h1:=HB2.o
    have h2:s1=[]:=HS1.o.symm
    rw[HS2.o,h2] at h1
    rw[HCE.o]
    simpa using h1
   simp[intOf];omega
  rw[if_neg hi0] at hct
  have hip:decide ((0:Int)<(i:Int))=true:=by rw[decide_eq_true_iff];omega
  have hip2:0<i:=by omega
  have HCE:=Xj hct
  rw[hct] at hqt
  simp only[List.length_append,List.length_cons,List.length_nil] at hqt
  clear hct hi0
  go_wp2_with fail
  refine(Jx B b _ [44,32] _ HX.o.bd (by simp only[List.length_append,List.length_cons,List.length_nil];omega)).mono ?_
  rintro e w2 ⟨rfl,hb2,hk2⟩
  have HY:=Xj (HX.o.next hb2 hk2)
  clear hb2 hk2 p0 p1 p2 p3 p4 p5
  obtain⟨p0,p1,p2,p3,p4,p5⟩:=Yq HY.o.row
  go_wp2_with fail
  refine(HXE.o _ _ B b _ HY.o.at' HY.o.bd (by rw[HS2.o];simp only[List.length_append,List.length_cons,List.length_nil];omega)).mono ?_
  rintro e w3 ⟨rfl,hb3,hk3⟩
  have HB3:=Xj hb3
  have HK3:=Xj ((HK.o.trans HY.o.wk).trans hk3)
  clear hb3 hk3 p0 p1 p2 p3 p4 p5
  go_wp2_with fail
  go_roundw
  case rel =>
   refine⟨i+1,by omega,by go_num,Xj ?_,HK3⟩
   have h1:=HB3.o
   rw[HS2.o] at h1
   rw[HCE.o]
   simpa using h1
  simp[intOf];omega
 obtain rfl:i=n:=by omega
 have HCE:Xq (comm (((Yk F).map (·.2)).take i)=comm ((Yk F).map (·.2))):=Xj (by rw[List.take_of_length_le (by rw[List.length_map,HFL.o];exact Nat.le_refl _)])
 have hR:=HR.o
 rw[HCE.o] at hR
 have HR2:=Xj hR
 clear hR
 go_wp2_with fail
 refine(Kz B b _ 41 _ HR2.o (by simp only[List.length_append,List.length_cons,List.length_nil];omega)).mono ?_
 rintro e w2 ⟨rfl,hb2,hk2⟩
 have HB2:=Xj hb2
 have HK2:=Xj (HK.o.trans hk2)
 clear hb2 hk2
 go_wp2_with fail
 refine bodyPost_ret (results_none rfl _ _ _) rfl ?_
 refine⟨rfl,?_,HK2.o⟩
 have:=HB2.o
 simp only[List.append_assoc] at this
 exact this
theorem Mu (h:Hd) (ar:Fo) (kk:Int) (hkk:h.k=kk) (hq:kk=13\/kk=2\/kk=3):PE h ar:=by
 have hv:Xn h ar=h.nm:=by show Xs h (Yk ar)=_;unfold Xs;rcases hq with rfl|rfl|rfl<;>simp[hkk]
 have HV:=Xj hv
 intro W sl B b t ha hb hl
 rw[hv] at hl
 clear hv
 revert W sl B b t ha hb hl
 rcases hq with rfl|rfl|rfl
 all_goals (
  intro W sl B b t ha hb hl
  obtain⟨a,c,w1,g,rfl,hw1,hg,hX⟩:=Ug (h:=h) ha hb
  have HX:=Xj hX
  obtain⟨p0,p1,p2,p3,p4,p5⟩:=Yq hX.row
  have hlt:=hX.bd.lt
  have hjq:=hX.hc
  rw[hkk] at p0
  clear hX ha hb hkk
  have HXd:=Xj (HX.o.below (Below.refl _ _).drew)
  go_enter Tryz.func51,Tryz.ntmps51
  go_upto_region 7 with fail
  (try rw[hw1])
  (try rw[hg])
  clear hw1 hg
  go_still_tail 5,(by kernel_rfl)
  change wpList _ _ _ _ _ w1.drew
  go_wp2_with fail
  refine(Jx B b t _ _ HXd.o.bd (by first|omega|(simp only[List.length_append,List.length_cons,List.length_nil] at *;omega))).mono ?_
  rintro e w2 ⟨rfl,hb2,hk2⟩
  have HX2:=Xj (HXd.o.next hb2 hk2)
  clear hb2 hk2 p0 p1 p2 p3 p4 p5
  go_wp2_with fail
  refine bodyPost_ret (results_none rfl _ _ _) rfl ?_
  refine⟨rfl,?_,HX2.o.wk⟩
  have:=HX2.o.bd
  rw[HV.o]
  simpa [List.append_assoc] using this)
theorem My (h:Hd) (ar:Fo) (hkk:h.k=12):PE h ar:=by
 have hv:Xn h ar=[114,101,97,100]:=by show Xs h (Yk ar)=_;unfold Xs;simp[hkk]
 have HV:=Xj hv
 clear hv
 intro W sl B b t ha hb hl
 obtain⟨a,c,w1,g,rfl,hw1,hg,hX⟩:=Ug (h:=h) ha hb
 have HX:=Xj hX
 obtain⟨p0,p1,p2,p3,p4,p5⟩:=Yq hX.row
 have hlt:=hX.bd.lt
 have hjq:=hX.hc
 rw[hkk] at p0
 clear hX ha hb hkk
 have HXd:=Xj (HX.o.below (Below.refl _ _).drew)
 go_enter Tryz.func51,Tryz.ntmps51
 go_upto_region 30 with fail
 (try rw[hw1])
 (try rw[hg])
 clear hw1 hg
 go_wp2_with fail
 refine(Jx B b t [114,101,97,100] _ HX.o.bd (by rw[HV.o] at hl;simp only[List.length_cons,List.length_nil] at *;omega)).mono ?_
 rintro e w2 ⟨rfl,hb2,hk2⟩
 have HX2:=Xj (HX.o.next hb2 hk2)
 clear hb2 hk2 p0 p1 p2 p3 p4 p5
 go_wp2_with fail
 refine bodyPost_ret (results_none rfl _ _ _) rfl ?_
 refine⟨rfl,?_,HX2.o.wk⟩
 have:=HX2.o.bd
 rw[HV.o]
 simpa [List.append_assoc] using this
theorem Mb (h:Hd) (ar:Fo) (hkk:h.k=11):PE h ar:=by
 have hv:Xn h ar=38::h.nm:=by show Xs h (Yk ar)=_;unfold Xs;simp[hkk]
 have HV:=Xj hv
 intro W sl B b t ha hb hl
 rw[hv] at hl
 clear hv
 simp only[List.length_cons] at hl
 have hst:=Hu
 obtain⟨a,c,w1,g,rfl,hw1,hg,hX⟩:=Ug (h:=h) ha hb
 have HX:=Xj hX
 obtain⟨p0,p1,p2,p3,p4,p5⟩:=Yq hX.row
 have hlt:=hX.bd.lt
 have hjq:=hX.hc
 rw[hkk] at p0
 clear hX ha hb hkk
 have HXd:=Xj (HX.o.below (Below.refl _ _).drew)
 go_enter Tryz.func51,Tryz.ntmps51
 go_upto_region 28 with fail
 (try rw[hw1])
 (try rw[hg])
 clear hw1 hg
 refine wp_region_held_drew (S:=(λ w'=>w'.cell? ⟨g,4,none⟩=some (.string (st h.nm)))) (by kernel_rfl) p4 (λ hJ=>?_)
 refine tkH 0 105 ?_
 refine tkH 1 106 ?_
 refine tkH 2 107 ?_
 refine tkH 3 108 ?_
 refine tkH 4 109 ?_
 refine tkH 5 110 (v:=.string (st (38::h.nm))) ?_ (hy:=by intro w hSw;go_simp;omega)
 refine rdH 6 λ K0 hK=>?_
 go_simp
 refine(Jx B b t (38::h.nm) _ HXd.o.bd (by simp only[List.length_cons];omega)).mono ?_
 rintro e w2 ⟨rfl,hb2,hk2⟩
 have HX2:=Xj (HXd.o.next hb2 hk2)
 refine goH hK (cell_of_row _ _ 4 _ _ _ HX2.o.row) λ hJ=>?_
 clear hb2 hk2 p0 p1 p2 p3 p4 p5 hK K0
 refine wpAnyH_done (by kernel_rfl) ?_ _
 go_wp2_with fail
 refine bodyPost_ret (results_none rfl _ _ _) rfl ?_
 refine⟨rfl,?_,HX2.o.wk⟩
 have:=HX2.o.bd
 rw[HV.o]
 simpa [List.append_assoc] using this
theorem Hj (h:Hd) (ar:Fo) (hkk:h.k=1) (h0:0<=h.v) (h1:h.v<=9223372036854775807):PE h ar:=by
 have hv:Xn h ar=Lib.decDigits h.v.toNat:=by show Xs h (Yk ar)=_;unfold Xs;simp[hkk]
 have HV:=Xj hv
 have hit:Lib.itoa h.v=Lib.decDigits h.v.toNat:=by unfold Lib.itoa;rw[if_neg (by omega)]
 have HIT:=Xj hit
 have HR:=Xj (And.intro h0 h1)
 clear hit h0 h1
 intro W sl B b t ha hb hl
 rw[hv] at hl
 clear hv
 (try simp only[List.length_append,List.length_cons,List.length_nil] at hl)
 obtain⟨a,c,w1,g,rfl,hw1,hg,hX⟩:=Ug (h:=h) ha hb
 have HX:=Xj hX
 obtain⟨p0,p1,p2,p3,p4,p5⟩:=Yq hX.row
 have hlt:=hX.bd.lt
 have hjq:=hX.hc
 rw[hkk] at p0
 clear hX ha hb hkk
 have HXd:=Xj (HX.o.below (Below.refl _ _).drew)
 go_enter Tryz.func51,Tryz.ntmps51
 go_upto_region 3 with fail
 (try rw[hw1])
 (try rw[hg])
 clear hw1 hg
 refine wp_region_held_drew (S:=(λ w'=>w'.cell? ⟨g,2,none⟩=some (.int .i64 h.v))) (by kernel_rfl) p2 (λ hJ=>?_)
 refine tkH 0 8 ?_
 refine tkH 1 9 ?_
 refine tkH 2 10 ?_
 refine tkH 3 11 ?_
 refine tkH 4 12 ?_
 refine rdH 5 λ K0 hK=>?_
 go_simp
 refine(Gr h.v (by have:=HR.o;omega) (by have:=HR.o;omega) _ HXd.o.bd.lb.lad).mono ?_
 rintro e w2 ⟨rfl,hb2⟩
 have HX2:=Xj (HXd.o.below hb2)
 rw[HIT.o]
 refine goH hK (cell_of_row _ _ 2 _ _ _ HX2.o.row) λ hJ=>?_
 clear hb2 hK K0
 refine rdH 6 λ K0 hK=>?_
 go_simp
 refine(Jx B b t _ _ HX2.o.bd (by omega)).mono ?_
 rintro e w3 ⟨rfl,hb3,hk3⟩
 have HX3:=Xj (HX2.o.next hb3 hk3)
 refine goH hK (cell_of_row _ _ 2 _ _ _ HX3.o.row) λ hJ=>?_
 clear hb3 hk3 p0 p1 p2 p3 p4 p5 hK K0
 refine wpAnyH_done (by kernel_rfl) ?_ _
 go_wp2_with fail
 refine bodyPost_ret (results_none rfl _ _ _) rfl ?_
 refine⟨rfl,?_,HX3.o.wk⟩
 have:=HX3.o.bd
 rw[HV.o]
 simpa [List.append_assoc] using this
theorem Eh (h:Hd) (ar:Fo) (hkk:h.k=4) (x:Hd×Fo) (hx:ar.get 0=some x) (Ha:ar.len=1) (hE:PE x.1 x.2):PE h ar:=by
 have hv:Xn h ar=h.nm++([91]++(Xn x.1 x.2++[93])):=by
  have h1:=Zf ar 0 x hx
  have h3:=Zr ar
  show Xs h (Yk ar)=_
  match hf:Yk ar,h1,h3 with
  | [q],h1,_=>simp at h1;subst h1;unfold Xs;simp[hkk]
  | [],h1,_=>simp at h1
  | _::_::_,_,h3=>simp[Ha] at h3
 have HV:=Xj hv
 have HE:=Xj hE
 have HXX:=Xj hx
 clear hE hx
 intro W sl B b t ha hb hl
 rw[hv] at hl
 clear hv
 (try simp only[List.length_append,List.length_cons,List.length_nil] at hl)
 obtain⟨a,c,w1,g,rfl,hw1,hg,hX⟩:=Ug (h:=h) ha hb
 have HX:=Xj hX
 obtain⟨p0,p1,p2,p3,p4,p5⟩:=Yq hX.row
 have hlt:=hX.bd.lt
 have hjq:=hX.hc
 rw[hkk] at p0
 rw[Ha] at p5 hjq
 have HLN:=Xj Ha
 clear hX ha hb hkk Ha
 have HXd:=Xj (HX.o.below (Below.refl _ _).drew)
 go_enter Tryz.func51,Tryz.ntmps51
 go_upto_region 9 with fail
 (try rw[hw1])
 (try rw[hg])
 clear hw1 hg
 have hst:=Hu
 refine wp_region_held_drew (S:=(λ w'=>w'.cell? ⟨g,4,none⟩=some (.string (st h.nm)))) (by kernel_rfl) p4 (λ hJ=>?_)
 refine tkH 0 27 ?_
 refine tkH 1 28 ?_
 refine tkH 2 29 ?_
 refine tkH 3 30 ?_
 refine tkH 4 31 ?_
 refine tkH 5 32 (v:=.string (st (h.nm++[91]))) ?_ (hy:=by intro w hSw;go_simp;omega)
 refine rdH 6 λ K0 hK=>?_
 go_simp
 refine(Jx B b t (h.nm++[91]) _ HXd.o.bd (by simp only[List.length_append,List.length_cons,List.length_nil];omega)).mono ?_
 rintro e w2 ⟨rfl,hb2,hk2⟩
 have HX2:=Xj (HXd.o.next hb2 hk2)
 refine goH hK (cell_of_row _ _ 4 _ _ _ HX2.o.row) λ hJ=>?_
 clear hb2 hk2 p0 p1 p2 p3 p4 p5 hK K0 hst
 refine wpAnyH_done (by kernel_rfl) ?_ _
 obtain⟨b0,o0,as0,cs0,rfl,HA0,k0,k1,k2,k3,k4,k5⟩:=Dh HX2.o.at' HXX.o
 obtain⟨p0,p1,p2,p3,p4,p5⟩:=Yq HX2.o.row
 rw[HLN.o] at p5
 go_wp2_with fail
 refine(HE.o _ _ B b _ HA0.o HX2.o.bd (by simp only[List.length_append,List.length_cons,List.length_nil];omega)).mono ?_
 rintro e w3 ⟨rfl,hb3,hk3⟩
 have HX3:=Xj (HX2.o.next hb3 hk3)
 clear hb3 hk3 p0 p1 p2 p3 p4 p5 k0 k1 k2 k3 k4 k5
 go_wp2_with fail
 refine(Kz B b _ 93 _ HX3.o.bd (by simp only[List.length_append,List.length_cons,List.length_nil];omega)).mono ?_
 rintro e w4 ⟨rfl,hb4,hk4⟩
 have HX4:=Xj (HX3.o.next hb4 hk4)
 clear hb4 hk4
 go_wp2_with fail
 refine bodyPost_ret (results_none rfl _ _ _) rfl ?_
 refine⟨rfl,?_,HX4.o.wk⟩
 have:=HX4.o.bd
 rw[HV.o]
 simpa [List.append_assoc] using this
theorem Cu (h:Hd) (s:Bt):s.length<=(opd h s).length:=by unfold opd Zq;split<;>simp<;>omega
theorem Nj (h:Hd) (ar:Fo) (hkk:h.k=5) (ho0:0<=h.op) (ho1:h.op<=11) (x:Hd×Fo) (hx:ar.get 0=some x) (Ha:ar.len=1) (hE:PE x.1 x.2):PE h ar:=by
 have hv:Xn h ar=sgn h.op++opd x.1 (Xn x.1 x.2):=by
  have h1:=Zf ar 0 x hx
  have h3:=Zr ar
  show Xs h (Yk ar)=_
  match hf:Yk ar,h1,h3 with
  | [q],h1,_=>simp at h1;subst h1;unfold Xs;simp[hkk]
  | [],h1,_=>simp at h1
  | _::_::_,_,h3=>simp[Ha] at h3
 have HV:=Xj hv
 have HE:=Xj hE
 have HXX:=Xj hx
 have HOP:=Xj (And.intro ho0 ho1)
 have hol:(Xn x.1 x.2).length<=(opd x.1 (Xn x.1 x.2)).length:=Cu _ _
 have hsl:=Uc h.op
 clear hE hx ho0 ho1
 intro W sl B b t ha hb hl
 rw[hv] at hl
 clear hv
 (try simp only[List.length_append,List.length_cons,List.length_nil] at hl)
 obtain⟨a,c,w1,g,rfl,hw1,hg,hX⟩:=Ug (h:=h) ha hb
 have HX:=Xj hX
 obtain⟨p0,p1,p2,p3,p4,p5⟩:=Yq hX.row
 have hlt:=hX.bd.lt
 have hjq:=hX.hc
 rw[hkk] at p0
 rw[Ha] at p5 hjq
 have HLN:=Xj Ha
 clear hX ha hb hkk Ha
 have HXd:=Xj (HX.o.below (Below.refl _ _).drew)
 go_enter Tryz.func51,Tryz.ntmps51
 go_upto_region 13 with fail
 (try rw[hw1])
 (try rw[hg])
 clear hw1 hg
 refine wp_region_held_drew (S:=(λ w'=>w'.cell? ⟨g,1,none⟩=some (.int .i64 h.op))) (by kernel_rfl) p1 (λ hJ=>?_)
 refine tkH 0 46 ?_
 refine tkH 1 47 ?_
 refine tkH 2 48 ?_
 refine tkH 3 49 ?_
 refine tkH 4 50 ?_
 refine rdH 5 λ K0 hK=>?_
 go_simp
 refine(Wu h.op HOP.o.1 HOP.o.2 _).mono ?_
 rintro e w2 ⟨rfl,hb2⟩
 have HX2:=Xj (HXd.o.below hb2)
 refine goH hK (cell_of_row _ _ 1 _ _ _ HX2.o.row) λ hJ=>?_
 clear hb2 hK K0
 refine rdH 6 λ K0 hK=>?_
 go_simp
 refine(Jx B b t _ _ HX2.o.bd (by omega)).mono ?_
 rintro e w3 ⟨rfl,hb3,hk3⟩
 have HX3:=Xj (HX2.o.next hb3 hk3)
 refine goH hK (cell_of_row _ _ 1 _ _ _ HX3.o.row) λ hJ=>?_
 clear hb3 hk3 p0 p1 p2 p3 p4 p5 hK K0
 refine wpAnyH_done (by kernel_rfl) ?_ _
 obtain⟨b0,o0,as0,cs0,rfl,HA0,k0,k1,k2,k3,k4,k5⟩:=Dh HX3.o.at' HXX.o
 obtain⟨p0,p1,p2,p3,p4,p5⟩:=Yq HX3.o.row
 rw[HLN.o] at p5
 go_wp2_with fail
 refine(Jh x.1 x.2 HE.o _ _ B b _ HA0.o HX3.o.bd (by rw[List.length_append];omega)).mono ?_
 rintro e w4 ⟨rfl,hb4,hk4⟩
 have HX4:=Xj (HX3.o.next hb4 hk4)
 clear hb4 hk4 p0 p1 p2 p3 p4 p5 k0 k1 k2 k3 k4 k5
 go_wp2_with fail
 refine bodyPost_ret (results_none rfl _ _ _) rfl ?_
 refine⟨rfl,?_,HX4.o.wk⟩
 have:=HX4.o.bd
 rw[HV.o]
 simpa [List.append_assoc] using this
end Go.Proofs.YtldgghnjminhiaaGreatDoor
