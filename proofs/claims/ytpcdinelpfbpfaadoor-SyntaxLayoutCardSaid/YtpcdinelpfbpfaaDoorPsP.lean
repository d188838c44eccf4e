/-
  PLAIN WORDS: what is parsed: expressions out of tokens. No walk. (Filled in from a template of this repo.)
-/
import Derived.Test.YtpcdinelpfbpfaaDoorMdp
namespace Go.Proofs.YtpcdinelpfbpfaaDoor
set_option linter.unusedVariables false
set_option linter.unusedSimpArgs false

def isT (t:Bt):List Tk->Bool
 | x::_=>(x.k==3||x.k==4)&&x.t==t
 | []=>false
def opOf (t:Bt):Int :=
 if t=[60] then 8 else if t=[60,61] then 9 else if t=[61,61] then 10 else if t=[33,61] then 11 else if t=[43] then 3 else if t=[45] then 4
 else if t=[42] then 5 else if t=[47] then 6 else if t=[37] then 7 else 0
def opIn (lo hi:Int):List Tk->Int
 | x::_=>if x.k=4/\lo<=opOf x.t/\opOf x.t<=hi then opOf x.t else 0
 | []=>0
def lnOf:List Tk->Int
 | x::_=>x.n
 | []=>0
def kOf:List Tk->Int
 | x::_=>x.k
 | []=>0
def tOf:List Tk->Bt
 | x::_=>x.t
 | []=>[]
def vOf:List Tk->Int
 | x::_=>x.v
 | []=>0
inductive PR where
 | ok (F:Fo) (r:List Tk)
 | bad (r:List Tk)
inductive Lv where
 | ex
 | exL (x:Fo)
 | an
 | anL (x:Fo)
 | cm
 | su
 | suL (x:Fo)
 | te
 | teL (x:Fo)
 | un
 | ca
 | caL (plain:Bool) (x:Fo)
 | ag (first:Bool) (F:Fo)
 | pr
def hdOf:Fo->Hd
 | .cons h _ _=>h
 | .nil=>⟨0,0,0,0,[]⟩
abbrev nd (k op v ln:Int) (nm:Bt) (ar:Fo):Fo:=.cons ⟨k,op,v,ln,nm⟩ ar .nil
def bnP (o:Option PR) (k:Fo->List Tk->Option PR):Option PR:=match o with
 | none=>none
 | some (.bad r)=>some (.bad r)
 | some (.ok F r)=>k F r
def stepB (f:Lv->List Tk->Option PR) (lv:Lv) (ts:List Tk):Option PR:=match lv with
 | .ex=>bnP (f .an ts) fun x r=>f (.exL x) r
 | .exL x=>if isT [124,124] ts=true then bnP (f .an ts.tail) fun y r=>f (.exL (nd 8 0 0 (lnOf ts) [] (x.app y))) r else some (.ok x ts)
 | .an=>bnP (f .cm ts) fun x r=>f (.anL x) r
 | .anL x=>if isT [38,38] ts=true then bnP (f .cm ts.tail) fun y r=>f (.anL (nd 7 0 0 (lnOf ts) [] (x.app y))) r else some (.ok x ts)
 | .cm=>bnP (f .su ts) fun x r=>if opIn 8 11 r=0 then some (.ok x r) else bnP (f .su r.tail) fun y r2=>some (.ok (nd 6 (opIn 8 11 r) 0 (lnOf r) [] (x.app y)) r2)
 | .su=>bnP (f .te ts) fun x r=>f (.suL x) r
 | .suL x=>if opIn 3 4 ts=0 then some (.ok x ts) else bnP (f .te ts.tail) fun y r=>f (.suL (nd 6 (opIn 3 4 ts) 0 (lnOf ts) [] (x.app y))) r
 | .te=>bnP (f .un ts) fun x r=>f (.teL x) r
 | .teL x=>if opIn 5 7 ts=0 then some (.ok x ts) else bnP (f .un ts.tail) fun y r=>f (.teL (nd 6 (opIn 5 7 ts) 0 (lnOf ts) [] (x.app y))) r
 | .un=>if isT [45] ts=true then bnP (f .un ts.tail) fun x r=>some (.ok (nd 5 1 0 (lnOf ts) [] x) r)
   else if isT [33] ts=true then bnP (f .un ts.tail) fun x r=>some (.ok (nd 5 2 0 (lnOf ts) [] x) r)
   else f .ca ts
 | .ca=>bnP (f .pr ts) fun x r=>f (.caL (kOf ts==1&&(hdOf x).k==13) x) r
 | .caL plain x=>if isT [40] ts=true then bnP (f (.ag true .nil) ts.tail) fun F r=>f (.caL false (if plain=true then nd 9 0 0 (lnOf ts) (hdOf x).nm F else nd 10 0 0 (lnOf ts) [] (x.app F))) r else some (.ok x ts)
 | .ag first F=>if isT [41] ts=true then some (.ok F ts.tail)
   else if first=true then bnP (f .ex ts) fun x r=>f (.ag false (F.app x)) r
   else if isT [44] ts=true then bnP (f .ex ts.tail) fun x r=>f (.ag false (F.app x)) r
   else some (.bad ts)
 | .pr=>if kOf ts=2 then some (.ok (nd 1 0 (vOf ts) (lnOf ts) [] .nil) ts.tail)
   else if kOf ts=1 then
    (if isT [91] ts.tail=true then bnP (f .ex ts.tail.tail) fun x r=>if isT [93] r=true then some (.ok (nd 4 0 0 (lnOf ts) (tOf ts) x) r.tail) else some (.bad r)
    else some (.ok (nd 13 0 0 (lnOf ts) (tOf ts) .nil) ts.tail))
   else if isT [38] ts=true then (if kOf ts.tail=1 then some (.ok (nd 11 0 0 (lnOf ts) (tOf ts.tail) .nil) ts.tail.tail) else some (.bad ts.tail))
   else if isT [114,101,97,100] ts=true then some (.ok (nd 12 0 0 (lnOf ts) [] .nil) ts.tail)
   else if isT [40] ts=true then bnP (f .ex ts.tail) fun x r=>if isT [41] r=true then some (.ok x r.tail) else some (.bad r)
   else some (.bad ts)
def Pn:Nat->Lv->List Tk->Option PR
 | 0=>fun _ _=>none
 | n+1=>stepB (Pn n)
theorem bnP_mono {o o':Option PR} {k k':Fo->List Tk->Option PR} {y:PR} (h:bnP o k=some y) (ho : ∀ x,o=some x->o'=some x) (hk : ∀ F r,k F r=some y->k' F r=some y):bnP o' k'=some y:=by
 unfold bnP at h ⊢
 cases o with
 | none=>cases h
 | some x =>
  rw [ho x rfl]
  cases x with
  | ok F r=>exact hk F r h
  | bad r=>exact h
theorem stepB_mono {f g:Lv->List Tk->Option PR} (hfg : ∀ lv ts y,f lv ts=some y->g lv ts=some y) (lv:Lv) (ts:List Tk) (y:PR) (h:stepB f lv ts=some y):stepB g lv ts=some y:=by
 have hb : ∀ {lv2 ts2} {k k':Fo->List Tk->Option PR} {y:PR},bnP (f lv2 ts2) k=some y->(∀ F r,k F r=some y->k' F r=some y)->bnP (g lv2 ts2) k'=some y:=fun h hk=>bnP_mono h (fun x=>hfg _ _ x) hk
 cases lv with
 | ex=>exact hb h fun _ _=>hfg _ _ _
 | exL x =>
  unfold stepB at h ⊢
  dsimp only at h ⊢
  split
  ·rename_i hc;rw [if_pos hc] at h;exact hb h fun _ _=>hfg _ _ _
  ·rename_i hc;rw [if_neg hc] at h;exact h
 | an=>exact hb h fun _ _=>hfg _ _ _
 | anL x =>
  unfold stepB at h ⊢
  dsimp only at h ⊢
  split
  ·rename_i hc;rw [if_pos hc] at h;exact hb h fun _ _=>hfg _ _ _
  ·rename_i hc;rw [if_neg hc] at h;exact h
 | cm =>
  refine hb h fun F r h=>?_
  split
  ·rename_i hc;rw [if_pos hc] at h;exact h
  ·rename_i hc;rw [if_neg hc] at h;exact hb h fun _ _ h=>h
 | su=>exact hb h fun _ _=>hfg _ _ _
 | suL x =>
  unfold stepB at h ⊢
  dsimp only at h ⊢
  split
  ·rename_i hc;rw [if_pos hc] at h;exact h
  ·rename_i hc;rw [if_neg hc] at h;exact hb h fun _ _=>hfg _ _ _
 | te=>exact hb h fun _ _=>hfg _ _ _
 | teL x =>
  unfold stepB at h ⊢
  dsimp only at h ⊢
  split
  ·rename_i hc;rw [if_pos hc] at h;exact h
  ·rename_i hc;rw [if_neg hc] at h;exact hb h fun _ _=>hfg _ _ _
 | un =>
  unfold stepB at h ⊢
  dsimp only at h ⊢
  split
  ·rename_i hc;rw [if_pos hc] at h;exact hb h fun _ _ h=>h
  ·rename_i hc
   rw [if_neg hc] at h
   split
   ·rename_i hc2;rw [if_pos hc2] at h;exact hb h fun _ _ h=>h
   ·rename_i hc2;rw [if_neg hc2] at h;exact hfg _ _ _ h
 | ca=>exact hb h fun _ _=>hfg _ _ _
 | caL p x =>
  unfold stepB at h ⊢
  dsimp only at h ⊢
  split
  ·rename_i hc;rw [if_pos hc] at h;exact hb h fun _ _=>hfg _ _ _
  ·rename_i hc;rw [if_neg hc] at h;exact h
 | ag b F =>
  unfold stepB at h ⊢
  dsimp only at h ⊢
  split
  ·rename_i hc;rw [if_pos hc] at h;exact h
  ·rename_i hc
   rw [if_neg hc] at h
   split
   ·rename_i hc2;rw [if_pos hc2] at h;exact hb h fun _ _=>hfg _ _ _
   ·rename_i hc2
    rw [if_neg hc2] at h
    split
    ·rename_i hc3;rw [if_pos hc3] at h;exact hb h fun _ _=>hfg _ _ _
    ·rename_i hc3;rw [if_neg hc3] at h;exact h
 | pr =>
  unfold stepB at h ⊢
  dsimp only at h ⊢
  split
  ·rename_i hc;rw [if_pos hc] at h;exact h
  rename_i c1
  rw [if_neg c1] at h
  split
  ·rename_i c2
   rw [if_pos c2] at h
   split
   ·rename_i c3;rw [if_pos c3] at h;exact hb h fun _ _ h=>h
   ·rename_i c3;rw [if_neg c3] at h;exact h
  rename_i c2
  rw [if_neg c2] at h
  split
  ·rename_i c3;rw [if_pos c3] at h;exact h
  rename_i c3
  rw [if_neg c3] at h
  split
  ·rename_i c4;rw [if_pos c4] at h;exact h
  rename_i c4
  rw [if_neg c4] at h
  split
  ·rename_i c5;rw [if_pos c5] at h;exact hb h fun _ _ h=>h
  ·rename_i c5;rw [if_neg c5] at h;exact h
theorem Pn_succ (n:Nat) : ∀ lv ts y,Pn n lv ts=some y->Pn (n+1) lv ts=some y:=by
 induction n with
 | zero=>intro lv ts y h;cases h
 | succ n ih=>intro lv ts y h;exact stepB_mono ih lv ts y h
theorem Pn_le {n m:Nat} (h:n<=m) {lv:Lv} {ts:List Tk} {y:PR} (hn:Pn n lv ts=some y):Pn m lv ts=some y:=by
 induction h with
 | refl=>exact hn
 | step _ ih=>exact Pn_succ _ _ _ _ ih
def Ps (lv:Lv) (ts:List Tk) (y:PR):Prop := ∃ n,Pn n lv ts=some y
theorem Ps.det {lv:Lv} {ts:List Tk} {y z:PR} (h:Ps lv ts y) (k:Ps lv ts z):y=z:=by
 obtain⟨n,hn⟩:=h
 obtain⟨m,hm⟩:=k
 have h1:=Pn_le (Nat.le_max_left n m) hn
 have h2:=Pn_le (Nat.le_max_right n m) hm
 rw [h1] at h2
 injection h2
theorem Ps.mk0 {lv:Lv} {ts:List Tk} {y:PR} (h : ∀ f,stepB f lv ts=some y):Ps lv ts y:=⟨1,h _⟩
theorem Ps.mk1 {lv l1:Lv} {ts t1:List Tk} {y y1:PR} (h1:Ps l1 t1 y1) (h : ∀ f,f l1 t1=some y1->stepB f lv ts=some y):Ps lv ts y:=by
 obtain⟨n,hn⟩:=h1
 exact⟨n+1,h _ hn⟩
theorem Ps.mk2 {lv l1 l2:Lv} {ts t1 t2:List Tk} {y y1 y2:PR} (h1:Ps l1 t1 y1) (h2:Ps l2 t2 y2) (h : ∀ f,f l1 t1=some y1->f l2 t2=some y2->stepB f lv ts=some y):Ps lv ts y:=by
 obtain⟨n,hn⟩:=h1
 obtain⟨m,hm⟩:=h2
 exact⟨max n m+1,h _ (Pn_le (Nat.le_max_left n m) hn) (Pn_le (Nat.le_max_right n m) hm)⟩
section
variable {ts r:List Tk} {x y:Fo} {z:PR}
theorem Ps.ex_ok (h:Ps .an ts (.ok x r)) (k:Ps (.exL x) r z):Ps .ex ts z:=.mk2 h k fun f e1 e2=>by show bnP _ _=_;rw [e1];exact e2
theorem Ps.ex_bad (h:Ps .an ts (.bad r)):Ps .ex ts (.bad r):=.mk1 h fun f e1=>by show bnP _ _=_;rw [e1];rfl
theorem Ps.exL_end (h:isT [124,124] ts=false):Ps (.exL x) ts (.ok x ts):=.mk0 fun f=>by show (if _ then _ else _)=_;rw [if_neg (by rw [h];simp)]
theorem Ps.exL_ok (h:isT [124,124] ts=true) (h1:Ps .an ts.tail (.ok y r)) (h2:Ps (.exL (nd 8 0 0 (lnOf ts) [] (x.app y))) r z):Ps (.exL x) ts z:=.mk2 h1 h2 fun f e1 e2=>by show (if _ then _ else _)=_;rw [if_pos h,e1];exact e2
theorem Ps.exL_bad (h:isT [124,124] ts=true) (h1:Ps .an ts.tail (.bad r)):Ps (.exL x) ts (.bad r):=.mk1 h1 fun f e1=>by show (if _ then _ else _)=_;rw [if_pos h,e1];rfl
theorem Ps.an_ok (h:Ps .cm ts (.ok x r)) (k:Ps (.anL x) r z):Ps .an ts z:=.mk2 h k fun f e1 e2=>by show bnP _ _=_;rw [e1];exact e2
theorem Ps.an_bad (h:Ps .cm ts (.bad r)):Ps .an ts (.bad r):=.mk1 h fun f e1=>by show bnP _ _=_;rw [e1];rfl
theorem Ps.anL_end (h:isT [38,38] ts=false):Ps (.anL x) ts (.ok x ts):=.mk0 fun f=>by show (if _ then _ else _)=_;rw [if_neg (by rw [h];simp)]
theorem Ps.anL_ok (h:isT [38,38] ts=true) (h1:Ps .cm ts.tail (.ok y r)) (h2:Ps (.anL (nd 7 0 0 (lnOf ts) [] (x.app y))) r z):Ps (.anL x) ts z:=.mk2 h1 h2 fun f e1 e2=>by show (if _ then _ else _)=_;rw [if_pos h,e1];exact e2
theorem Ps.anL_bad (h:isT [38,38] ts=true) (h1:Ps .cm ts.tail (.bad r)):Ps (.anL x) ts (.bad r):=.mk1 h1 fun f e1=>by show (if _ then _ else _)=_;rw [if_pos h,e1];rfl
theorem Ps.cm_end (h:Ps .su ts (.ok x r)) (h0:opIn 8 11 r=0):Ps .cm ts (.ok x r):=.mk1 h fun f e1=>by show bnP _ _=_;rw [e1];show (if _ then _ else _)=_;rw [if_pos h0]
theorem Ps.cm_bad (h:Ps .su ts (.bad r)):Ps .cm ts (.bad r):=.mk1 h fun f e1=>by show bnP _ _=_;rw [e1];rfl
theorem Ps.cm_two {r2:List Tk} (h:Ps .su ts (.ok x r)) (h0:opIn 8 11 r≠0) (k:Ps .su r.tail (.ok y r2)):Ps .cm ts (.ok (nd 6 (opIn 8 11 r) 0 (lnOf r) [] (x.app y)) r2):=.mk2 h k fun f e1 e2=>by show bnP _ _=_;rw [e1];show (if _ then _ else _)=_;rw [if_neg h0,e2];rfl
theorem Ps.cm_two_bad {r2:List Tk} (h:Ps .su ts (.ok x r)) (h0:opIn 8 11 r≠0) (k:Ps .su r.tail (.bad r2)):Ps .cm ts (.bad r2):=.mk2 h k fun f e1 e2=>by show bnP _ _=_;rw [e1];show (if _ then _ else _)=_;rw [if_neg h0,e2];rfl
theorem Ps.su_ok (h:Ps .te ts (.ok x r)) (k:Ps (.suL x) r z):Ps .su ts z:=.mk2 h k fun f e1 e2=>by show bnP _ _=_;rw [e1];exact e2
theorem Ps.su_bad (h:Ps .te ts (.bad r)):Ps .su ts (.bad r):=.mk1 h fun f e1=>by show bnP _ _=_;rw [e1];rfl
theorem Ps.suL_end (h:opIn 3 4 ts=0):Ps (.suL x) ts (.ok x ts):=.mk0 fun f=>by show (if _ then _ else _)=_;rw [if_pos h]
theorem Ps.suL_ok (h:opIn 3 4 ts≠0) (h1:Ps .te ts.tail (.ok y r)) (h2:Ps (.suL (nd 6 (opIn 3 4 ts) 0 (lnOf ts) [] (x.app y))) r z):Ps (.suL x) ts z:=.mk2 h1 h2 fun f e1 e2=>by show (if _ then _ else _)=_;rw [if_neg h,e1];exact e2
theorem Ps.suL_bad (h:opIn 3 4 ts≠0) (h1:Ps .te ts.tail (.bad r)):Ps (.suL x) ts (.bad r):=.mk1 h1 fun f e1=>by show (if _ then _ else _)=_;rw [if_neg h,e1];rfl
theorem Ps.te_ok (h:Ps .un ts (.ok x r)) (k:Ps (.teL x) r z):Ps .te ts z:=.mk2 h k fun f e1 e2=>by show bnP _ _=_;rw [e1];exact e2
theorem Ps.te_bad (h:Ps .un ts (.bad r)):Ps .te ts (.bad r):=.mk1 h fun f e1=>by show bnP _ _=_;rw [e1];rfl
theorem Ps.teL_end (h:opIn 5 7 ts=0):Ps (.teL x) ts (.ok x ts):=.mk0 fun f=>by show (if _ then _ else _)=_;rw [if_pos h]
theorem Ps.teL_ok (h:opIn 5 7 ts≠0) (h1:Ps .un ts.tail (.ok y r)) (h2:Ps (.teL (nd 6 (opIn 5 7 ts) 0 (lnOf ts) [] (x.app y))) r z):Ps (.teL x) ts z:=.mk2 h1 h2 fun f e1 e2=>by show (if _ then _ else _)=_;rw [if_neg h,e1];exact e2
theorem Ps.teL_bad (h:opIn 5 7 ts≠0) (h1:Ps .un ts.tail (.bad r)):Ps (.teL x) ts (.bad r):=.mk1 h1 fun f e1=>by show (if _ then _ else _)=_;rw [if_neg h,e1];rfl
theorem Ps.un_neg (h:isT [45] ts=true) (h1:Ps .un ts.tail (.ok x r)):Ps .un ts (.ok (nd 5 1 0 (lnOf ts) [] x) r):=.mk1 h1 fun f e1=>by show (if _ then _ else _)=_;rw [if_pos h,e1];rfl
theorem Ps.un_neg_bad (h:isT [45] ts=true) (h1:Ps .un ts.tail (.bad r)):Ps .un ts (.bad r):=.mk1 h1 fun f e1=>by show (if _ then _ else _)=_;rw [if_pos h,e1];rfl
theorem Ps.un_not (h0:isT [45] ts=false) (h:isT [33] ts=true) (h1:Ps .un ts.tail (.ok x r)):Ps .un ts (.ok (nd 5 2 0 (lnOf ts) [] x) r):=.mk1 h1 fun f e1=>by show (if _ then _ else _)=_;rw [if_neg (by rw [h0];simp),if_pos h,e1];rfl
theorem Ps.un_not_bad (h0:isT [45] ts=false) (h:isT [33] ts=true) (h1:Ps .un ts.tail (.bad r)):Ps .un ts (.bad r):=.mk1 h1 fun f e1=>by show (if _ then _ else _)=_;rw [if_neg (by rw [h0];simp),if_pos h,e1];rfl
theorem Ps.un_ca (h0:isT [45] ts=false) (h:isT [33] ts=false) (h1:Ps .ca ts z):Ps .un ts z:=.mk1 h1 fun f e1=>by show (if _ then _ else _)=_;rw [if_neg (by rw [h0];simp),if_neg (by rw [h];simp)];exact e1
theorem Ps.ca_ok {p:Bool} (h:Ps .pr ts (.ok x r)) (hp:p=(kOf ts==1&&(hdOf x).k==13)) (k:Ps (.caL p x) r z):Ps .ca ts z:=.mk2 h k fun f e1 e2=>by show bnP _ _=_;rw [e1];rw [hp] at e2;exact e2
theorem Ps.ca_bad (h:Ps .pr ts (.bad r)):Ps .ca ts (.bad r):=.mk1 h fun f e1=>by show bnP _ _=_;rw [e1];rfl
theorem Ps.caL_end {p:Bool} (h:isT [40] ts=false):Ps (.caL p x) ts (.ok x ts):=.mk0 fun f=>by show (if _ then _ else _)=_;rw [if_neg (by rw [h];simp)]
theorem Ps.caL_call (h:isT [40] ts=true) (h1:Ps (.ag true .nil) ts.tail (.ok y r)) (h2:Ps (.caL false (nd 9 0 0 (lnOf ts) (hdOf x).nm y)) r z):Ps (.caL true x) ts z:=.mk2 h1 h2 fun f e1 e2=>by show (if _ then _ else _)=_;rw [if_pos h,e1];exact e2
theorem Ps.caL_value (h:isT [40] ts=true) (h1:Ps (.ag true .nil) ts.tail (.ok y r)) (h2:Ps (.caL false (nd 10 0 0 (lnOf ts) [] (x.app y))) r z):Ps (.caL false x) ts z:=.mk2 h1 h2 fun f e1 e2=>by show (if _ then _ else _)=_;rw [if_pos h,e1];exact e2
theorem Ps.caL_bad {p:Bool} (h:isT [40] ts=true) (h1:Ps (.ag true .nil) ts.tail (.bad r)):Ps (.caL p x) ts (.bad r):=.mk1 h1 fun f e1=>by show (if _ then _ else _)=_;rw [if_pos h,e1];rfl
theorem Ps.ag_end {b:Bool} {F:Fo} (h:isT [41] ts=true):Ps (.ag b F) ts (.ok F ts.tail):=.mk0 fun f=>by show (if _ then _ else _)=_;rw [if_pos h]
theorem Ps.ag_first {F:Fo} (h:isT [41] ts=false) (h1:Ps .ex ts (.ok x r)) (h2:Ps (.ag false (F.app x)) r z):Ps (.ag true F) ts z:=.mk2 h1 h2 fun f e1 e2=>by show (if _ then _ else _)=_;rw [if_neg (by rw [h];simp),if_pos rfl,e1];exact e2
theorem Ps.ag_first_bad {F:Fo} (h:isT [41] ts=false) (h1:Ps .ex ts (.bad r)):Ps (.ag true F) ts (.bad r):=.mk1 h1 fun f e1=>by show (if _ then _ else _)=_;rw [if_neg (by rw [h];simp),if_pos rfl,e1];rfl
theorem Ps.ag_next {F:Fo} (h:isT [41] ts=false) (hc:isT [44] ts=true) (h1:Ps .ex ts.tail (.ok x r)) (h2:Ps (.ag false (F.app x)) r z):Ps (.ag false F) ts z:=.mk2 h1 h2 fun f e1 e2=>by show (if _ then _ else _)=_;rw [if_neg (by rw [h];simp),if_neg (by simp),if_pos hc,e1];exact e2
theorem Ps.ag_next_bad {F:Fo} (h:isT [41] ts=false) (hc:isT [44] ts=true) (h1:Ps .ex ts.tail (.bad r)):Ps (.ag false F) ts (.bad r):=.mk1 h1 fun f e1=>by show (if _ then _ else _)=_;rw [if_neg (by rw [h];simp),if_neg (by simp),if_pos hc,e1];rfl
theorem Ps.ag_bad {F:Fo} (h:isT [41] ts=false) (hc:isT [44] ts=false):Ps (.ag false F) ts (.bad ts):=.mk0 fun f=>by show (if _ then _ else _)=_;rw [if_neg (by rw [h];simp),if_neg (by simp),if_neg (by rw [hc];simp)]
theorem Ps.pr_num (h:kOf ts=2):Ps .pr ts (.ok (nd 1 0 (vOf ts) (lnOf ts) [] .nil) ts.tail):=.mk0 fun f=>by show (if _ then _ else _)=_;rw [if_pos h]
theorem Ps.pr_name (h:kOf ts=1) (hb:isT [91] ts.tail=false):Ps .pr ts (.ok (nd 13 0 0 (lnOf ts) (tOf ts) .nil) ts.tail):=.mk0 fun f=>by show (if _ then _ else _)=_;rw [if_neg (by omega),if_pos h,if_neg (by rw [hb];simp)]
theorem Ps.pr_el (h:kOf ts=1) (hb:isT [91] ts.tail=true) (h1:Ps .ex ts.tail.tail (.ok x r)) (hc:isT [93] r=true):Ps .pr ts (.ok (nd 4 0 0 (lnOf ts) (tOf ts) x) r.tail):=.mk1 h1 fun f e1=>by show (if _ then _ else _)=_;rw [if_neg (by omega),if_pos h,if_pos hb,e1];show (if _ then _ else _)=_;rw [if_pos hc]
theorem Ps.pr_el_bad (h:kOf ts=1) (hb:isT [91] ts.tail=true) (h1:Ps .ex ts.tail.tail (.bad r)):Ps .pr ts (.bad r):=.mk1 h1 fun f e1=>by show (if _ then _ else _)=_;rw [if_neg (by omega),if_pos h,if_pos hb,e1];rfl
theorem Ps.pr_el_bad2 (h:kOf ts=1) (hb:isT [91] ts.tail=true) (h1:Ps .ex ts.tail.tail (.ok x r)) (hc:isT [93] r=false):Ps .pr ts (.bad r):=.mk1 h1 fun f e1=>by show (if _ then _ else _)=_;rw [if_neg (by omega),if_pos h,if_pos hb,e1];show (if _ then _ else _)=_;rw [if_neg (by rw [hc];simp)]
theorem isT_k {t:Bt} (h:isT t ts=true):kOf ts≠1/\kOf ts≠2/\kOf ts≠0/\tOf ts=t:=by
 cases ts with
 | nil=>cases h
 | cons x r =>
  simp only [isT,Bool.and_eq_true,Bool.or_eq_true,beq_iff_eq] at h
  exact⟨by show x.k≠1;omega,by show x.k≠2;omega,by show x.k≠0;omega,h.2⟩
theorem isT_ne {t u:Bt} (h:isT t ts=true) (hne:t≠u):isT u ts=false:=by
 cases ts with
 | nil=>cases h
 | cons x r =>
  simp only [isT,Bool.and_eq_true,beq_iff_eq] at h
  cases hh:isT u (x::r) with
  | false=>rfl
  | true =>
   simp only [isT,Bool.and_eq_true,beq_iff_eq] at hh
   exact absurd (h.2.symm.trans hh.2) hne
theorem Ps.pr_func (h:isT [38] ts=true) (hb:kOf ts.tail=1):Ps .pr ts (.ok (nd 11 0 0 (lnOf ts) (tOf ts.tail) .nil) ts.tail.tail):=.mk0 fun f=>by
 obtain⟨h1,h2,_⟩:=isT_k h
 show (if _ then _ else _)=_;rw [if_neg h2,if_neg h1,if_pos h,if_pos hb]
theorem Ps.pr_func_bad (h:isT [38] ts=true) (hb:kOf ts.tail≠1):Ps .pr ts (.bad ts.tail):=.mk0 fun f=>by
 obtain⟨h1,h2,_⟩:=isT_k h
 show (if _ then _ else _)=_;rw [if_neg h2,if_neg h1,if_pos h,if_neg hb]
theorem Ps.pr_read (h:isT [114,101,97,100] ts=true):Ps .pr ts (.ok (nd 12 0 0 (lnOf ts) [] .nil) ts.tail):=.mk0 fun f=>by
 obtain⟨h1,h2,_⟩:=isT_k h
 show (if _ then _ else _)=_;rw [if_neg h2,if_neg h1,if_neg (by rw [isT_ne h (by decide)];simp),if_pos h]
theorem Ps.pr_par (h:isT [40] ts=true) (h1:Ps .ex ts.tail (.ok x r)) (hc:isT [41] r=true):Ps .pr ts (.ok x r.tail):=.mk1 h1 fun f e1=>by
 obtain⟨k1,k2,_⟩:=isT_k h
 show (if _ then _ else _)=_;rw [if_neg k2,if_neg k1,if_neg (by rw [isT_ne h (by decide)];simp),if_neg (by rw [isT_ne h (by decide)];simp),if_pos h,e1];show (if _ then _ else _)=_;rw [if_pos hc]
theorem Ps.pr_par_bad (h:isT [40] ts=true) (h1:Ps .ex ts.tail (.bad r)):Ps .pr ts (.bad r):=.mk1 h1 fun f e1=>by
 obtain⟨k1,k2,_⟩:=isT_k h
 show (if _ then _ else _)=_;rw [if_neg k2,if_neg k1,if_neg (by rw [isT_ne h (by decide)];simp),if_neg (by rw [isT_ne h (by decide)];simp),if_pos h,e1];rfl
theorem Ps.pr_par_bad2 (h:isT [40] ts=true) (h1:Ps .ex ts.tail (.ok x r)) (hc:isT [41] r=false):Ps .pr ts (.bad r):=.mk1 h1 fun f e1=>by
 obtain⟨k1,k2,_⟩:=isT_k h
 show (if _ then _ else _)=_;rw [if_neg k2,if_neg k1,if_neg (by rw [isT_ne h (by decide)];simp),if_neg (by rw [isT_ne h (by decide)];simp),if_pos h,e1];show (if _ then _ else _)=_;rw [if_neg (by rw [hc];simp)]
theorem Ps.pr_bad (h1:kOf ts≠1) (h2:kOf ts≠2) (h3:isT [38] ts=false) (h4:isT [114,101,97,100] ts=false) (h5:isT [40] ts=false):Ps .pr ts (.bad ts):=.mk0 fun f=>by
 show (if _ then _ else _)=_;rw [if_neg h2,if_neg h1,if_neg (by rw [h3];simp),if_neg (by rw [h4];simp),if_neg (by rw [h5];simp)]
end
theorem tail_lt {ts:List Tk} (h:ts≠[]):ts.tail.length<ts.length:=by
 cases ts with
 | nil=>exact absurd rfl h
 | cons x r=>simp
end Go.Proofs.YtpcdinelpfbpfaaDoor
