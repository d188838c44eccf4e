/-
  PLAIN WORDS: what is parsed: statements out of tokens. No walk. (Filled in from a template of this repo.)
-/
import Derived.Test.YtpcdinelpfbpfaaDoorPsT
import Derived.Test.YtpcdinelpfbpfaaDoorMst
namespace Go.Proofs.YtpcdinelpfbpfaaDoor
set_option linter.unusedVariables false
set_option linter.unusedSimpArgs false

inductive PQ where
 | ok (S:Sf) (r:List Tk)
 | bad (r:List Tk)
inductive Lq where
 | st
 | bl
 | bk (S:Sf)
inductive Hk where
 | bad (r:List Tk)
 | val (k:Int) (nm:Bt) (r:List Tk)
 | sto (nm:Bt) (r:List Tk)
 | cho (k:Int) (r:List Tk)
def hk (ts:List Tk):Hk :=
 if isT [118,97,114] ts=true then (if kOf ts.tail=1 then (if isT [61] ts.tail.tail=true then .val 1 (tOf ts.tail) ts.tail.tail.tail else .bad ts.tail.tail) else .bad ts.tail)
 else if isT [105,102] ts=true then .cho 4 ts.tail
 else if isT [119,104,105,108,101] ts=true then .cho 5 ts.tail
 else if isT [114,101,116,117,114,110] ts=true then .val 6 [] ts.tail
 else if isT [112,114,105,110,116] ts=true then .val 7 [] ts.tail
 else if isT [99,97,108,108] ts=true then .val 8 [] ts.tail
 else if kOf ts=1 then (if isT [91] ts.tail=true then .sto (tOf ts) ts.tail.tail else if isT [61] ts.tail=true then .val 2 (tOf ts) ts.tail.tail else .bad ts.tail)
 else .bad ts
def endR (k ln:Int) (nm:Bt) (F:Fo):PR->PQ
 | .bad r=>.bad r
 | .ok x r=>if isT [59] r=true then .ok (oneS k ln nm (F.app x) .nil .nil) r.tail else .bad r
def bnE (o:Option PR) (k:Fo->List Tk->Option PQ):Option PQ:=match o with
 | none=>none
 | some (.bad r)=>some (.bad r)
 | some (.ok F r)=>k F r
def bnQ (o:Option PQ) (k:Sf->List Tk->Option PQ):Option PQ:=match o with
 | none=>none
 | some (.bad r)=>some (.bad r)
 | some (.ok F r)=>k F r
abbrev elW:Bt:=[101,108,115,101]
def stepS (p:List Tk->Option PR) (f:Lq->List Tk->Option PQ) (ln:Int):Hk->Option PQ
 | .bad r=>some (.bad r)
 | .val k nm r=>(p r).map (endR k ln nm .nil)
 | .sto nm r=>bnE (p r) fun x r2=>if isT [93] r2=true then (if isT [61] r2.tail=true then (p r2.tail.tail).map (endR 3 ln nm x) else some (.bad r2.tail)) else some (.bad r2)
 | .cho k r=>bnE (p r) fun x r2=>bnQ (f .bl r2) fun th r3=>if k=4/\isT elW r3=true then bnQ (f .bl r3.tail) (fun el r4=>some (.ok (oneS k ln [] x th el) r4)) else some (.ok (oneS k ln [] x th .nil) r3)
def stepQ (p:List Tk->Option PR) (f:Lq->List Tk->Option PQ) (lv:Lq) (ts:List Tk):Option PQ:=match lv with
 | .st=>stepS p f (lnOf ts) (hk ts)
 | .bl=>if isT [123] ts=true then f (.bk .nil) ts.tail else some (.bad ts)
 | .bk S=>if isT [125] ts=true then some (.ok S ts.tail) else bnQ (f .st ts) fun s r=>f (.bk (S.app s)) r
def Qn:Nat->Lq->List Tk->Option PQ
 | 0=>fun _ _=>none
 | n+1=>stepQ (Pn n .ex) (Qn n)
theorem bnE_mono {o o':Option PR} {k k':Fo->List Tk->Option PQ} {y:PQ} (h:bnE o k=some y) (ho : ∀ x,o=some x->o'=some x) (hk : ∀ F r,k F r=some y->k' F r=some y):bnE o' k'=some y:=by
 unfold bnE at h ⊢
 cases o with
 | none=>cases h
 | some x =>
  rw [ho x rfl]
  cases x with
  | ok F r=>exact hk F r h
  | bad r=>exact h
theorem bnQ_mono {o o':Option PQ} {k k':Sf->List Tk->Option PQ} {y:PQ} (h:bnQ o k=some y) (ho : ∀ x,o=some x->o'=some x) (hk : ∀ F r,k F r=some y->k' F r=some y):bnQ o' k'=some y:=by
 unfold bnQ at h ⊢
 cases o with
 | none=>cases h
 | some x =>
  rw [ho x rfl]
  cases x with
  | ok F r=>exact hk F r h
  | bad r=>exact h
theorem map_mono {o o':Option PR} {g:PR->PQ} {y:PQ} (h:o.map g=some y) (ho : ∀ x,o=some x->o'=some x):o'.map g=some y:=by
 cases o with
 | none=>cases h
 | some x=>rw [ho x rfl];exact h
theorem stepQ_mono {p p':List Tk->Option PR} {f g:Lq->List Tk->Option PQ} (hp : ∀ ts y,p ts=some y->p' ts=some y) (hfg : ∀ lv ts y,f lv ts=some y->g lv ts=some y) (lv:Lq) (ts:List Tk) (y:PQ) (h:stepQ p f lv ts=some y):stepQ p' g lv ts=some y:=by
 cases lv with
 | st =>
  unfold stepQ at h ⊢
  dsimp only at h ⊢
  generalize hk ts=q at h ⊢
  cases q with
  | bad r=>exact h
  | val k nm r=>exact map_mono h fun x hx=>hp _ x hx
  | sto nm r =>
   refine bnE_mono h (fun x hx=>hp _ x hx) fun F r h=>?_
   split
   ·rename_i h1
    rw [if_pos h1] at h
    split
    ·rename_i h2
     rw [if_pos h2] at h
     exact map_mono h fun x hx=>hp _ x hx
    ·rename_i h2
     rw [if_neg h2] at h
     exact h
   ·rename_i h1
    rw [if_neg h1] at h
    exact h
  | cho k r =>
   refine bnE_mono h (fun x hx=>hp _ x hx) fun F r h=>bnQ_mono h (fun x hx=>hfg _ _ x hx) fun S r2 h=>?_
   split
   ·rename_i h1
    rw [if_pos h1] at h
    exact bnQ_mono h (fun x hx=>hfg _ _ x hx) fun _ _ h=>h
   ·rename_i h1
    rw [if_neg h1] at h
    exact h
 | bl =>
  unfold stepQ at h ⊢
  dsimp only at h ⊢
  split
  ·rename_i h1;rw [if_pos h1] at h;exact hfg _ _ _ h
  ·rename_i h1;rw [if_neg h1] at h;exact h
 | bk S =>
  unfold stepQ at h ⊢
  dsimp only at h ⊢
  split
  ·rename_i h1;rw [if_pos h1] at h;exact h
  ·rename_i h1;rw [if_neg h1] at h;exact bnQ_mono h (fun x hx=>hfg _ _ x hx) fun _ _ h=>hfg _ _ _ h
theorem Qn_succ (n:Nat) : ∀ lv ts y,Qn n lv ts=some y->Qn (n+1) lv ts=some y:=by
 induction n with
 | zero=>intro lv ts y h;cases h
 | succ n ih=>intro lv ts y h;exact stepQ_mono (fun ts y=>Pn_succ n .ex ts y) ih lv ts y h
theorem Qn_le {n m:Nat} (h:n<=m) {lv:Lq} {ts:List Tk} {y:PQ} (hn:Qn n lv ts=some y):Qn m lv ts=some y:=by
 induction h with
 | refl=>exact hn
 | step _ ih=>exact Qn_succ _ _ _ _ ih
def Qs (lv:Lq) (ts:List Tk) (y:PQ):Prop := ∃ n,Qn n lv ts=some y
theorem Qs.det {lv:Lq} {ts:List Tk} {y z:PQ} (h:Qs lv ts y) (k:Qs lv ts z):y=z:=by
 obtain⟨n,hn⟩:=h
 obtain⟨m,hm⟩:=k
 have h1:=Qn_le (Nat.le_max_left n m) hn
 have h2:=Qn_le (Nat.le_max_right n m) hm
 rw [h1] at h2
 injection h2
theorem Qs.ev {lv:Lq} {ts:List Tk} {y:PQ} (h : ∃ n0,∀ n,n0<=n->stepQ (Pn n .ex) (Qn n) lv ts=some y):Qs lv ts y:=by
 obtain⟨n0,h⟩:=h
 exact⟨n0+1,h n0 (Nat.le_refl _)⟩
theorem Ps.ev {lv:Lv} {ts:List Tk} {y:PR} (h:Ps lv ts y) : ∃ n0,∀ n,n0<=n->Pn n lv ts=some y:=by
 obtain⟨n0,h⟩:=h
 exact⟨n0,fun n hn=>Pn_le hn h⟩
theorem Qs.ev' {lv:Lq} {ts:List Tk} {y:PQ} (h:Qs lv ts y) : ∃ n0,∀ n,n0<=n->Qn n lv ts=some y:=by
 obtain⟨n0,h⟩:=h
 exact⟨n0,fun n hn=>Qn_le hn h⟩
section
variable {ts r r2 r3:List Tk} {k:Int} {nm:Bt} {x:Fo} {S th el s:Sf} {y:PR} {z:PQ}
theorem Qs.st_bad (h:hk ts=.bad r):Qs .st ts (.bad r):=.ev ⟨0,fun n _=>by show stepS _ _ _ (hk ts)=_;rw [h];rfl⟩
theorem Qs.st_val (h:hk ts=.val k nm r) (hx:Ps .ex r y):Qs .st ts (endR k (lnOf ts) nm .nil y):=by
 obtain⟨a,ha⟩:=hx.ev
 exact .ev ⟨a,fun n hn=>by show stepS _ _ _ (hk ts)=_;rw [h];show Option.map _ _=_;rw [ha n hn];rfl⟩
theorem Qs.sto_bad (h:hk ts=.sto nm r) (hx:Ps .ex r (.bad r2)):Qs .st ts (.bad r2):=by
 obtain⟨a,ha⟩:=hx.ev
 exact .ev ⟨a,fun n hn=>by show stepS _ _ _ (hk ts)=_;rw [h];show bnE _ _=_;rw [ha n hn];rfl⟩
theorem Qs.sto_no1 (h:hk ts=.sto nm r) (hx:Ps .ex r (.ok x r2)) (h1:isT [93] r2=false):Qs .st ts (.bad r2):=by
 obtain⟨a,ha⟩:=hx.ev
 exact .ev ⟨a,fun n hn=>by show stepS _ _ _ (hk ts)=_;rw [h];show bnE _ _=_;rw [ha n hn];show (if _ then _ else _)=_;rw [if_neg (by rw [h1];simp)]⟩
theorem Qs.sto_no2 (h:hk ts=.sto nm r) (hx:Ps .ex r (.ok x r2)) (h1:isT [93] r2=true) (h2:isT [61] r2.tail=false):Qs .st ts (.bad r2.tail):=by
 obtain⟨a,ha⟩:=hx.ev
 exact .ev ⟨a,fun n hn=>by show stepS _ _ _ (hk ts)=_;rw [h];show bnE _ _=_;rw [ha n hn];show (if _ then _ else _)=_;rw [if_pos h1,if_neg (by rw [h2];simp)]⟩
theorem Qs.sto_ok (h:hk ts=.sto nm r) (hx:Ps .ex r (.ok x r2)) (h1:isT [93] r2=true) (h2:isT [61] r2.tail=true) (hy:Ps .ex r2.tail.tail y):Qs .st ts (endR 3 (lnOf ts) nm x y):=by
 obtain⟨a,ha⟩:=hx.ev
 obtain⟨b,hb⟩:=hy.ev
 exact .ev ⟨max a b,fun n hn=>by show stepS _ _ _ (hk ts)=_;rw [h];show bnE _ _=_;rw [ha n (by omega)];show (if _ then _ else _)=_;rw [if_pos h1,if_pos h2,hb n (by omega)];rfl⟩
theorem Qs.cho_bad (h:hk ts=.cho k r) (hx:Ps .ex r (.bad r2)):Qs .st ts (.bad r2):=by
 obtain⟨a,ha⟩:=hx.ev
 exact .ev ⟨a,fun n hn=>by show stepS _ _ _ (hk ts)=_;rw [h];show bnE _ _=_;rw [ha n hn];rfl⟩
theorem Qs.cho_bl (h:hk ts=.cho k r) (hx:Ps .ex r (.ok x r2)) (hb:Qs .bl r2 (.bad r3)):Qs .st ts (.bad r3):=by
 obtain⟨a,ha⟩:=hx.ev
 obtain⟨b,hb⟩:=hb.ev'
 exact .ev ⟨max a b,fun n hn=>by show stepS _ _ _ (hk ts)=_;rw [h];show bnE _ _=_;rw [ha n (by omega)];show bnQ _ _=_;rw [hb n (by omega)];rfl⟩
theorem Qs.cho_one (h:hk ts=.cho k r) (hx:Ps .ex r (.ok x r2)) (hb:Qs .bl r2 (.ok th r3)) (hn : ¬ (k=4/\isT elW r3=true)):Qs .st ts (.ok (oneS k (lnOf ts) [] x th .nil) r3):=by
 obtain⟨a,ha⟩:=hx.ev
 obtain⟨b,hb⟩:=hb.ev'
 exact .ev ⟨max a b,fun n hn2=>by show stepS _ _ _ (hk ts)=_;rw [h];show bnE _ _=_;rw [ha n (by omega)];show bnQ _ _=_;rw [hb n (by omega)];show (if _ then _ else _)=_;rw [if_neg hn]⟩
theorem Qs.cho_two {r4:List Tk} (h:hk ts=.cho k r) (hx:Ps .ex r (.ok x r2)) (hb:Qs .bl r2 (.ok th r3)) (hn:k=4/\isT elW r3=true) (hc:Qs .bl r3.tail (.ok el r4)):Qs .st ts (.ok (oneS k (lnOf ts) [] x th el) r4):=by
 obtain⟨a,ha⟩:=hx.ev
 obtain⟨b,hb⟩:=hb.ev'
 obtain⟨c,hc⟩:=hc.ev'
 exact .ev ⟨max a (max b c),fun n hn2=>by show stepS _ _ _ (hk ts)=_;rw [h];show bnE _ _=_;rw [ha n (by omega)];show bnQ _ _=_;rw [hb n (by omega)];show (if _ then _ else _)=_;rw [if_pos hn,hc n (by omega)];rfl⟩
theorem Qs.cho_two_bad {r4:List Tk} (h:hk ts=.cho k r) (hx:Ps .ex r (.ok x r2)) (hb:Qs .bl r2 (.ok th r3)) (hn:k=4/\isT elW r3=true) (hc:Qs .bl r3.tail (.bad r4)):Qs .st ts (.bad r4):=by
 obtain⟨a,ha⟩:=hx.ev
 obtain⟨b,hb⟩:=hb.ev'
 obtain⟨c,hc⟩:=hc.ev'
 exact .ev ⟨max a (max b c),fun n hn2=>by show stepS _ _ _ (hk ts)=_;rw [h];show bnE _ _=_;rw [ha n (by omega)];show bnQ _ _=_;rw [hb n (by omega)];show (if _ then _ else _)=_;rw [if_pos hn,hc n (by omega)];rfl⟩
theorem Qs.bl_no (h:isT [123] ts=false):Qs .bl ts (.bad ts):=.ev ⟨0,fun n _=>by show (if _ then _ else _)=_;rw [if_neg (by rw [h];simp)]⟩
theorem Qs.bl_ok (h:isT [123] ts=true) (hb:Qs (.bk .nil) ts.tail z):Qs .bl ts z:=by
 obtain⟨b,hb⟩:=hb.ev'
 exact .ev ⟨b,fun n hn=>by show (if _ then _ else _)=_;rw [if_pos h,hb n hn]⟩
theorem Qs.bk_end (h:isT [125] ts=true):Qs (.bk S) ts (.ok S ts.tail):=.ev ⟨0,fun n _=>by show (if _ then _ else _)=_;rw [if_pos h]⟩
theorem Qs.bk_bad (h:isT [125] ts=false) (hs:Qs .st ts (.bad r)):Qs (.bk S) ts (.bad r):=by
 obtain⟨b,hb⟩:=hs.ev'
 exact .ev ⟨b,fun n hn=>by show (if _ then _ else _)=_;rw [if_neg (by rw [h];simp),hb n hn];rfl⟩
theorem Qs.bk_ok (h:isT [125] ts=false) (hs:Qs .st ts (.ok s r)) (hb:Qs (.bk (S.app s)) r z):Qs (.bk S) ts z:=by
 obtain⟨a,ha⟩:=hs.ev'
 obtain⟨b,hb⟩:=hb.ev'
 exact .ev ⟨max a b,fun n hn=>by show (if _ then _ else _)=_;rw [if_neg (by rw [h];simp),ha n (by omega)];exact hb n (by omega)⟩
end
end Go.Proofs.YtpcdinelpfbpfaaDoor
