/-
  PLAIN WORDS: trees of sources (expressions and statements ar forests), and what is right of drawn ones. No walk. (Filled in from a template of this repo.)
  WORDS: trees in memory, and the maker of drawn sources. (Filled in from a template of this repo.)
  WALKS of the small functions of the maker: names, node, one, pick, leaf, fresh. (Filled in from a template of this repo.)
  WORDS: blocks of an expression written anew, operands made. (Filled in from a template of this repo.)
-/
import Derived.Test.YtpcdinelpfbpfaaDoorMrp
import Derived.Test.YtpcdinelpfbpfaaDoorMtk
import Derived.Laws.AppendOwn
namespace Go.Proofs.YtpcdinelpfbpfaaDoor
open Go.ChangeShapes Go.WideShapes Go.ChangeAt Go.RowKit
set_option linter.unusedVariables false
set_option linter.unusedSimpArgs false

structure Hd where
 k:Int
 op:Int
 v:Int
 ln:Int
 nm:Bt
inductive Fo where
 | nil
 | cons (h:Hd) (ar r:Fo)
namespace Fo
def len:Fo->Nat
 | .nil=>0
 | .cons _ _ r=>r.len+1
def app:Fo->Fo->Fo
 | .nil,G=>G
 | .cons h ar r,G=>.cons h ar (r.app G)
def get:Fo->Nat->Option (Hd×Fo)
 | .nil,_=>none
 | .cons h ar _,0=>some (h,ar)
 | .cons _ _ r,i+1=>r.get i
theorem len_app (F G:Fo):(F.app G).len=F.len+G.len:=by
 induction F with
 | nil=>simp [app,len]
 | cons h ar r _ ih=>simp only [app,len];omega
theorem get_lt {F:Fo} {i:Nat} (h:i<F.len) : ∃ x,F.get i=some x:=by
 induction F generalizing i with
 | nil=>simp [len] at h
 | cons hd ar r _ ih =>
  cases i with
  | zero=>exact⟨_,rfl⟩
  | succ i=>exact ih (by simp only [len] at h;omega)
theorem lt_get {F:Fo} {i:Nat} {x:Hd×Fo} (h:F.get i=some x):i<F.len:=by
 induction F generalizing i with
 | nil=>cases h
 | cons hd ar r _ ih =>
  cases i with
  | zero=>simp [len]
  | succ i=>have:=ih (i:=i) h;simp only [len];omega
end Fo
abbrev one1 (h:Hd) (ar:Fo):Fo:=.cons h ar .nil
inductive Sf where
 | nil
 | cons (k ln:Int) (nm:Bt) (xs:Fo) (th el r:Sf)
namespace Sf
def len:Sf->Nat
 | .nil=>0
 | .cons _ _ _ _ _ _ r=>r.len+1
def app:Sf->Sf->Sf
 | .nil,G=>G
 | .cons k ln nm xs th el r,G=>.cons k ln nm xs th el (r.app G)
theorem len_app (F G:Sf):(F.app G).len=F.len+G.len:=by
 induction F with
 | nil=>simp [app,len]
 | cons k ln nm xs th el r _ _ ih=>simp only [app,len];omega
end Sf
def okN (nm:Bt):Prop := ∃ b r,nm=b::r/\lt8 b=true/\(∀ c∈r,in8 c=true)/\isW nm=false/\nm.length<=4
def okH (h:Hd) (ar:Fo):Prop :=
 h.op=0/\h.v=0/\((h.k=13/\okN h.nm/\ar=.nil)\/(h.k=12/\h.nm=[]/\ar=.nil)\/(h.k=11/\okN h.nm/\ar=.nil)\/(h.k=4/\okN h.nm/\ar.len=1) \/
  ((h.k=7\/h.k=8)/\h.nm=[]/\ar.len=2)\/(h.k=9/\okN h.nm/\ar.len<=2)\/(h.k=10/\h.nm=[] /\ ∃ g bs r,ar=.cons g bs r/\g.k≠13/\r.len<=2)) \/
 (h.op=0/\h.k=1/\h.nm=[]/\0<=h.v/\h.v<=9223372036854775807/\ar=.nil) \/
 (h.v=0/\h.nm=[]/\((h.k=5/\1<=h.op/\h.op<=2/\ar.len=1)\/(h.k=6/\3<=h.op/\h.op<=11/\ar.len=2)))
def Fo.wf:Fo->Prop
 | .nil=>True
 | .cons h ar r=>okH h ar/\h.ln=0/\ar.wf/\r.wf
def own (h:Hd) (n:Nat):Nat :=
 if h.k=1 then 39 else if h.k=13 then 24 else if h.k=12 then 24 else if h.k=11 then 45 else 111
def Fo.cst:Fo->Nat
 | .nil=>0
 | .cons h ar r=>own h ar.len+ar.cst+r.cst
def Fo.dep:Fo->Nat
 | .nil=>0
 | .cons h ar r=>max (ar.dep+1) r.dep
theorem Fo.wf_app {F G:Fo} (h:F.wf) (k:G.wf):(F.app G).wf:=by
 induction F with
 | nil=>exact k
 | cons hd ar r _ ih=>exact⟨h.1,h.2.1,h.2.2.1,ih h.2.2.2⟩
theorem Fo.cst_app (F G:Fo):(F.app G).cst=F.cst+G.cst:=by
 induction F with
 | nil=>simp [app,cst]
 | cons hd ar r _ ih=>simp only [app,cst];omega
theorem Fo.dep_app (F G:Fo):(F.app G).dep=max F.dep G.dep:=by
 induction F with
 | nil=>simp [app,dep]
 | cons hd ar r _ ih=>simp only [app,dep,ih];omega
def bnd:Nat->Nat
 | 0=>45
 | d+1=>3 * bnd d+111
theorem bnd_le (d:Nat):bnd d<=bnd (d+1):=by show _<=3 * bnd d+111;omega
theorem bnd_45 (d:Nat):45<=bnd d:=by
 induction d with
 | zero=>exact Nat.le_refl _
 | succ d ih=>exact Nat.le_trans ih (bnd_le d)
def goodE (d:Nat) (h:Hd) (ar:Fo):Prop:=okH h ar/\h.ln=0/\ar.wf/\own h ar.len+ar.cst<=bnd d/\ar.dep<=d
theorem goodE.leaf {h:Hd} {ar:Fo} (h1:okH h ar) (hl:h.ln=0) (ha:ar=.nil) (hk:h.k=1\/h.k=13\/h.k=12\/h.k=11) (d:Nat):goodE d h ar:=by
 subst ha
 refine⟨h1,hl,trivial,?_,Nat.zero_le _⟩
 have:=bnd_45 d
 have:own h 0<=45:=by unfold own;split;omega;split;omega;split;omega;split;omega;omega
 simp only [Fo.len,Fo.cst];omega
def goodF (d:Nat) (F:Fo):Prop:=F.wf/\F.cst<=F.len * bnd d/\F.dep<=d+1
theorem goodF.nil (d:Nat):goodF d .nil:=⟨trivial,by simp [Fo.cst],Nat.zero_le _⟩
theorem goodF.snoc {d:Nat} {F:Fo} {h:Hd} {ar:Fo} (hF:goodF d F) (hE:goodE d h ar):goodF d (F.app (one1 h ar)):=by
 refine⟨Fo.wf_app hF.1 ⟨hE.1,hE.2.1,hE.2.2.1,trivial⟩,?_,?_⟩
 ·rw [Fo.cst_app,Fo.len_app]
  have h1:=hF.2.1
  have h2:=hE.2.2.2.1
  show _+(own h ar.len+ar.cst+0)<=(_+1) * _
  rw [Nat.add_mul];omega
 ·rw [Fo.dep_app]
  have h1:=hF.2.2
  have h2:=hE.2.2.2.2
  show max _ (max (ar.dep+1) 0)<=_
  omega
theorem goodF.cons {d:Nat} {F:Fo} {h:Hd} {ar:Fo} (hF:goodF d F) (hE:goodE d h ar):goodF d (.cons h ar F):=by
 refine⟨⟨hE.1,hE.2.1,hE.2.2.1,hF.1⟩,?_,?_⟩
 ·have h1:=hF.2.1
  have h2:=hE.2.2.2.1
  show own h ar.len+ar.cst+F.cst<=(F.len+1) * _
  rw [Nat.add_mul];omega
 ·have h1:=hF.2.2
  have h2:=hE.2.2.2.2
  show max (ar.dep+1) _<=_
  omega
theorem goodE.up {d:Nat} {h:Hd} {ar:Fo} (h1:okH h ar) (hl:h.ln=0) (hF:goodF d ar) (h3:ar.len<=3):goodE (d+1) h ar:=by
 refine⟨h1,hl,hF.1,?_,hF.2.2⟩
 have h2:=hF.2.1
 have:own h ar.len<=111:=by unfold own;split;omega;split;omega;split;omega;split;omega;omega
 have:ar.len * bnd d<=3 * bnd d:=Nat.mul_le_mul_right _ h3
 show _<=3 * bnd d+111
 omega
theorem goodE.mono {d:Nat} {h:Hd} {ar:Fo} (hE:goodE d h ar):goodE (d+1) h ar :=
 ⟨hE.1,hE.2.1,hE.2.2.1,Nat.le_trans hE.2.2.2.1 (bnd_le d),by have:=hE.2.2.2.2;omega⟩
end Go.Proofs.YtpcdinelpfbpfaaDoor
namespace Go.Proofs.YtpcdinelpfbpfaaDoor
open Go.ChangeShapes Go.WideShapes Go.ChangeAt Go.RowKit
set_option linter.unusedVariables false
set_option linter.unusedSimpArgs false

abbrev hdc (h:Hd) (sl:Value):List Value:=[.int .i64 h.k,.int .i64 h.op,.int .i64 h.v,.int .i64 h.ln,.string (st h.nm),sl]
abbrev exv (h:Hd) (sl:Value):Value:=.agg #[.int .i64 h.k,.int .i64 h.op,.int .i64 h.v,.int .i64 h.ln,.string (st h.nm),sl]
def SlAt (w:World) (P:Nat->Prop) (a:Option Addr) (xs:List Value):Prop :=
 xs≠[] -> ∃ b off,a=some ⟨b,off,none⟩/\P b/\b<w.heap.size /\ ∀ j u,xs[j]?=some u->w.cell? ⟨b,off+j,none⟩=some u
theorem SlAt.keep {w w':World} {P Q:Nat->Prop} {a:Option Addr} {xs:List Value} (h:SlAt w P a xs) (hk : ∀ b,P b->b<w.heap.size->w'.heap[b]?=w.heap[b]?/\Q b) (hs:w.heap.size<=w'.heap.size):SlAt w' Q a xs:=fun hx=>by
 obtain⟨b,off,e,hp,hb,hc⟩:=h hx
 exact⟨b,off,e,(hk b hp hb).2,by omega,fun j u hj=>(World.cell?_of_block (w:=w) (a:=⟨b,off+j,none⟩) (hk b hp hb).1).trans (hc j u hj)⟩
theorem SlAt.cells {w:World} {P:Nat->Prop} {a:Option Addr} {xs:List Value} (h:SlAt w P a xs):Cells w a xs:=fun hx=>by
 obtain⟨b,off,e,_,hb,hc⟩:=h hx
 exact⟨b,off,e,hb,hc⟩
def FoAt (w:World) (P:Nat->Prop):Fo->List Value->Prop
 | .nil,cs=>cs=[]
 | .cons h ar r,cs => ∃ a cap rws cs',cs=hdc h (.slice a ar.len cap)++cs'/\ar.len<=cap/\cap<=maxLen/\(a=none->cap=0)/\SlAt w P a rws/\FoAt w P ar rws/\FoAt w P r cs'
theorem FoAt.len {w:World} {P:Nat->Prop} {F:Fo} {cs:List Value} (h:FoAt w P F cs):cs.length=F.len * 6:=by
 induction F generalizing cs with
 | nil=>rw [show cs=[] from h];rfl
 | cons hd ar r _ ih =>
  obtain⟨a,cap,rws,cs',rfl,_,_,_,_,_,h2⟩:=h
  rw [List.length_append,ih h2]
  show 6+_=(_+1) * 6
  omega
theorem FoAt.keep {w w':World} {P Q:Nat->Prop} {F:Fo} {cs:List Value} (h:FoAt w P F cs) (hk : ∀ b,P b->b<w.heap.size->w'.heap[b]?=w.heap[b]?/\Q b) (hs:w.heap.size<=w'.heap.size):FoAt w' Q F cs:=by
 induction F generalizing cs with
 | nil=>exact h
 | cons hd ar r ih1 ih2 =>
  obtain⟨a,cap,rws,cs',rfl,h1,h2,h3,h4,h5,h6⟩:=h
  exact⟨a,cap,rws,cs',rfl,h1,h2,h3,h4.keep hk hs,ih1 h5,ih2 h6⟩
theorem FoAt.app {w:World} {P:Nat->Prop} {F G:Fo} {cs ds:List Value} (h:FoAt w P F cs) (k:FoAt w P G ds):FoAt w P (F.app G) (cs++ds):=by
 induction F generalizing cs with
 | nil=>rw [show cs=[] from h];exact k
 | cons hd ar r _ ih =>
  obtain⟨a,cap,rws,cs',rfl,h1,h2,h3,h4,h5,h6⟩:=h
  exact⟨a,cap,rws,cs'++ds,by rw [List.append_assoc],h1,h2,h3,h4,h5,ih h6⟩
theorem FoAt.oneCell {w:World} {P:Nat->Prop} {F:Fo} {cs:List Value} (h:FoAt w P F cs) : ∀ u∈cs,u.oneCell'=true:=by
 induction F generalizing cs with
 | nil=>rw [show cs=[] from h];intro u hu;cases hu
 | cons hd ar r _ ih =>
  obtain⟨a,cap,rws,cs',rfl,_,_,_,_,_,h6⟩:=h
  intro u hu
  rw [List.mem_append] at hu
  rcases hu with hu | hu
  ·simp at hu
   rcases hu with rfl | rfl | rfl | rfl | rfl | rfl <;> rfl
  ·exact ih h6 u hu
def ArgsAt (w:World) (P:Nat->Prop) (ar:Fo) (sl:Value):Prop :=
 ∃ a cap rws,sl=.slice a ar.len cap/\ar.len<=cap/\cap<=maxLen/\(a=none->cap=0)/\SlAt w P a rws/\FoAt w P ar rws
theorem ArgsAt.nil (w:World) (P:Nat->Prop):ArgsAt w P .nil (.slice none 0 0):=⟨none,0,[],rfl,Nat.le_refl _,by simp [maxLen],fun _=>rfl,fun h=>absurd rfl h,rfl⟩
theorem ArgsAt.keep {w w':World} {P Q:Nat->Prop} {F:Fo} {sl:Value} (h:ArgsAt w P F sl) (hk : ∀ b,P b->b<w.heap.size->w'.heap[b]?=w.heap[b]?/\Q b) (hs:w.heap.size<=w'.heap.size):ArgsAt w' Q F sl:=by
 obtain⟨a,cap,rws,e,h1,h2,h3,h4,h5⟩:=h
 exact⟨a,cap,rws,e,h1,h2,h3,h4.keep hk hs,h5.keep hk hs⟩
theorem ArgsAt.one {w:World} {P:Nat->Prop} {h:Hd} {ar:Fo} {sl:Value} (k:ArgsAt w P ar sl):FoAt w P (one1 h ar) (hdc h sl):=by
 obtain⟨a,cap,rws,rfl,h1,h2,h3,h4,h5⟩:=k
 exact⟨a,cap,rws,[],by simp,h1,h2,h3,h4,h5,rfl⟩
theorem ArgsAt.of_own {w:World} {base e size:Nat} {P:Nat->Prop} {F:Fo} {v:Value} {xs:List Value} (h:w.ownsRow base e 6 v F.len xs) (hF:FoAt w P F xs) (hP : ∀ b,v.ownBlock=some b->P b):ArgsAt w P F v:=by
 obtain⟨a,cap,rfl,h1,h2,h3,h4,_⟩:=Cells.of_own h
 refine⟨a,cap,xs,rfl,h2,h3,own_nil h,fun hx=>?_,hF⟩
 obtain⟨b,off,e,hb,hc⟩:=h4 hx
 exact⟨b,off,e,hP b (by rw [e];rfl),hb,hc⟩
def glc (gs:List (Bt×Int)):List Value:=gs.flatMap fun g=>[.string (st g.1),.int .i64 g.2]
structure Fr where
 nm:Bt
 pa:Option Addr
 pn:Nat
 pc:Nat
 ba:Option Addr
 bn:Nat
 bc:Nat
def frc (fs:List Fr):List Value:=fs.flatMap fun f=>[.string (st f.nm),.int .i64 0,.slice f.pa f.pn f.pc,.slice f.ba f.bn f.bc]
theorem glc_len (l:List (Bt×Int)):(glc l).length=l.length * 2:=by
 induction l with
 | nil=>rfl
 | cons s l ih=>unfold glc at ih ⊢;rw [List.flatMap_cons,List.length_append,ih];show 2+_=(l.length+1) * 2;omega
theorem frc_len (l:List Fr):(frc l).length=l.length * 4:=by
 induction l with
 | nil=>rfl
 | cons s l ih=>unfold frc at ih ⊢;rw [List.flatMap_cons,List.length_append,ih];show 4+_=(l.length+1) * 4;omega
theorem glc_get (l:List (Bt×Int)) (j:Nat) (s:Bt×Int) (h:l[j]?=some s):(glc l)[j * 2]?=some (.string (st s.1))/\(glc l)[j * 2+1]?=some (.int .i64 s.2):=by
 induction l generalizing j with
 | nil=>simp at h
 | cons x l ih =>
  cases j with
  | zero=>simp at h;subst h;exact⟨rfl,rfl⟩
  | succ j =>
   have:=ih j (by simpa using h)
   have e1:(j+1) * 2=j * 2+1+1:=by omega
   rw [e1]
   exact this
theorem frc_get (l:List Fr) (j:Nat) (s:Fr) (h:l[j]?=some s):(frc l)[j * 4]?=some (.string (st s.nm))/\(frc l)[j * 4+1]?=some (.int .i64 0)/\(frc l)[j * 4+2]?=some (.slice s.pa s.pn s.pc)/\(frc l)[j * 4+3]?=some (.slice s.ba s.bn s.bc):=by
 induction l generalizing j with
 | nil=>simp at h
 | cons x l ih =>
  cases j with
  | zero=>simp at h;subst h;exact⟨rfl,rfl,rfl,rfl⟩
  | succ j =>
   have:=ih j (by simpa using h)
   have e1:(j+1) * 4=j * 4+1+1+1+1:=by omega
   rw [e1]
   exact this
structure Mk where
 va:Value
 vb:Value
 vl:Value
 gs:List (Bt×Int)
 fs:List Fr
 ls:List Bt
 bud:Int
structure MkAt (w:World) (gc gm:Nat) (M:Mk):Prop where
 cod:Cod w gc
 lt:gc<gm
 row:w.heap[gm]?=some (.cells #[.pointer (some ⟨gc,0,none⟩),M.va,M.vb,M.vl,.int .i64 M.bud] 70 (0,0))
 gl:w.ownsRow (gm+1) 62 2 M.va M.gs.length (glc M.gs)
 fn:w.ownsRow (gm+1) 66 4 M.vb M.fs.length (frc M.fs)
 lo:w.ownsRow (gm+1) 9 1 M.vl M.ls.length (strs M.ls)
 gok : ∀ g∈M.gs,okN g.1/\0<=g.2/\g.2<=5
 fok : ∀ f∈M.fs,okN f.nm/\f.pn<=2
 lok : ∀ l∈M.ls,okN l
 gn:M.gs.length<=4
 fn1:1<=M.fs.length
 fn2:M.fs.length<=4
 ln:M.ls.length<=10
theorem own_grown {w w':World} {base e k n:Nat} {v:Value} {l:List Value} {g:Nat} (h:w.ownsRow base e k v n l) (hg:w.grownBy w' (some g)) (hgb:g<base):w'.ownsRow base e k v n l :=
 h.kept hg (by cases hq:v.ownBlock with | none=>exact .inl rfl | some k=>exact .inr (fun e=>by have:=(h.lt k hq).1;injection e with e;omega))
theorem MkAt.grown {w w':World} {gc gm:Nat} {M:Mk} (h:MkAt w gc gm M) (hg:w.grownBy w' (some gc)) (hc:Cod w' gc):MkAt w' gc gm M :=
 {h with
  cod:=hc
  row:=(hg.block gm (heap_lt h.row) (fun e=>by injection e with e;have:=h.lt;omega)).trans h.row
  gl:=own_grown h.gl hg (by have:=h.lt;omega)
  fn:=own_grown h.fn hg (by have:=h.lt;omega)
  lo:=own_grown h.lo hg (by have:=h.lt;omega) }
theorem MkAt.below {w w':World} {gc gm:Nat} {M:Mk} (h:MkAt w gc gm M) (hb:Below w.heap.size w w'):MkAt w' gc gm M :=
 h.grown (grownBy_of_below hb _) (h.cod.below hb h.cod.lt)
theorem MkAt.lt2 {w:World} {gc gm:Nat} {M:Mk} (h:MkAt w gc gm M):gc<gm/\gm<w.heap.size:=⟨h.lt,heap_lt h.row⟩
def ExPost (gc gm d:Nat) (w:World) (e:Ending) (w':World):Prop :=
 ∃ h ar sl,e=.returned (exv h sl)/\ArgsAt w' (fun b=>w.heap.size<=b) ar sl/\goodE d h ar/\Cod w' gc/\w.grownBy w' (some gc)
end Go.Proofs.YtpcdinelpfbpfaaDoor
namespace Go.Proofs.YtpcdinelpfbpfaaDoor
open Go.ChangeShapes Go.WideShapes Go.ChangeAt Go.RowKit
set_option linter.unusedVariables false
set_option linter.unusedSimpArgs false

theorem cells6 {w:World} {g:Nat} {v0 v1 v2 v3 v4 v5:Value} {t:TypeId} {fr:Nat×Nat} (h:w.heap[g]?=some (.cells #[v0,v1,v2,v3,v4,v5] t fr)) :
  w.cell? ⟨g,0,none⟩=some v0/\w.cell? ⟨g,1,none⟩=some v1/\w.cell? ⟨g,2,none⟩=some v2/\w.cell? ⟨g,3,none⟩=some v3/\w.cell? ⟨g,4,none⟩=some v4/\w.cell? ⟨g,5,none⟩=some v5 :=
 ⟨cell_of_row w g 0 _ _ _ h,cell_of_row w g 1 _ _ _ h,cell_of_row w g 2 _ _ _ h,cell_of_row w g 3 _ _ _ h,cell_of_row w g 4 _ _ _ h,cell_of_row w g 5 _ _ _ h⟩
def namesL:List Bt:=[[97],[98],[99],[100],[101],[102],[105],[107]]
theorem namesL_ok : ∀ l∈namesL,okN l:=by
 intro l hl
 simp [namesL] at hl
 rcases hl with rfl | rfl | rfl | rfl | rfl | rfl | rfl | rfl <;> exact⟨_,_,rfl,by decide,by simp,by decide,by simp⟩
set_option maxRecDepth 100000 in
theorem names_any (w:World):Calls Tryd.prog 59 #[] w fun e w'=>e=.returned (.slice (some ⟨w.heap.size,0,none⟩) 8 8)/\w'=w.alloc (.cells (strs namesL).toArray 9):=by
 go_enter Tryd.func59,Tryd.ntmps59
 go_wp2_with fail
 go_ret
 exact⟨rfl,rfl⟩
set_option maxRecDepth 100000 in
theorem node_any (k op:Int) (a:Option Addr) (n c:Nat) (w:World):Calls Tryd.prog 61 #[.int .i64 k,.int .i64 op,.slice a n c] w fun e w'=>e=.returned (exv ⟨k,op,0,0,[]⟩ (.slice a n c))/\Below w.heap.size w w':=by
 go_enter Tryd.func61,Tryd.ntmps61
 go_wp2_with fail
 obtain⟨q0,q1,q2,q3,q4,q5⟩:=cells6 (heap_alloc_new w (.cells #[.int .i64 k,.int .i64 op,.int .i64 0,.int .i64 0,.string { data := #[] },.slice a n c] 40))
 have hb:Below w.heap.size w (w.alloc (.cells #[.int .i64 k,.int .i64 op,.int .i64 0,.int .i64 0,.string { data := #[] },.slice a n c] 40)):=(Below.refl _ _).alloc (Nat.le_refl _) _
 obtain⟨wn,hwn⟩ : ∃ wn,w.alloc (.cells #[.int .i64 k,.int .i64 op,.int .i64 0,.int .i64 0,.string { data := #[] },.slice a n c] 40)=wn:=⟨_,rfl⟩
 rw [hwn] at q0 q1 q2 q3 q4 q5 hb ⊢
 refine bodyPost_ret (v:=exv ⟨k,op,0,0,[]⟩ (.slice a n c)) (by simp [results,Tryd.results61,go_sem,q0,q1,q2,q3,q4,q5]) rfl ?_
 exact⟨rfl,hb⟩
set_option maxRecDepth 100000 in
theorem one_any (k:Int) (nm:ByteArray) (h:Hd) (a:Option Addr) (n c:Nat) (w:World):Calls Tryd.prog 45 #[.int .i64 k,.string nm,exv h (.slice a n c)] w fun e w' => ∃ g,e=.returned (.agg #[.int .i64 k,.int .i64 0,.string nm,.slice (some ⟨g,0,none⟩) 1 1,.slice none 0 0,.slice none 0 0])/\w.heap.size<=g/\w'.heap[g]?=some (.cells (hdc h (.slice a n c)).toArray 40 (0,0))/\Below w.heap.size w w':=by
 go_enter Tryd.func45,Tryd.ntmps45
 go_wp2_with fail
 have hb1:=(Below.refl w.heap.size w).alloc (Nat.le_refl _) (.cells #[.int .i64 h.k,.int .i64 h.op,.int .i64 h.v,.int .i64 h.ln,.string (st h.nm),.slice a n c] 40)
 obtain⟨w1,hw1⟩ : ∃ w1,w.alloc (.cells #[.int .i64 h.k,.int .i64 h.op,.int .i64 h.v,.int .i64 h.ln,.string (st h.nm),.slice a n c] 40)=w1:=⟨_,rfl⟩
 have hs1:w1.heap.size=w.heap.size+1:=by rw [<- hw1];simp
 rw [hw1] at hb1 ⊢
 rw [<- hs1]
 have hb2:=hb1.alloc hb1.size (.cells #[.int .i64 k,.int .i64 0,.string nm,.slice (some ⟨w1.heap.size+1,0,none⟩) 1 1,.slice none 0 0,.slice none 0 0] 83)
 have hr:=heap_alloc_new w1 (.cells #[.int .i64 k,.int .i64 0,.string nm,.slice (some ⟨w1.heap.size+1,0,none⟩) 1 1,.slice none 0 0,.slice none 0 0] 83)
 obtain⟨w2,hw2⟩ : ∃ w2,w1.alloc (.cells #[.int .i64 k,.int .i64 0,.string nm,.slice (some ⟨w1.heap.size+1,0,none⟩) 1 1,.slice none 0 0,.slice none 0 0] 83)=w2:=⟨_,rfl⟩
 have hs2:w2.heap.size=w1.heap.size+1:=by rw [<- hw2];simp
 rw [hw2] at hb2 hr ⊢
 have hb3:=hb2.alloc hb2.size (.cells #[.int .i64 h.k,.int .i64 h.op,.int .i64 h.v,.int .i64 h.ln,.string (st h.nm),.slice a n c] 40)
 have hn:=heap_alloc_new w2 (.cells #[.int .i64 h.k,.int .i64 h.op,.int .i64 h.v,.int .i64 h.ln,.string (st h.nm),.slice a n c] 40)
 have hr3:=(Below.heap_alloc w2 (.cells #[.int .i64 h.k,.int .i64 h.op,.int .i64 h.v,.int .i64 h.ln,.string (st h.nm),.slice a n c] 40) w1.heap.size (heap_lt hr)).trans hr
 obtain⟨w3,hw3⟩ : ∃ w3,w2.alloc (.cells #[.int .i64 h.k,.int .i64 h.op,.int .i64 h.v,.int .i64 h.ln,.string (st h.nm),.slice a n c] 40)=w3:=⟨_,rfl⟩
 rw [hw3] at hb3 hn hr3 ⊢
 obtain⟨q0,q1,q2,q3,q4,q5⟩:=cells6 hr3
 refine bodyPost_ret (v:=.agg #[.int .i64 k,.int .i64 0,.string nm,.slice (some ⟨w1.heap.size+1,0,none⟩) 1 1,.slice none 0 0,.slice none 0 0]) (by simp [results,Tryd.results45,go_sem,q0,q1,q2,q3,q4,q5]) rfl ?_
 exact⟨w1.heap.size+1,rfl,by omega,by rw [<- hs2];exact hn,hb3⟩
end Go.Proofs.YtpcdinelpfbpfaaDoor
namespace Go.Proofs.YtpcdinelpfbpfaaDoor
open Go.ChangeShapes Go.WideShapes Go.ChangeAt Go.RowKit
set_option linter.unusedVariables false
set_option linter.unusedSimpArgs false

theorem Tryd.infoStr:(Tryd.prog.info? 9).map (fun i=>(i.zero,i.size,i.bytes))=some (some (.string ⟨#[]⟩),1,16):=by kernel_rfl
theorem Tryd.infoExpr:(Tryd.prog.info? 40).map (fun i=>(i.zero,i.size,i.bytes))=some (some (.agg #[.int .i64 0,.int .i64 0,.int .i64 0,.int .i64 0,.string ⟨#[]⟩,.slice none 0 0]),6,72):=by kernel_rfl
theorem strs_push (l:List Bt) (x:Bt):strs l++[.string (st x)]=strs (l++[x]):=by simp [strs]
abbrev set6 (w:World) (b:Nat) (v0 v1 v2 v3 v4 v5:Value):World:=(((((w.setCell ⟨b,0,none⟩ v0).setCell ⟨b,1,none⟩ v1).setCell ⟨b,2,none⟩ v2).setCell ⟨b,3,none⟩ v3).setCell ⟨b,4,none⟩ v4).setCell ⟨b,5,none⟩ v5
theorem heap_set6 {w:World} {b:Nat} {u0 u1 u2 u3 u4 u5 v0 v1 v2 v3 v4 v5:Value} {t:TypeId} (h:w.heap[b]?=some (.cells #[u0,u1,u2,u3,u4,u5] t (0,0))):(set6 w b v0 v1 v2 v3 v4 v5).heap[b]?=some (.cells #[v0,v1,v2,v3,v4,v5] t (0,0)) :=
 heap_setCell_same _ b 5 _ _ v5 (heap_setCell_same _ b 4 _ _ v4 (heap_setCell_same _ b 3 _ _ v3 (heap_setCell_same _ b 2 _ _ v2 (heap_setCell_same _ b 1 _ _ v1 (heap_setCell_same _ b 0 _ _ v0 h)))))
theorem other_set6 {w:World} {b:Nat} {v0 v1 v2 v3 v4 v5:Value} (k:Nat) (h:k≠b):(set6 w b v0 v1 v2 v3 v4 v5).heap[k]?=w.heap[k]? :=
 (heap_setCell_other _ ⟨b,5,none⟩ k v5 h).trans ((heap_setCell_other _ ⟨b,4,none⟩ k v4 h).trans ((heap_setCell_other _ ⟨b,3,none⟩ k v3 h).trans ((heap_setCell_other _ ⟨b,2,none⟩ k v2 h).trans ((heap_setCell_other _ ⟨b,1,none⟩ k v1 h).trans (heap_setCell_other _ ⟨b,0,none⟩ k v0 h)))))
theorem size_set6 (w:World) (b:Nat) (v0 v1 v2 v3 v4 v5:Value):(set6 w b v0 v1 v2 v3 v4 v5).heap.size=w.heap.size:=by simp [set6,World.setCell]
theorem grown_set1 {w0 w:World} {p:Addr} {row:Option Nat} {v:Value} (h:w0.grownBy w row) (hb:w0.heap.size<=p.block):w0.grownBy (w.setCell p v) row :=
 ⟨h.os,h.tape,h.output,by simp [World.setCell];exact h.size,fun k hk hn=>(heap_setCell_other w p k v (by omega)).trans (h.block k hk hn)⟩
theorem grown_set6 {w0 w:World} {b:Nat} {row:Option Nat} {v0 v1 v2 v3 v4 v5:Value} (h:w0.grownBy w row) (hb:w0.heap.size<=b):w0.grownBy (set6 w b v0 v1 v2 v3 v4 v5) row :=
 grown_set1 (p:=⟨b,5,none⟩) (grown_set1 (p:=⟨b,4,none⟩) (grown_set1 (p:=⟨b,3,none⟩) (grown_set1 (p:=⟨b,2,none⟩) (grown_set1 (p:=⟨b,1,none⟩) (grown_set1 (p:=⟨b,0,none⟩) h hb) hb) hb) hb) hb) hb
theorem cell_set6 {w:World} {b b' o':Nat} {v0 v1 v2 v3 v4 v5 u:Value} (hne:b≠b') (h:w.cell? ⟨b',o',none⟩=some u):(set6 w b v0 v1 v2 v3 v4 v5).cell? ⟨b',o',none⟩=some u :=
 (World.cell?_of_block (a:=⟨b',o',none⟩) (other_set6 b' (fun e=>hne e.symm))).trans h
abbrev zex:Obj:=.cells #[.int .i64 0,.int .i64 0,.int .i64 0,.int .i64 0,.string { data := #[] },.slice none 0 0] 40 (0,0)
theorem cells4 {w:World} {g:Nat} {v0 v1 v2 v3:Value} {t:TypeId} {fr:Nat×Nat} (h:w.heap[g]?=some (.cells #[v0,v1,v2,v3] t fr)) :
  w.cell? ⟨g,0,none⟩=some v0/\w.cell? ⟨g,1,none⟩=some v1/\w.cell? ⟨g,2,none⟩=some v2/\w.cell? ⟨g,3,none⟩=some v3 :=
 ⟨cell_of_row w g 0 _ _ _ h,cell_of_row w g 1 _ _ _ h,cell_of_row w g 2 _ _ _ h,cell_of_row w g 3 _ _ _ h⟩
theorem froz4 {w:World} {g:Nat} {v0 v1 v2 v3:Value} {t:TypeId} (h:w.heap[g]?=some (.cells #[v0,v1,v2,v3] t (0,0))) :
  g<w.heap.size/\w.frozen? ⟨g,0,none⟩=false/\w.frozen? ⟨g,1,none⟩=false/\w.frozen? ⟨g,2,none⟩=false/\w.frozen? ⟨g,3,none⟩=false :=
 ⟨heap_lt h,frozen_of_row _ g 0 _ _ h,frozen_of_row _ g 1 _ _ h,frozen_of_row _ g 2 _ _ h,frozen_of_row _ g 3 _ _ h⟩
theorem other_set4 {w:World} {b:Nat} {v0 v1 v2 v3:Value} (k:Nat) (h:k≠b):(set4 w b v0 v1 v2 v3).heap[k]?=w.heap[k]? :=
 (heap_setCell_other _ ⟨b,3,none⟩ k v3 h).trans ((heap_setCell_other _ ⟨b,2,none⟩ k v2 h).trans ((heap_setCell_other _ ⟨b,1,none⟩ k v1 h).trans (heap_setCell_other _ ⟨b,0,none⟩ k v0 h)))
theorem grownBy_set6 (w:World) (g:Nat) (v0 v1 v2 v3 v4 v5:Value):w.grownBy (set6 w g v0 v1 v2 v3 v4 v5) (some g) :=
 grownBy_trans (grownBy_trans (grownBy_trans (grownBy_trans (grownBy_trans (grownBy_set w g 0 v0) (grownBy_set _ g 1 v1)) (grownBy_set _ g 2 v2)) (grownBy_set _ g 3 v3)) (grownBy_set _ g 4 v4)) (grownBy_set _ g 5 v5)
theorem own_one (w:World) (cs:Array Value) (base e:Nat) (hs:cs.size=6) (hb:base<=w.heap.size):(w.alloc (.cells cs e)).ownsRow base e 6 (.slice (some ⟨w.heap.size,0,none⟩) 1 1) 1 cs.toList :=
 ⟨by simpa using hs,.inr ⟨w.heap.size,1,cs,rfl,hb,heap_alloc_new w _,Nat.le_refl _,by simp [maxLen],by omega,List.take_of_length_le (by simp;omega)⟩⟩
theorem fo_push {wr w2 w9:World} {gc B g9 n:Nat} {e:TypeId} {v sl:Value} {F ar:Fo} {h:Hd} {xs:List Value} {ob:Obj} (hF:FoAt wr (fun b=>B<b/\some b≠v.ownBlock) F xs) (hown:wr.ownsRow (B+1) e 6 v n xs)
  (hg:wr.grownBy w2 (some gc)) (hgc:gc<=B) (hB:B<wr.heap.size) (ha:ArgsAt w2 (fun b=>wr.heap.size<=b) ar sl) (hg9:(w2.alloc ob).grownBy w9 v.ownBlock) (h9:v.ownBlock=some g9\/g9=(w2.alloc ob).heap.size) :
  FoAt w9 (fun b=>B<b/\some b≠some g9) (F.app (one1 h ar)) (xs++hdc h sl):=by
 have hs:=hg.size
 have hsA:(w2.alloc ob).heap.size=w2.heap.size+1:=by simp
 have hs9:=hg9.size
 refine FoAt.app (hF.keep (fun b hb hlt=>⟨?_,hb.1,?_⟩) (by omega)) (ArgsAt.one (ha.keep (fun b hb hlt=>⟨?_,by omega,?_⟩) (by omega)))
 ·rw [hg9.block b (by omega) hb.2,Below.heap_alloc w2 ob b (by omega),hg.block b hlt (by simp;omega)]
 ·rcases h9 with h9 | h9
  ·rw [<- h9];exact hb.2
  ·simp;omega
 ·rw [hg9.block b (by omega) (fun e=>by have:=(hown.lt b e.symm).2;omega),Below.heap_alloc w2 ob b (by omega)]
 ·rcases h9 with h9 | h9
  ·have:=(hown.lt g9 h9).2;simp;omega
  ·simp;omega
theorem args_made {w:World} {P Q:Nat->Prop} {F:Fo} {xs:List Value} (hF:FoAt w P F xs) (hl:F.len<=maxLen) (hPQ : ∀ b,P b->b<w.heap.size->Q b) (hQ:Q w.heap.size):ArgsAt (w.alloc (.cells xs.toArray 40)) Q F (.slice (some ⟨w.heap.size,0,none⟩) F.len F.len) :=
 ⟨some ⟨w.heap.size,0,none⟩,F.len,xs,rfl,Nat.le_refl _,hl,(fun e=>nomatch e),fun _=>⟨w.heap.size,0,rfl,hQ,by simp,fun j u hj=>by
  rw [Nat.zero_add,cell_of_row _ w.heap.size j _ _ _ (heap_alloc_new w _)]
  simpa using hj⟩,hF.keep (fun b hb hlt=>⟨Below.heap_alloc w _ b hlt,hPQ b hb hlt⟩) (by simp)⟩
theorem set6_alloc {w:World} {g:Nat} (o:Obj) {v0 v1 v2 v3 v4 v5:Value} (h:g<w.heap.size):set6 (w.alloc o) g v0 v1 v2 v3 v4 v5=(set6 w g v0 v1 v2 v3 v4 v5).alloc o:=by
 unfold set6
 rw [World.setCell_alloc_past _ g 0 _ h,World.setCell_alloc_past _ g 1 _ (by simpa [World.setCell] using h),World.setCell_alloc_past _ g 2 _ (by simpa [World.setCell] using h),World.setCell_alloc_past _ g 3 _ (by simpa [World.setCell] using h),World.setCell_alloc_past _ g 4 _ (by simpa [World.setCell] using h),World.setCell_alloc_past _ g 5 _ (by simpa [World.setCell] using h)]
end Go.Proofs.YtpcdinelpfbpfaaDoor
