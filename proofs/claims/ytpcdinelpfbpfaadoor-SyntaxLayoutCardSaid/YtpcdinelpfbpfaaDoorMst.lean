/-
  WORDS: statements in memory. (Filled in from a template of this repo.)
-/
import Derived.Test.YtpcdinelpfbpfaaDoorMdp
namespace Go.Proofs.YtpcdinelpfbpfaaDoor
open Go.ChangeShapes Go.WideShapes Go.ChangeAt Go.RowKit
set_option linter.unusedVariables false
set_option linter.unusedSimpArgs false

def okS (k:Int) (nm:Bt) (xs:Fo) (th el:Sf):Prop :=
 ((k=1\/k=2)/\okN nm/\xs.len=1/\th=.nil/\el=.nil)\/(k=3/\okN nm/\xs.len=2/\th=.nil/\el=.nil)\/(k=4/\nm=[]/\xs.len=1)\/(k=5/\nm=[]/\xs.len=1/\el=.nil) \/
 ((k=6\/k=7)/\nm=[]/\xs.len=1/\th=.nil/\el=.nil)\/(k=8/\nm=[]/\th=.nil/\el=.nil /\ ∃ h ar,xs=one1 h ar/\(h.k=9\/h.k=10))
def Sf.wf:Sf->Prop
 | .nil=>True
 | .cons k ln nm xs th el r=>okS k nm xs th el/\ln=0/\xs.wf/\th.wf/\el.wf/\r.wf
def Sf.cst:Sf->Nat
 | .nil=>0
 | .cons _ _ _ xs th el r=>150+xs.cst+th.cst+el.cst+r.cst
def Sf.nst:Sf->Nat
 | .nil=>0
 | .cons _ _ _ _ th el r=>max (max th.nst el.nst+1) r.nst
def Sf.hgt:Sf->Nat
 | .nil=>0
 | .cons _ _ _ xs th el r=>max (max xs.dep (max th.hgt el.hgt)) r.hgt
theorem Sf.wf_app {F G:Sf} (h:F.wf) (k:G.wf):(F.app G).wf:=by
 induction F with
 | nil=>exact k
 | cons k ln nm xs th el r _ _ ih=>exact⟨h.1,h.2.1,h.2.2.1,h.2.2.2.1,h.2.2.2.2.1,ih h.2.2.2.2.2⟩
theorem Sf.cst_app (F G:Sf):(F.app G).cst=F.cst+G.cst:=by
 induction F with
 | nil=>simp [app,cst]
 | cons k ln nm xs th el r _ _ ih=>simp only [app,cst];omega
theorem Sf.nst_app (F G:Sf):(F.app G).nst=max F.nst G.nst:=by
 induction F with
 | nil=>simp [app,nst]
 | cons k ln nm xs th el r _ _ ih=>simp only [app,nst,ih];omega
theorem Sf.hgt_app (F G:Sf):(F.app G).hgt=max F.hgt G.hgt:=by
 induction F with
 | nil=>simp [app,hgt]
 | cons k ln nm xs th el r _ _ ih=>simp only [app,hgt,ih];omega
abbrev oneS (k ln:Int) (nm:Bt) (xs:Fo) (th el:Sf):Sf:=.cons k ln nm xs th el .nil
abbrev stc (k ln:Int) (nm:Bt) (slx slt sle:Value):List Value:=[.int .i64 k,.int .i64 ln,.string (st nm),slx,slt,sle]
def SfAt (w:World) (P:Nat->Prop):Sf->List Value->Prop
 | .nil,cs=>cs=[]
 | .cons k ln nm xs th el r,cs => ∃ slx at_ ct rt ae ce re cs',cs=stc k ln nm slx (.slice at_ th.len ct) (.slice ae el.len ce)++cs'/\ArgsAt w P xs slx /\
   th.len<=ct/\ct<=maxLen/\(at_=none->ct=0)/\SlAt w P at_ rt/\SfAt w P th rt /\
   el.len<=ce/\ce<=maxLen/\(ae=none->ce=0)/\SlAt w P ae re/\SfAt w P el re/\SfAt w P r cs'
theorem SfAt.keep {w w':World} {P Q:Nat->Prop} {F:Sf} {cs:List Value} (h:SfAt w P F cs) (hk : ∀ b,P b->b<w.heap.size->w'.heap[b]?=w.heap[b]?/\Q b) (hs:w.heap.size<=w'.heap.size):SfAt w' Q F cs:=by
 induction F generalizing cs with
 | nil=>exact h
 | cons k ln nm xs th el r ih1 ih2 ih3 =>
  obtain⟨slx,at_,ct,rt,ae,ce,re,cs',rfl,h1,h2,h3,h4,h5,h6,h7,h8,h9,h10,h11,h12⟩:=h
  exact⟨slx,at_,ct,rt,ae,ce,re,cs',rfl,h1.keep hk hs,h2,h3,h4,h5.keep hk hs,ih1 h6,h7,h8,h9,h10.keep hk hs,ih2 h11,ih3 h12⟩
theorem SfAt.app {w:World} {P:Nat->Prop} {F G:Sf} {cs ds:List Value} (h:SfAt w P F cs) (k:SfAt w P G ds):SfAt w P (F.app G) (cs++ds):=by
 induction F generalizing cs with
 | nil=>rw [show cs=[] from h];exact k
 | cons k ln nm xs th el r _ _ ih =>
  obtain⟨slx,at_,ct,rt,ae,ce,re,cs',rfl,h1,h2,h3,h4,h5,h6,h7,h8,h9,h10,h11,h12⟩:=h
  exact⟨slx,at_,ct,rt,ae,ce,re,cs'++ds,by rw [List.append_assoc],h1,h2,h3,h4,h5,h6,h7,h8,h9,h10,h11,ih h12⟩
theorem SfAt.len {w:World} {P:Nat->Prop} {F:Sf} {cs:List Value} (h:SfAt w P F cs):cs.length=F.len * 6:=by
 induction F generalizing cs with
 | nil=>rw [show cs=[] from h];rfl
 | cons k ln nm xs th el r _ _ ih =>
  obtain⟨slx,at_,ct,rt,ae,ce,re,cs',rfl,h1,h2,h3,h4,h5,h6,h7,h8,h9,h10,h11,h12⟩:=h
  rw [List.length_append,ih h12]
  show 6+_=(_+1) * 6
  omega
def StsAt (w:World) (P:Nat->Prop) (S:Sf) (sl:Value):Prop :=
 ∃ a cap rws,sl=.slice a S.len cap/\S.len<=cap/\cap<=maxLen/\(a=none->cap=0)/\SlAt w P a rws/\SfAt w P S rws
theorem StsAt.nil (w:World) (P:Nat->Prop):StsAt w P .nil (.slice none 0 0):=⟨none,0,[],rfl,Nat.le_refl _,by simp [maxLen],fun _=>rfl,fun h=>absurd rfl h,rfl⟩
theorem StsAt.keep {w w':World} {P Q:Nat->Prop} {S:Sf} {sl:Value} (h:StsAt w P S sl) (hk : ∀ b,P b->b<w.heap.size->w'.heap[b]?=w.heap[b]?/\Q b) (hs:w.heap.size<=w'.heap.size):StsAt w' Q S sl:=by
 obtain⟨a,cap,rws,e,h1,h2,h3,h4,h5⟩:=h
 exact⟨a,cap,rws,e,h1,h2,h3,h4.keep hk hs,h5.keep hk hs⟩
theorem StsAt.of_own {w:World} {base e size:Nat} {P:Nat->Prop} {S:Sf} {v:Value} {xs:List Value} (h:w.ownsRow base e 6 v S.len xs) (hS:SfAt w P S xs) (hP : ∀ b,v.ownBlock=some b->P b):StsAt w P S v:=by
 obtain⟨a,cap,rfl,h1,h2,h3,h4,_⟩:=Cells.of_own h
 refine⟨a,cap,xs,rfl,h2,h3,own_nil h,fun hx=>?_,hS⟩
 obtain⟨b,off,e,hb,hc⟩:=h4 hx
 exact⟨b,off,e,hP b (by rw [e];rfl),hb,hc⟩
theorem SfAt.one {w:World} {P:Nat->Prop} {k ln:Int} {nm:Bt} {xs:Fo} {th el:Sf} {slx slt sle:Value} (hx:ArgsAt w P xs slx) (ht:StsAt w P th slt) (he:StsAt w P el sle):SfAt w P (oneS k ln nm xs th el) (stc k ln nm slx slt sle):=by
 obtain⟨a,ca,ra,rfl,h1,h2,h3,h4,h5⟩:=ht
 obtain⟨b,cb,rb,rfl,k1,k2,k3,k4,k5⟩:=he
 exact⟨slx,a,ca,ra,b,cb,rb,[],by simp,hx,h1,h2,h3,h4,h5,k1,k2,k3,k4,k5,rfl⟩
abbrev stv (k ln:Int) (nm:Bt) (slx slt sle:Value):Value:=.agg #[.int .i64 k,.int .i64 ln,.string (st nm),slx,slt,sle]
theorem Tryd.infoStmt:(Tryd.prog.info? 83).map (fun i=>(i.zero,i.size,i.bytes))=some (some (.agg #[.int .i64 0,.int .i64 0,.string ⟨#[]⟩,.slice none 0 0,.slice none 0 0,.slice none 0 0]),6,104):=by kernel_rfl
end Go.Proofs.YtpcdinelpfbpfaaDoor
