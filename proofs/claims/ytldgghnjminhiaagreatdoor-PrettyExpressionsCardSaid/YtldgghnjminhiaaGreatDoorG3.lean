/-
  WORDS, PLAIN LAWS and WALKS (Mda Mst Mdb Mfs Mdk Mdo Mfm Mlf), pressed. (Filled in from templates of this repo.)
-/
import Derived.Deep.CutBlock
import Derived.Deep.CutRange
import Derived.Test.YtldgghnjminhiaaGreatDoorG2
import Derived.Laws.OwnMore
namespace Go.Proofs.YtldgghnjminhiaaGreatDoor
open Go.ChangeAt Go.ChangeShapes Go.RowKit Go.WideShapes
set_option linter.unusedVariables false
set_option linter.unusedSimpArgs false
set_option maxRecDepth 100000
set_option maxHeartbeats 16000000
def Cj (w:World) (a:Option Addr) (gs:List (Bt×Int)):Prop:=∀ j x,gs[j]?=some x->∃ b off,a=some ⟨b,off,none⟩/\b<w.heap.size /\
 w.cell? ⟨b,off+j*2,none⟩=some (.string (st x.1))/\w.cell? ⟨b,off+j*2+1,none⟩=some (.int .i64 x.2)
theorem Cj.of_own {w:World} {base n:Nat} {e:TypeId} {v:Value} {gs:List (Bt×Int)} (h:w.ownsRow base e 2 v n (glc gs)) :
  ∃ a cap,v=.slice a n cap/\gs.length=n/\n<=cap/\cap<=maxLen/\Cj w a gs:=by
 obtain⟨a,cap,rfl,h1,h2,h3,h4,h5⟩:=Yh.of_own h
 rw[Am] at h1
 refine⟨a,cap,rfl,by omega,h2,h3,λ j s hj=>?_⟩
 obtain⟨g1,g2⟩:=Ac gs j s hj
 obtain⟨b,off,e1,hb,hc⟩:=h4 (λ e=>by rw[e] at g1;simp at g1)
 exact⟨b,off,e1,hb,hc _ _ g1,by rw[Nat.add_assoc];exact hc _ _ g2⟩
def Sn (M:Mk) (arr:Bool) (nm:Bt):Prop:=∃ g∈M.gs,g.1=nm/\decide (0<g.2)=arr
theorem Sy {w:World} {gc b:Nat} {v0 v1 v2 v3 v4 v5:Value} (h:Cod w gc) (hb:gc<b):Cod (set6 w b v0 v1 v2 v3 v4 v5) gc:=h.keep λ k hk=>Zj k (by omega)
theorem Mj {w:World} {b lo:Nat} {v0 v1 v2 v3 v4 v5:Value} {ar:Fo} {sl:Value} (h:Xv w (λ k=>b<k) ar sl) (hlo:lo<=b):Xv (set6 w b v0 v1 v2 v3 v4 v5) (λ k=>lo<=k) ar sl :=
 h.keep (λ k hk _=>⟨Zj k (by omega),by omega⟩) (by rw[Qz];exact Nat.le_refl _)
structure ExW (w:World) (gc gm:Nat) (M:Mk) (g:Nat) (wx:World):Prop where
 eg:g=w.heap.size
 row:wx.heap[g]?=some zex
 mkr:Zm wx gc gm M
 gr:w.grownBy wx (some gc)
theorem ExW.lts {w:World} {gc gm:Nat} {M:Mk} {g:Nat} {wx:World} (h:ExW w gc gm M g wx):g<wx.heap.size:=Xp h.row
theorem ExW.grown {w:World} {gc gm:Nat} {M:Mk} {g:Nat} {wx wy:World} (h:ExW w gc gm M g wx) (hl:gc<g) (hg:wx.grownBy wy (some gc)) (hc:Cod wy gc):ExW w gc gm M g wy :=
 ⟨h.eg,(hg.block g h.lts (λ e=>by injection e with e;omega)).trans h.row,h.mkr.grown hg hc,Xg h.gr hg⟩
theorem ExW.below {w:World} {gc gm:Nat} {M:Mk} {g:Nat} {wx wy:World} (h:ExW w gc gm M g wx) (hb:Below wx.heap.size wx wy):ExW w gc gm M g wy :=
 ⟨h.eg,(hb.block g h.lts).trans h.row,h.mkr.below hb,Xg h.gr (Xm hb _)⟩
theorem ExW.fin {w:World} {gc gm:Nat} {M:Mk} {g:Nat} {wx:World} {d:Nat} (h:ExW w gc gm M g wx) (hl:gc<g) {hd:Hd} {ar:Fo} {sl:Value} (ha:Xv wx (λ k=>g<k) ar sl) (hE:Un d hd ar) :
  ∀ W,W=set6 wx g (.int .i64 hd.k) (.int .i64 hd.op) (.int .i64 hd.v) (.int .i64 hd.ln) (.string (st hd.nm)) sl ->
   W.cell? ⟨g,0,none⟩=some (.int .i64 hd.k)/\W.cell? ⟨g,1,none⟩=some (.int .i64 hd.op)/\W.cell? ⟨g,2,none⟩=some (.int .i64 hd.v)/\W.cell? ⟨g,3,none⟩=some (.int .i64 hd.ln)/\W.cell? ⟨g,4,none⟩=some (.string (st hd.nm))/\W.cell? ⟨g,5,none⟩=some sl/\Xq (Dv gc gm d w (.returned (exv hd sl)) W):=λ W hW=>by
 subst hW
 obtain⟨q0,q1,q2,q3,q4,q5⟩:=Yq (Vk (v0:=.int .i64 hd.k) (v1:=.int .i64 hd.op) (v2:=.int .i64 hd.v) (v3:=.int .i64 hd.ln) (v4:=.string (st hd.nm)) (v5:=sl) h.row)
 exact⟨q0,q1,q2,q3,q4,q5,Xj ⟨hd,ar,sl,rfl,Mj ha (Nat.le_of_eq h.eg.symm),hE,Sy h.mkr.cod hl,Kg h.gr (Nat.le_of_eq h.eg.symm)⟩⟩
theorem ExW.cells {w:World} {gc gm:Nat} {M:Mk} {g:Nat} {wx:World} (h:ExW w gc gm M g wx) :
  g<wx.heap.size/\wx.frozen? ⟨g,0,none⟩=false/\wx.frozen? ⟨g,1,none⟩=false/\wx.frozen? ⟨g,2,none⟩=false/\wx.frozen? ⟨g,3,none⟩=false/\wx.frozen? ⟨g,4,none⟩=false/\wx.frozen? ⟨g,5,none⟩=false /\
  wx.cell? ⟨g,0,none⟩=some (.int .i64 0)/\wx.cell? ⟨g,1,none⟩=some (.int .i64 0)/\wx.cell? ⟨g,2,none⟩=some (.int .i64 0)/\wx.cell? ⟨g,3,none⟩=some (.int .i64 0)/\wx.cell? ⟨g,4,none⟩=some (.string { data := #[] })/\wx.cell? ⟨g,5,none⟩=some (.slice none 0 0) :=
 ⟨h.lts,frozen_of_row _ g 0 _ _ h.row,frozen_of_row _ g 1 _ _ h.row,frozen_of_row _ g 2 _ _ h.row,frozen_of_row _ g 3 _ _ h.row,frozen_of_row _ g 4 _ _ h.row,frozen_of_row _ g 5 _ _ h.row,Yq h.row⟩
theorem Zm.set {w wx:World} {gc gm:Nat} {M:Mk} {p:Addr} {v:Value} (h:Zm wx gc gm M) (hM:Zm w gc gm M) (hp:w.heap.size<=p.block):Zm (wx.setCell p v) gc gm M :=
 have kp:∀ b,b≠p.block->(wx.setCell p v).heap[b]?=wx.heap[b]?:=λ b hb=>heap_setCell_other wx p b v hb
 have key:∀ {e k n:Nat} {u:Value} {l:List Value},wx.ownsRow (gm+1) e k u n l->w.ownsRow (gm+1) e k u n l->(wx.setCell p v).ownsRow (gm+1) e k u n l:=λ {e k n u l} h1 h2=>by
  have hg:wx.grownBy (wx.setCell p v) (some p.block):=⟨rfl,rfl,rfl,by simp[World.setCell],λ k hk hn=>kp k (λ e=>hn (by rw[e]))⟩
  refine h1.kept hg ?_
  cases hq:u.ownBlock with
  | none=>exact .inl rfl
  | some q=>exact .inr (λ e=>by injection e with e;have:=(h2.lt q hq).2;omega)
 {h with
  cod:=h.cod.keep λ k hk=>kp k (by have:=hM.cod.lt;omega)
  row:=(kp gm (by have:=Xp hM.row;omega)).trans h.row
  gl:=key h.gl hM.gl
  fn:=key h.fn hM.fn
  lo:=key h.lo hM.lo }
theorem ExW.set {w:World} {gc gm:Nat} {M:Mk} {g:Nat} {wx:World} {p:Addr} {v:Value} (h:ExW w gc gm M g wx) (hp:g<p.block) (hM:Zm w gc gm M):ExW w gc gm M g (wx.setCell p v) :=
 ⟨h.eg,(heap_setCell_other wx p g v (by omega)).trans h.row,h.mkr.set hM (by have:=h.eg;omega),Yv h.gr (by have:=h.eg;omega)⟩
theorem ExW.set4 {w:World} {gc gm:Nat} {M:Mk} {g b:Nat} {wx:World} {v0 v1 v2 v3:Value} (h:ExW w gc gm M g wx) (hl:gc<g) (hgm:gm<g) (hp:g<b) (hM:Zm w gc gm M):ExW w gc gm M g (set4 wx b v0 v1 v2 v3) :=
 (((h.set (p:=⟨b,0,none⟩) hp hM).set (p:=⟨b,1,none⟩) hp hM).set (p:=⟨b,2,none⟩) hp hM).set (p:=⟨b,3,none⟩) hp hM
theorem ExW.set6 {w:World} {gc gm:Nat} {M:Mk} {g b:Nat} {wx:World} {v0 v1 v2 v3 v4 v5:Value} (h:ExW w gc gm M g wx) (hp:g<b) (hM:Zm w gc gm M):ExW w gc gm M g (set6 wx b v0 v1 v2 v3 v4 v5) :=
 (((((h.set (p:=⟨b,0,none⟩) hp hM).set (p:=⟨b,1,none⟩) hp hM).set (p:=⟨b,2,none⟩) hp hM).set (p:=⟨b,3,none⟩) hp hM).set (p:=⟨b,4,none⟩) hp hM).set (p:=⟨b,5,none⟩) hp hM
theorem Zm.own {w wx wy:World} {gc gm:Nat} {M:Mk} {r:Option Nat} (h:Zm wx gc gm M) (hM:Zm w gc gm M) (hg:wx.grownBy wy r) (hr:∀ k,r=some k->w.heap.size<=k):Zm wy gc gm M :=
 have hs:=hg.size
 have kp:∀ b,b<w.heap.size->b<wx.heap.size->wy.heap[b]?=wx.heap[b]?:=λ b hb hbx=>hg.block b hbx (λ e=>by have:=hr b e.symm;omega)
 have key:∀ {e k n:Nat} {u:Value} {l:List Value},wx.ownsRow (gm+1) e k u n l->w.ownsRow (gm+1) e k u n l->wy.ownsRow (gm+1) e k u n l:=λ {e k n u l} h1 h2=>by
  refine h1.kept hg ?_
  cases hq:u.ownBlock with
  | none=>exact .inl rfl
  | some q=>exact .inr (λ e=>by have:=hr q e.symm;have:=(h2.lt q hq).2;omega)
 {h with
  cod:=h.cod.keep λ k hk=>kp k (by have:=hM.cod.lt;omega) (by have:=h.cod.lt;omega)
  row:=(kp gm (Xp hM.row) (Xp h.row)).trans h.row
  gl:=key h.gl hM.gl
  fn:=key h.fn hM.fn
  lo:=key h.lo hM.lo }
theorem ExW.own {w:World} {gc gm:Nat} {M:Mk} {g:Nat} {wx wy:World} {r:Option Nat} (h:ExW w gc gm M g wx) (hg:wx.grownBy wy r) (hr:∀ k,r=some k->g<k) (hM:Zm w gc gm M) (hl:gc<g):ExW w gc gm M g wy :=
 ⟨h.eg,(hg.block g h.lts (λ e=>by have:=hr g e.symm;omega)).trans h.row,h.mkr.own hM hg (λ k hk=>by have:=hr k hk;have:=h.eg;omega),
  ⟨hg.os.trans h.gr.os,hg.tape.trans h.gr.tape,hg.output.trans h.gr.output,Nat.le_trans h.gr.size hg.size,λ k hk hn=>(hg.block k (Nat.lt_of_lt_of_le hk h.gr.size) (λ e=>by have:=hr k e.symm;have:=h.eg;omega)).trans (h.gr.block k hk hn)⟩⟩
def Bc (w:World) (a:Option Addr) (ls:List Bt):Prop:=∀ j x,ls[j]?=some x->∃ b off,a=some ⟨b,off,none⟩/\b<w.heap.size/\w.cell? ⟨b,off+j,none⟩=some (.string (st x))
theorem Bc.of_own {w:World} {base n:Nat} {e:TypeId} {v:Value} {ls:List Bt} (h:w.ownsRow base e 1 v n (Uu ls)) :
  ∃ a cap,v=.slice a n cap/\ls.length=n/\n<=cap/\cap<=maxLen/\Bc w a ls:=by
 obtain⟨a,cap,rfl,h1,h2,h3,h4,h5⟩:=Yh.of_own h
 refine⟨a,cap,rfl,by simpa using h1,h2,h3,λ j x hj=>?_⟩
 have hs:(Uu ls)[j]?=some (.string (st x)):=by unfold Uu;rw[List.getElem?_map,hj];rfl
 obtain⟨b,off,e1,hb,hc⟩:=h4 (λ e=>by rw[e] at hs;cases hs)
 exact⟨b,off,e1,hb,hc _ _ hs⟩
theorem Bc.get {w:World} {base n cap j:Nat} {e:TypeId} {v:Value} {a:Option Addr} {ls:List Bt} (h:w.ownsRow base e 1 v ls.length (Uu ls)) (hv:v=.slice a n cap) (hj:j<ls.length) :
  ∃ nm b off,a=some ⟨b,off,none⟩/\b<w.heap.size/\nm∈ls/\w.cell? ⟨b,off+j,none⟩=some (.string (st nm)):=by
 obtain⟨a',cap',e1,_,_,_,hls⟩:=Bc.of_own h
 rw[hv] at e1
 injection e1 with e1 e2 e3
 subst e1
 have hx:ls[j]?=some ls[j]:=List.getElem?_eq_getElem hj
 obtain⟨b,off,e,hb,hc⟩:=hls j _ hx
 exact⟨_,b,off,e,hb,List.mem_of_getElem? hx,hc⟩
theorem Sn.nm {w:World} {gc gm:Nat} {M:Mk} {arr:Bool} {nm:Bt} (h:Sn M arr nm) (hM:Zm w gc gm M):okN nm:=by
 obtain⟨g,hg,rfl,_⟩:=h
 exact(hM.gok g hg).1
def Gs (w:World) (b:Nat) (fs:List Fr):Prop:=∀ j f,fs[j]?=some f->w.cell? ⟨b,j*4,none⟩=some (.string (st f.nm))/\w.cell? ⟨b,j*4+1,none⟩=some (.int .i64 0)/\w.cell? ⟨b,j*4+2,none⟩=some (.slice f.pa f.pn f.pc)/\w.cell? ⟨b,j*4+3,none⟩=some (.slice f.ba f.bn f.bc)
theorem Gs.of_own {w:World} {base:Nat} {e:TypeId} {v:Value} {fs:List Fr} (h:w.ownsRow base e 4 v fs.length (frc fs)) (hn:0<fs.length) :
  ∃ b cap,v=.slice (some ⟨b,0,none⟩) fs.length cap/\fs.length<=cap/\cap<=maxLen/\base<=b/\b<w.heap.size/\Gs w b fs:=by
 have hne:frc fs≠[]:=λ e=>by have:=Af fs;rw[e] at this;simp at this;omega
 obtain⟨g,cap,rfl,hb,hl,h1,h2,_,hc⟩:=Vw h hne
 refine⟨g,cap,rfl,h1,h2,hb,hl,λ j f hj=>?_⟩
 obtain⟨g1,g2,g3,g4⟩:=Ad fs j f hj
 exact⟨hc _ _ g1,hc _ _ g2,hc _ _ g3,hc _ _ g4⟩
theorem Gs.kept {w w':World} {b:Nat} {fs:List Fr} (h:Gs w b fs) (hb:w'.heap[b]?=w.heap[b]?):Gs w' b fs:=λ j f hj=>by
 obtain⟨h1,h2,h3,h4⟩:=h j f hj
 exact⟨(World.cell?_of_block (a:=⟨b,j*4,none⟩) hb).trans h1,(World.cell?_of_block (a:=⟨b,j*4+1,none⟩) hb).trans h2,(World.cell?_of_block (a:=⟨b,j*4+2,none⟩) hb).trans h3,(World.cell?_of_block (a:=⟨b,j*4+3,none⟩) hb).trans h4⟩
def okS (k:Int) (nm:Bt) (xs:Fo) (th el:Sf):Prop :=
 ((k=1\/k=2)/\okN nm/\xs.len=1/\th=.nil/\el=.nil)\/(k=3/\okN nm/\xs.len=2/\th=.nil/\el=.nil)\/(k=4/\nm=[]/\xs.len=1)\/(k=5/\nm=[]/\xs.len=1/\el=.nil) \/
 ((k=6\/k=7)/\nm=[]/\xs.len=1/\th=.nil/\el=.nil)\/(k=8/\nm=[]/\th=.nil/\el=.nil/\∃ h ar,xs=Xb h ar/\(h.k=9\/h.k=10))
def Sf.wf:Sf->Prop
 | .nil=>True
 | .cons k ln nm xs th el r=>okS k nm xs th el/\ln=0/\xs.wf/\th.wf/\el.wf/\r.wf
def Sf.cst:Sf->Nat
 | .nil=>0
 | .cons _ _ _ xs th el r=>150+xs.cst+th.cst+el.cst+r.cst
def Sf.nst:Sf->Nat
 | .nil=>0
 | .cons _ _ _ _ th el r=>max (max th.nst el.nst+1) r.nst
def Sf.hgt:Sf->Nat
 | .nil=>0
 | .cons _ _ _ xs th el r=>max (max xs.dep (max th.hgt el.hgt)) r.hgt
abbrev Vh (k ln:Int) (nm:Bt) (xs:Fo) (th el:Sf):Sf:=.cons k ln nm xs th el .nil
abbrev stc (k ln:Int) (nm:Bt) (slx slt sle:Value):List Value:=[.int .i64 k,.int .i64 ln,.string (st nm),slx,slt,sle]
def Jz (w:World) (P:Nat->Prop):Sf->List Value->Prop
 | .nil,cs=>cs=[]
 | .cons k ln nm xs th el r,cs=>∃ slx at_ ct rt ae ce re cs',cs=stc k ln nm slx (.slice at_ th.len ct) (.slice ae el.len ce)++cs'/\Xv w P xs slx /\
   th.len<=ct/\ct<=maxLen/\(at_=none->ct=0)/\Vu w P at_ rt/\Jz w P th rt /\
   el.len<=ce/\ce<=maxLen/\(ae=none->ce=0)/\Vu w P ae re/\Jz w P el re/\Jz w P r cs'
theorem Jz.keep {w w':World} {P Q:Nat->Prop} {F:Sf} {cs:List Value} (h:Jz w P F cs) (hk:∀ b,P b->b<w.heap.size->w'.heap[b]?=w.heap[b]?/\Q b) (hs:w.heap.size<=w'.heap.size):Jz w' Q F cs:=by
 induction F generalizing cs with
 | nil=>exact h
 | cons k ln nm xs th el r ih1 ih2 ih3 =>
  obtain⟨slx,at_,ct,rt,ae,ce,re,cs',rfl,h1,h2,h3,h4,h5,h6,h7,h8,h9,h10,h11,h12⟩:=h
  exact⟨slx,at_,ct,rt,ae,ce,re,cs',rfl,h1.keep hk hs,h2,h3,h4,h5.keep hk hs,ih1 h6,h7,h8,h9,h10.keep hk hs,ih2 h11,ih3 h12⟩
theorem Jz.app {w:World} {P:Nat->Prop} {F G:Sf} {cs ds:List Value} (h:Jz w P F cs) (k:Jz w P G ds):Jz w P (F.app G) (cs++ds):=by
 induction F generalizing cs with
 | nil=>rw[show cs=[] from h];exact k
 | cons k ln nm xs th el r _ _ ih =>
  obtain⟨slx,at_,ct,rt,ae,ce,re,cs',rfl,h1,h2,h3,h4,h5,h6,h7,h8,h9,h10,h11,h12⟩:=h
  exact⟨slx,at_,ct,rt,ae,ce,re,cs'++ds,by rw[List.append_assoc],h1,h2,h3,h4,h5,h6,h7,h8,h9,h10,h11,ih h12⟩
theorem Jz.len {w:World} {P:Nat->Prop} {F:Sf} {cs:List Value} (h:Jz w P F cs):cs.length=F.len*6:=by
 induction F generalizing cs with
 | nil=>rw[show cs=[] from h];rfl
 | cons k ln nm xs th el r _ _ ih =>
  obtain⟨slx,at_,ct,rt,ae,ce,re,cs',rfl,h1,h2,h3,h4,h5,h6,h7,h8,h9,h10,h11,h12⟩:=h
  rw[List.length_append,ih h12]
  show 6+_=(_+1)*6
  omega
def Yt (w:World) (P:Nat->Prop) (S:Sf) (sl:Value):Prop :=
 ∃ a cap rws,sl=.slice a S.len cap/\S.len<=cap/\cap<=maxLen/\(a=none->cap=0)/\Vu w P a rws/\Jz w P S rws
theorem Yt.nil (w:World) (P:Nat->Prop):Yt w P .nil (.slice none 0 0):=⟨none,0,[],rfl,Nat.le_refl _,by simp[maxLen],λ _=>rfl,λ h=>absurd rfl h,rfl⟩
theorem Yt.keep {w w':World} {P Q:Nat->Prop} {S:Sf} {sl:Value} (h:Yt w P S sl) (hk:∀ b,P b->b<w.heap.size->w'.heap[b]?=w.heap[b]?/\Q b) (hs:w.heap.size<=w'.heap.size):Yt w' Q S sl:=by
 obtain⟨a,cap,rws,e,h1,h2,h3,h4,h5⟩:=h
 exact⟨a,cap,rws,e,h1,h2,h3,h4.keep hk hs,h5.keep hk hs⟩
theorem Yt.of_own {w:World} {base e size:Nat} {P:Nat->Prop} {S:Sf} {v:Value} {xs:List Value} (h:w.ownsRow base e 6 v S.len xs) (hS:Jz w P S xs) (hP:∀ b,v.ownBlock=some b->P b):Yt w P S v:=by
 obtain⟨a,cap,rfl,h1,h2,h3,h4,_⟩:=Yh.of_own h
 refine⟨a,cap,xs,rfl,h2,h3,Vs h,λ hx=>?_,hS⟩
 obtain⟨b,off,e,hb,hc⟩:=h4 hx
 exact⟨b,off,e,hP b (by rw[e];rfl),hb,hc⟩
theorem Jz.one {w:World} {P:Nat->Prop} {k ln:Int} {nm:Bt} {xs:Fo} {th el:Sf} {slx slt sle:Value} (hx:Xv w P xs slx) (ht:Yt w P th slt) (he:Yt w P el sle):Jz w P (Vh k ln nm xs th el) (stc k ln nm slx slt sle):=by
 obtain⟨a,ca,ra,rfl,h1,h2,h3,h4,h5⟩:=ht
 obtain⟨b,cb,rb,rfl,k1,k2,k3,k4,k5⟩:=he
 exact⟨slx,a,ca,ra,b,cb,rb,[],by simp,hx,h1,h2,h3,h4,h5,k1,k2,k3,k4,k5,rfl⟩
abbrev stv (k ln:Int) (nm:Bt) (slx slt sle:Value):Value:=.agg #[.int .i64 k,.int .i64 ln,.string (st nm),slx,slt,sle]
theorem Dv.open {gc gm d:Nat} {w w':World} {e:Ending} (h:Dv gc gm d w e w'):∃ hd ar a c,e=.returned (exv hd (.slice a ar.len c))/\Xq (Xv w' (λ b=>w.heap.size<=b) ar (.slice a ar.len c)/\Un d hd ar/\Cod w' gc/\w.grownBy w' (some gc)):=by
 obtain⟨hd,ar,sl,rfl,ha,hE,hc,hg⟩:=h
 have ha2:=ha
 obtain⟨a,c,rws,rfl,_⟩:=ha2
 exact⟨hd,ar,a,c,rfl,Xj ⟨ha,hE,hc,hg⟩⟩
structure Chg (w w':World) (gc gm:Nat) (M M':Mk):Prop where
 os:w'.os=w.os
 tape:w'.tape=w.tape
 output:w'.output=w.output
 size:w.heap.size<=w'.heap.size
 block:∀ k,k<w.heap.size->k≠gc->k≠gm->some k≠M.vl.ownBlock->w'.heap[k]?=w.heap[k]?
 vl:∀ k,M'.vl.ownBlock=some k->k<w.heap.size->M.vl.ownBlock=some k
 ga:M'.va=M.va
 gb:M'.vb=M.vb
 gg:M'.gs=M.gs
 gf:M'.fs=M.fs
theorem Chg.trans {w w1 w2:World} {gc gm:Nat} {M M1 M2:Mk} (h:Chg w w1 gc gm M M1) (k:Chg w1 w2 gc gm M1 M2):Chg w w2 gc gm M M2 :=
 ⟨k.os.trans h.os,k.tape.trans h.tape,k.output.trans h.output,Nat.le_trans h.size k.size,
  λ i hi h1 h2 h3=>(k.block i (Nat.lt_of_lt_of_le hi h.size) h1 h2 (λ e=>h3 (h.vl i e.symm hi).symm)).trans (h.block i hi h1 h2 h3),
  λ i hi hlt=>h.vl i (k.vl i hi (Nat.lt_of_lt_of_le hlt h.size)) hlt,k.ga.trans h.ga,k.gb.trans h.gb,k.gg.trans h.gg,k.gf.trans h.gf⟩
theorem Chg.of_grown {w w':World} {gc gm:Nat} {M:Mk} (hg:w.grownBy w' (some gc)):Chg w w' gc gm M M :=
 ⟨hg.os,hg.tape,hg.output,hg.size,λ k hk h1 _ _=>hg.block k hk (λ e=>h1 (by injection e)),λ k hk _=>hk,rfl,rfl,rfl,rfl⟩
def TB (lo:Nat) (M:Mk):Nat->Prop:=λ b=>lo<=b/\some b≠M.vl.ownBlock
theorem Chg.kp {w w':World} {gc gm lo:Nat} {M M':Mk} (h:Chg w w' gc gm M M') (h1:gc<lo) (h2:gm<lo):∀ b,TB lo M b->b<w.heap.size->w'.heap[b]?=w.heap[b]?/\TB lo M' b :=
 λ b hb hlt=>⟨h.block b hlt (by have:=hb.1;omega) (by have:=hb.1;omega) hb.2,hb.1,λ e=>hb.2 (h.vl b e.symm hlt).symm⟩
theorem Yt.chg {w w':World} {gc gm lo:Nat} {M M':Mk} {S:Sf} {sl:Value} (h:Yt w (TB lo M) S sl) (hc:Chg w w' gc gm M M') (h1:gc<lo) (h2:gm<lo):Yt w' (TB lo M') S sl:=h.keep (hc.kp h1 h2) hc.size
theorem Xv.chg {w w':World} {gc gm lo:Nat} {M M':Mk} {F:Fo} {sl:Value} (h:Xv w (TB lo M) F sl) (hc:Chg w w' gc gm M M') (h1:gc<lo) (h2:gm<lo):Xv w' (TB lo M') F sl:=h.keep (hc.kp h1 h2) hc.size
theorem Jz.chg {w w':World} {gc gm lo:Nat} {M M':Mk} {S:Sf} {cs:List Value} (h:Jz w (TB lo M) S cs) (hc:Chg w w' gc gm M M') (h1:gc<lo) (h2:gm<lo):Jz w' (TB lo M') S cs:=h.keep (hc.kp h1 h2) hc.size
theorem TB.of {w:World} {gc gm lo:Nat} {M:Mk} (hM:Zm w gc gm M) (hlo:lo<=w.heap.size):∀ b,w.heap.size<=b->TB lo M b:=λ b hb =>
 ⟨by omega,λ e=>by have:=(hM.lo.lt b e.symm).2;omega⟩
def Cs (gc gm deep:Nat) (M:Mk) (w:World) (e:Ending) (w':World):Prop :=
 ∃ (k:Int) (nm:Bt) (xs:Fo) (th el:Sf) (slx slt sle:Value) (M':Mk),e=.returned (stv k 0 nm slx slt sle) /\
  Xv w' (TB w.heap.size M') xs slx/\Yt w' (TB w.heap.size M') th slt/\Yt w' (TB w.heap.size M') el sle /\
  Chg w w' gc gm M M'/\Zm w' gc gm M'/\0<=M'.bud/\M'.ls.length+M'.bud<=9 /\
  (Vh k 0 nm xs th el).wf/\((Vh k 0 nm xs th el).cst:Int)<=1300+1300*(M.bud-M'.bud)/\(Vh k 0 nm xs th el).nst<=deep+1/\(Vh k 0 nm xs th el).hgt<=3
def Vf (w:World) (k:Nat):Prop:=∃ cs t fr,w.heap[k]?=some (.cells cs t fr)/\(t=37\/t=110)
theorem Vf.ne_own {w:World} {k base e size n:Nat} {v:Value} {xs:List Value} (h:Vf w k) (ho:w.ownsRow base e size v n xs) (he:e≠37/\e≠110):v.ownBlock≠some k:=by
 obtain⟨cs,t,fr,h1,h2⟩:=h
 rcases ho.2 with⟨rfl,_⟩|⟨g,cap,cur,rfl,_,hg,_⟩
 ·intro e;cases e
 intro e1
 have e2:g=k:=by simpa [Value.ownBlock] using e1
 subst e2
 rw[hg] at h1
 injection h1 with h1
 injection h1 with _ h1 _
 subst h1
 rcases h2 with h2|h2
 ·exact he.1 h2
 exact he.2 h2
theorem Zm.tree {w w':World} {gc gm:Nat} {M:Mk} {r:Option Nat} (h:Zm w gc gm M) (hg:w.grownBy w' r) (hr:∀ k,r=some k->gc<k/\Vf w k):Zm w' gc gm M :=
 have hne:∀ k,r=some k->k≠gm:=λ k hk e=>by
  subst e
  obtain⟨_,cs,t,fr,h1,h2⟩:=hr k hk
  rw[h.row] at h1
  injection h1 with h1
  injection h1 with _ h1 _
  subst h1
  rcases h2 with h2|h2<;>exact absurd h2 (by decide)
 have key:∀ {e k n:Nat} {u:Value} {l:List Value},e≠37/\e≠110->w.ownsRow (gm+1) e k u n l->w'.ownsRow (gm+1) e k u n l:=λ {e k n u l} he h1=>by
  refine h1.kept hg ?_
  cases hq:u.ownBlock with
  | none=>exact .inl rfl
  | some q=>exact .inr (λ e1=>(hr q e1.symm).2.ne_own h1 he hq)
 {h with
  cod:=h.cod.keep λ k hk=>hg.block k (by have:=h.cod.lt;omega) (λ e=>by have:=(hr k e.symm).1;omega)
  row:=(hg.block gm (Xp h.row) (λ e=>hne gm e.symm rfl)).trans h.row
  gl:=key ⟨by decide,by decide⟩ h.gl
  fn:=key ⟨by decide,by decide⟩ h.fn
  lo:=key ⟨by decide,by decide⟩ h.lo }
theorem Chg.own {w wx wy:World} {gc gm:Nat} {M M':Mk} {r:Option Nat} (h:Chg w wx gc gm M M') (hg:wx.grownBy wy r) (hr:∀ k,r=some k->w.heap.size<=k):Chg w wy gc gm M M' :=
 ⟨hg.os.trans h.os,hg.tape.trans h.tape,hg.output.trans h.output,Nat.le_trans h.size hg.size,
  λ k hk h1 h2 h3=>(hg.block k (Nat.lt_of_lt_of_le hk h.size) (λ e=>by have:=hr k e.symm;omega)).trans (h.block k hk h1 h2 h3),h.vl,h.ga,h.gb,h.gg,h.gf⟩
abbrev zst:Obj:=.cells #[.int .i64 0,.int .i64 0,.string { data := #[] },.slice none 0 0,.slice none 0 0,.slice none 0 0] 110 (0,0)
structure StW (w:World) (gc gm:Nat) (M M':Mk) (g:Nat) (wx:World):Prop where
 eg:g=w.heap.size
 row:wx.heap[g]?=some zst
 mkr:Zm wx gc gm M'
 chg:Chg w wx gc gm M M'
 lc:gc<g
 lm:gm<g
theorem StW.lts {w:World} {gc gm:Nat} {M M':Mk} {g:Nat} {wx:World} (h:StW w gc gm M M' g wx):g<wx.heap.size:=Xp h.row
theorem StW.tree {w:World} {gc gm:Nat} {M M':Mk} {g:Nat} {wx:World} (h:StW w gc gm M M' g wx):Vf wx g:=⟨_,_,_,h.row,.inr rfl⟩
theorem StW.grown {w:World} {gc gm:Nat} {M M':Mk} {g:Nat} {wx wy:World} (h:StW w gc gm M M' g wx) (hg:wx.grownBy wy (some gc)) (hc:Cod wy gc):StW w gc gm M M' g wy :=
 ⟨h.eg,(hg.block g h.lts (λ e=>by injection e with e;have:=h.lc;omega)).trans h.row,h.mkr.grown hg hc,h.chg.trans (Chg.of_grown hg),h.lc,h.lm⟩
theorem StW.below {w:World} {gc gm:Nat} {M M':Mk} {g:Nat} {wx wy:World} (h:StW w gc gm M M' g wx) (hb:Below wx.heap.size wx wy):StW w gc gm M M' g wy :=
 h.grown (Xm hb _) (h.mkr.cod.below hb h.mkr.cod.lt)
theorem StW.step {w:World} {gc gm:Nat} {M M1 M2:Mk} {g:Nat} {wx wy:World} (h:StW w gc gm M M1 g wx) (hc:Chg wx wy gc gm M1 M2) (hm:Zm wy gc gm M2):StW w gc gm M M2 g wy :=
 ⟨h.eg,(hc.block g h.lts (by have:=h.lc;omega) (by have:=h.lm;omega) (λ e=>(h.tree.ne_own h.mkr.lo ⟨by decide,by decide⟩) e.symm)).trans h.row,hm,h.chg.trans hc,h.lc,h.lm⟩
theorem StW.cells {w:World} {gc gm:Nat} {M M':Mk} {g:Nat} {wx:World} (h:StW w gc gm M M' g wx) :
  g<wx.heap.size/\wx.frozen? ⟨g,0,none⟩=false/\wx.frozen? ⟨g,1,none⟩=false/\wx.frozen? ⟨g,2,none⟩=false/\wx.frozen? ⟨g,3,none⟩=false/\wx.frozen? ⟨g,4,none⟩=false/\wx.frozen? ⟨g,5,none⟩=false /\
  wx.cell? ⟨g,0,none⟩=some (.int .i64 0)/\wx.cell? ⟨g,1,none⟩=some (.int .i64 0)/\wx.cell? ⟨g,2,none⟩=some (.string { data := #[] })/\wx.cell? ⟨g,3,none⟩=some (.slice none 0 0)/\wx.cell? ⟨g,4,none⟩=some (.slice none 0 0)/\wx.cell? ⟨g,5,none⟩=some (.slice none 0 0) :=
 ⟨h.lts,frozen_of_row _ g 0 _ _ h.row,frozen_of_row _ g 1 _ _ h.row,frozen_of_row _ g 2 _ _ h.row,frozen_of_row _ g 3 _ _ h.row,frozen_of_row _ g 4 _ _ h.row,frozen_of_row _ g 5 _ _ h.row,Yq h.row⟩
def Ij (deep:Nat) (M M':Mk) (k:Int) (nm:Bt) (xs:Fo) (th el:Sf):Prop :=
 0<=M'.bud/\M'.ls.length+M'.bud<=9/\(Vh k 0 nm xs th el).wf/\((Vh k 0 nm xs th el).cst:Int)<=1300+1300*(M.bud-M'.bud)/\(Vh k 0 nm xs th el).nst<=deep+1/\(Vh k 0 nm xs th el).hgt<=3
theorem StW.fin {w:World} {gc gm deep:Nat} {M M':Mk} {g:Nat} {wx:World} (h:StW w gc gm M M' g wx) {k:Int} {nm:Bt} {xs:Fo} {th el:Sf} {slx slt sle:Value}
  (hx:Xv wx (TB (g+1) M') xs slx) (ht:Yt wx (TB (g+1) M') th slt) (he:Yt wx (TB (g+1) M') el sle) (hG:Ij deep M M' k nm xs th el) :
  ∀ W,W=set6 wx g (.int .i64 k) (.int .i64 0) (.string (st nm)) slx slt sle ->
   W.cell? ⟨g,0,none⟩=some (.int .i64 k)/\W.cell? ⟨g,1,none⟩=some (.int .i64 0)/\W.cell? ⟨g,2,none⟩=some (.string (st nm))/\W.cell? ⟨g,3,none⟩=some slx/\W.cell? ⟨g,4,none⟩=some slt/\W.cell? ⟨g,5,none⟩=some sle/\Xq (Cs gc gm deep M w (.returned (stv k 0 nm slx slt sle)) W):=λ W hW=>by
 subst hW
 obtain⟨q0,q1,q2,q3,q4,q5⟩:=Yq (Vk (v0:=.int .i64 k) (v1:=.int .i64 0) (v2:=.string (st nm)) (v3:=slx) (v4:=slt) (v5:=sle) h.row)
 have hk:∀ b,TB (g+1) M' b->b<wx.heap.size->(set6 wx g (.int .i64 k) (.int .i64 0) (.string (st nm)) slx slt sle).heap[b]?=wx.heap[b]?/\TB w.heap.size M' b:=λ b hb _ =>
  ⟨Zj b (by have:=hb.1;omega),by have:=hb.1;have:=h.eg;omega,hb.2⟩
 have hs:wx.heap.size<=(set6 wx g (.int .i64 k) (.int .i64 0) (.string (st nm)) slx slt sle).heap.size:=by rw[Qz];exact Nat.le_refl _
 have hg:=Ex wx g (.int .i64 k) (.int .i64 0) (.string (st nm)) slx slt sle
 refine⟨q0,q1,q2,q3,q4,q5,Xj ⟨k,nm,xs,th,el,slx,slt,sle,M',rfl,hx.keep hk hs,ht.keep hk hs,he.keep hk hs,?_,?_,hG.1,hG.2.1,hG.2.2.1,hG.2.2.2.1,hG.2.2.2.2⟩⟩
 ·exact h.chg.own hg (λ k hk=>by injection hk with hk;have:=h.eg;omega)
 exact h.mkr.tree hg (λ k hk=>by injection hk with hk;subst hk;exact⟨h.lc,h.tree⟩)
theorem Jj {w w':World} {base e k n:Nat} {v:Value} {l:List Value} (h:w.ownsRow base e k v n l) (hb:∀ q,v.ownBlock=some q->w'.heap[q]?=w.heap[q]?):w'.ownsRow base e k v n l:=by
 refine⟨h.1,?_⟩
 rcases h.2 with h2|⟨g,cap,cur,rfl,h3,h4,h5⟩
 ·exact .inl h2
 exact .inr ⟨g,cap,cur,rfl,h3,(hb g rfl).trans h4,h5⟩
theorem Vf.of_own {w:World} {base e k n q:Nat} {v:Value} {l:List Value} (h:w.ownsRow base e k v n l) (he:e=37\/e=110) (hq:v.ownBlock=some q):Vf w q:=by
 rcases h.2 with⟨rfl,_⟩|⟨g,cap,cur,rfl,h3,h4,h5⟩
 ·cases hq
 have:g=q:=by simpa [Value.ownBlock] using hq
 subst this
 exact⟨_,_,_,h4,he⟩
theorem Chg.tree {w w':World} {gc gm lo e k n:Nat} {M M':Mk} {v:Value} {l:List Value} (h:Chg w w' gc gm M M') (hM:Zm w gc gm M) (ho:w.ownsRow lo e k v n l) (he:e=37\/e=110) (h1:gc<lo) (h2:gm<lo):w'.ownsRow lo e k v n l :=
 Jj ho λ q hq=>by
  have hl:=ho.lt q hq
  exact h.block q hl.2 (by omega) (by omega) (λ e1=>(Vf.of_own ho he hq).ne_own hM.lo ⟨by decide,by decide⟩ e1.symm)
theorem Zm.bud {w:World} {gc gm:Nat} {M:Mk} (h:Zm w gc gm M) (z:Int):Zm (w.setCell ⟨gm,4,none⟩ (.int .i64 z)) gc gm { M with bud:=z } :=
 have hg:=Xc w gm 4 (.int .i64 z)
 {cod:=h.cod.keep λ k hk=>heap_setCell_other w ⟨gm,4,none⟩ k _ (by have:=h.lt;show k≠gm;omega)
  lt:=h.lt
  row:=heap_setCell_same _ gm 4 _ _ (.int .i64 z) h.row
  gl:=Yb h.gl hg (by omega)
  fn:=Yb h.fn hg (by omega)
  lo:=Yb h.lo hg (by omega)
  gok:=h.gok,fok:=h.fok,lok:=h.lok,gn:=h.gn,fn1:=h.fn1,fn2:=h.fn2,ln:=h.ln }
theorem Chg.bud {w:World} {gc gm:Nat} {M:Mk} (z:Int):Chg w (w.setCell ⟨gm,4,none⟩ (.int .i64 z)) gc gm M { M with bud:=z } :=
 ⟨rfl,rfl,rfl,by simp[World.setCell],λ k _ _ h2 _=>heap_setCell_other w ⟨gm,4,none⟩ k _ h2,λ k hk _=>hk,rfl,rfl,rfl,rfl⟩
def tabs (n:Nat):Bt:=List.replicate n 9
def Qq (xs:Fo) (i:Nat):Bt:=match (Yk xs)[i]? with|some a=>a.2|none=>[]
def Up:Sf->Nat->Bt
 | .nil,_=>[]
 | .cons k _ nm xs th el r,n =>
  tabs n++((
   if k=1 then [118,97,114,32]++(nm++([32,61,32]++(Qq xs 0++[59])))
   else if k=2 then nm++([32,61,32]++(Qq xs 0++[59]))
   else if k=3 then nm++([91]++(Qq xs 0++([93,32,61,32]++(Qq xs 1++[59]))))
   else if k=6 then [114,101,116,117,114,110,32]++(Qq xs 0++[59])
   else if k=7 then [112,114,105,110,116,32]++(Qq xs 0++[59])
   else if k=8 then [99,97,108,108,32]++(Qq xs 0++[59])
   else if k=5 then [119,104,105,108,101,32]++(Qq xs 0++([32,123,10]++(Up th (n+1)++(tabs n++[125]))))
   else if k=4 then [105,102,32]++(Qq xs 0++([32,123,10]++(Up th (n+1)++(tabs n++([125] ++
    (if el.len=0 then [] else [32,101,108,115,101,32,123,10]++(Up el (n+1)++(tabs n++[125]))))))))
   else [])++([10]++Up r n))
def Ev (F:Fn):Bt:=[102,117,110,99,32]++(F.nm++([40]++(comm F.ps++([41,32,123,10]++(Up F.bd 1++[125,10])))))
def Hr (x:Bt×Int):Bt:=[103,108,111,98,97,108,32]++(x.1++((if 0<x.2 then [91]++(Lib.decDigits x.2.toNat++[93]) else [])++[59,10]))
def An (gs:List (Bt×Int)) (Fs:List Fn):Bt:=gs.flatMap Hr++Fs.flatMap Ev
def Dr (k:Int) (nm:Bt) (xs:Fo) (th el:Sf) (n:Nat):Bt :=
   if k=1 then [118,97,114,32]++(nm++([32,61,32]++(Qq xs 0++[59])))
   else if k=2 then nm++([32,61,32]++(Qq xs 0++[59]))
   else if k=3 then nm++([91]++(Qq xs 0++([93,32,61,32]++(Qq xs 1++[59]))))
   else if k=6 then [114,101,116,117,114,110,32]++(Qq xs 0++[59])
   else if k=7 then [112,114,105,110,116,32]++(Qq xs 0++[59])
   else if k=8 then [99,97,108,108,32]++(Qq xs 0++[59])
   else if k=5 then [119,104,105,108,101,32]++(Qq xs 0++([32,123,10]++(Up th (n+1)++(tabs n++[125]))))
   else if k=4 then [105,102,32]++(Qq xs 0++([32,123,10]++(Up th (n+1)++(tabs n++([125] ++
    (if el.len=0 then [] else [32,101,108,115,101,32,123,10]++(Up el (n+1)++(tabs n++[125]))))))))
   else []
theorem Wg (k ln:Int) (nm:Bt) (xs:Fo) (th el r:Sf) (n:Nat):Up (.cons k ln nm xs th el r) n=tabs n++(Dr k nm xs th el n++([10]++Up r n)):=rfl
structure S1 where
 k:Int
 ln:Int
 nm:Bt
 xs:Fo
 th:Sf
 el:Sf
def Sf.get:Sf->Nat->Option S1
 | .nil,_=>none
 | .cons k ln nm xs th el _,0=>some ⟨k,ln,nm,xs,th,el⟩
 | .cons _ _ _ _ _ _ r,i+1=>r.get i
def Sf.pre:Sf->Nat->Sf
 | .nil,_=>.nil
 | .cons _ _ _ _ _ _ _,0=>.nil
 | .cons k ln nm xs th el r,i+1=>.cons k ln nm xs th el (r.pre i)
theorem Sf.get_lt {S:Sf} {i:Nat} (h:i<S.len):∃ x,S.get i=some x:=by
 induction S generalizing i with
 | nil=>simp[Sf.len] at h
 | cons k ln nm xs th el r _ _ ih =>
  cases i with
  | zero=>exact⟨_,rfl⟩
  | succ i=>exact ih (by simp only[Sf.len] at h;omega)
theorem Yt.elemP {w:World} {P:Nat->Prop} {S:Sf} {a:Option Addr} {c:Nat} (h:Yt w P S (.slice a S.len c)) {j:Nat} {x:S1} (hj:S.get j=some x) :
  ∃ b off ax cx at_ ct ae ce,a=some ⟨b,off,none⟩/\b<w.heap.size/\Xq (Xv w P x.xs (.slice ax x.xs.len cx))/\Xq (Yt w P x.th (.slice at_ x.th.len ct))/\Xq (Yt w P x.el (.slice ae x.el.len ce)) /\
   w.cell? ⟨b,off+j*6,none⟩=some (.int .i64 x.k)/\w.cell? ⟨b,off+j*6+1,none⟩=some (.int .i64 x.ln)/\w.cell? ⟨b,off+j*6+2,none⟩=some (.string (st x.nm))/\w.cell? ⟨b,off+j*6+3,none⟩=some (.slice ax x.xs.len cx)/\w.cell? ⟨b,off+j*6+4,none⟩=some (.slice at_ x.th.len ct)/\w.cell? ⟨b,off+j*6+5,none⟩=some (.slice ae x.el.len ce):=by
 obtain⟨a',c',rws,e,h1,h2,h3,h4,h5⟩:=h
 injection e with e1 e2 e3
 subst e1
 clear e2 e3 h1 h2 h3
 have key:∀ (F:Sf) (cs:List Value) (j:Nat),Jz w P F cs->F.get j=some x->∃ ax cx at_ ct ae ce,Xv w P x.xs (.slice ax x.xs.len cx)/\Yt w P x.th (.slice at_ x.th.len ct)/\Yt w P x.el (.slice ae x.el.len ce) /\
   ∀ i u,(stc x.k x.ln x.nm (.slice ax x.xs.len cx) (.slice at_ x.th.len ct) (.slice ae x.el.len ce))[i]?=some u->cs[j*6+i]?=some u:=by
  intro F
  induction F with
  | nil=>intro cs j _ hg;cases hg
  | cons k ln nm xs th el r _ _ ih =>
   intro cs j hF hg
   obtain⟨slx,at_,ct,rt,ae,ce,re,cs',rfl,k1,k2,k3,k4,k5,k6,k7,k8,k9,k10,k11,k12⟩:=hF
   cases j with
   | zero =>
    injection hg with hg
    subst hg
    obtain⟨ax,cx,rx,rfl,r1⟩:=id k1
    refine⟨ax,cx,at_,ct,ae,ce,k1,⟨at_,ct,rt,rfl,k2,k3,k4,k5,k6⟩,⟨ae,ce,re,rfl,k7,k8,k9,k10,k11⟩,λ i u hi=>?_⟩
    have:i<6:=(List.getElem?_eq_some_iff.1 hi).1
    rw[Nat.zero_mul,Nat.zero_add,List.getElem?_append_left (by simpa using this)]
    exact hi
   | succ j =>
    obtain⟨ax,cx,at2,ct2,ae2,ce2,q1,q2,q3,q4⟩:=ih cs' j k12 hg
    refine⟨ax,cx,at2,ct2,ae2,ce2,q1,q2,q3,λ i u hi=>?_⟩
    rw[List.getElem?_append_right (by show 6<=_;omega)]
    have e:(j+1)*6+i-6=j*6+i:=by omega
    show cs'[(j+1)*6+i-6]?=_
    rw[e]
    exact q4 i u hi
 obtain⟨ax,cx,at_,ct,ae,ce,q1,q2,q3,q4⟩:=key S rws j h5 hj
 obtain⟨b,off,rfl,_,hb,hjw⟩:=h4 (λ e=>by have:=q4 0 _ rfl;rw[e] at this;cases this)
 have hk:∀ i u,(stc x.k x.ln x.nm (.slice ax x.xs.len cx) (.slice at_ x.th.len ct) (.slice ae x.el.len ce))[i]?=some u->w.cell? ⟨b,off+(j*6+i),none⟩=some u:=λ i u hi=>hjw _ _ (q4 i u hi)
 exact⟨b,off,ax,cx,at_,ct,ae,ce,rfl,hb,Xj q1,Xj q2,Xj q3,hk 0 _ rfl,by rw[Nat.add_assoc];exact hk 1 _ rfl,by rw[Nat.add_assoc];exact hk 2 _ rfl,by rw[Nat.add_assoc];exact hk 3 _ rfl,by rw[Nat.add_assoc];exact hk 4 _ rfl,by rw[Nat.add_assoc];exact hk 5 _ rfl⟩
theorem StW.own {w:World} {gc gm:Nat} {M M':Mk} {g:Nat} {wx wy:World} {r:Option Nat} (h:StW w gc gm M M' g wx) (hg:wx.grownBy wy r) (hr:∀ k,r=some k->g<k/\Vf wx k):StW w gc gm M M' g wy :=
 ⟨h.eg,(hg.block g h.lts (λ e=>by have:=(hr g e.symm).1;omega)).trans h.row,h.mkr.tree hg (λ k hk=>⟨by have:=(hr k hk).1;have:=h.lc;omega,(hr k hk).2⟩),h.chg.own hg (λ k hk=>by have:=(hr k hk).1;have:=h.eg;omega),h.lc,h.lm⟩
theorem Rq {w:World} {b1 b2 e1 e2 k1 k2 n1 n2:Nat} {u v:Value} {l1 l2:List Value} (h1:w.ownsRow b1 e1 k1 u n1 l1) (h2:w.ownsRow b2 e2 k2 v n2 l2) (he:e1≠e2):∀ k,u.ownBlock=some k->v.ownBlock≠some k:=by
 intro k hk hv
 rcases h1.2 with⟨rfl,_⟩|⟨g,cap,cur,rfl,_,hg,_⟩
 ·cases hk
 rcases h2.2 with⟨rfl,_⟩|⟨g2,cap2,cur2,rfl,_,hg2,_⟩
 ·cases hv
 have a1:g=k:=by simpa [Value.ownBlock] using hk
 have a2:g2=k:=by simpa [Value.ownBlock] using hv
 subst a1 a2
 rw[hg] at hg2
 injection hg2 with hg2
 injection hg2 with _ hg2 _
 exact he hg2
section
theorem Rd (l:List (Bt×Int)) (x:Bt×Int):glc l++[.string (st x.1),.int .i64 x.2]=glc (l++[x]):=by unfold glc;simp
theorem Rh (l:List Fr) (f:Fr):frc l++[.string (st f.nm),.int .i64 0,.slice f.pa f.pn f.pc,.slice f.ba f.bn f.bc]=frc (l++[f]):=by unfold frc;simp
abbrev zso:Obj:=.cells #[.slice none 0 0,.slice none 0 0] 29 (0,0)
abbrev Ft (gc:Nat) (va:Value):Obj:=.cells #[.pointer (some ⟨gc,0,none⟩),va,.slice none 0 0,.slice none 0 0,.int .i64 0] 58 (0,0)
structure Ep (w wx:World) (gc gm g:Nat) (va:Value) (gs:List (Bt×Int)):Prop where
 eg:g=w.heap.size
 em:gm=g+1
 lc:gc<g
 res:wx.heap[g]?=some zso
 cod:Cod wx gc
 row:wx.heap[gm]?=some (Ft gc va)
 gl:wx.ownsRow (gm+1) 60 2 va gs.length (glc gs)
 gok:∀ x∈gs,okN x.1/\0<=x.2/\x.2<=5
 gr:w.grownBy wx (some gc)
theorem Ep.grown {w wx wy:World} {gc gm g:Nat} {va:Value} {gs:List (Bt×Int)} (h:Ep w wx gc gm g va gs) (hg:wx.grownBy wy (some gc)) (hc:Cod wy gc):Ep w wy gc gm g va gs :=
 {h with
  res:=(hg.block g (Xp h.res) (by simp;have:=h.lc;omega)).trans h.res
  cod:=hc
  row:=(hg.block gm (Xp h.row) (by simp;have:=h.lc;have:=h.em;omega)).trans h.row
  gl:=Yb h.gl hg (by have:=h.lc;have:=h.em;omega)
  gr:=Xg h.gr hg }
theorem Ep.below {w wx wy:World} {gc gm g:Nat} {va:Value} {gs:List (Bt×Int)} (h:Ep w wx gc gm g va gs) (hb:Below wx.heap.size wx wy):Ep w wy gc gm g va gs :=
 h.grown (Xm hb _) (h.cod.below hb h.cod.lt)
theorem Ep.push {w wx w9:World} {gc gm g g9 c9:Nat} {va:Value} {gs:List (Bt×Int)} {nm:Bt} {z:Int} {ob:Obj} (h:Ep w wx gc gm g va gs) (hn:okN nm) (hz0:0<=z) (hz5:z<=5)
  (hg:(wx.alloc ob).grownBy w9 va.ownBlock) (ho:w9.ownsRow (gm+1) 60 2 (.slice (some ⟨g9,0,none⟩) (gs.length+1) c9) (gs.length+1) (glc gs++[.string (st nm),.int .i64 z])) :
  Ep w (w9.setCell ⟨gm,1,none⟩ (.slice (some ⟨g9,0,none⟩) (gs.length+1) c9)) gc gm g (.slice (some ⟨g9,0,none⟩) (gs.length+1) c9) (gs++[(nm,z)]):=by
 have hA:=Xk wx ob
 have hsA:(wx.alloc ob).heap.size=wx.heap.size+1:=by simp
 have hv:∀ k,va.ownBlock=some k->gm+1<=k:=λ k hk=>(h.gl.lt k hk).1
 have hlt:=Xp h.row
 have em:=h.em
 have lc:=h.lc
 have kp:∀ k,k<wx.heap.size->k<=gm->w9.heap[k]?=wx.heap[k]?:=λ k hk hkm=>(hg.block k (by omega) (λ e=>by have:=hv k e.symm;omega)).trans (hA.block k hk)
 have hjp:=Xc w9 gm 1 (.slice (some ⟨g9,0,none⟩) (gs.length+1) c9)
 exact
 {eg:=h.eg,em:=h.em,lc:=h.lc
  res:=(heap_setCell_other w9 ⟨gm,1,none⟩ g _ (by show g≠gm;omega)).trans ((kp g (Xp h.res) (by omega)).trans h.res)
  cod:=(h.cod.keep λ k hk=>kp k (by omega) (by omega)).keep λ k hk=>heap_setCell_other w9 ⟨gm,1,none⟩ k _ (by show k≠gm;omega)
  row:=heap_setCell_same _ gm 1 _ _ _ ((kp gm hlt (Nat.le_refl _)).trans h.row)
  gl:=by
   have:=Yb ho hjp (by omega)
   rw[Rd gs (nm,z)] at this
   simpa using this
  gok:=by
   intro x hx
   rw[List.mem_append] at hx
   rcases hx with hx|hx
   ·exact h.gok x hx
   simp at hx;subst hx;exact⟨hn,hz0,hz5⟩
  gr:=by
   have e1:=h.eg
   exact Yv (p:=⟨gm,1,none⟩) ⟨hg.os.trans (hA.os.trans h.gr.os),hg.tape.trans (hA.tape.trans h.gr.tape),hg.output.trans (hA.output.trans h.gr.output),by have:=h.gr.size;have:=hg.size;omega,λ k hk hn=>by
    have:=h.gr.size
    rw[kp k (by omega) (by omega),h.gr.block k hk hn]⟩ (by show w.heap.size<=gm;omega) }
def Wz (w:World) (P:Nat->Prop) (f:Fr) (F:Fn):Prop :=
 f.nm=F.nm/\f.pn=F.ps.length/\f.pn<=f.pc/\f.pc<=maxLen/\(f.pa=none->f.pc=0)/\Vu w P f.pa (Uu F.ps)/\(∀ p∈F.ps,okN p)/\Yt w P F.bd (.slice f.ba f.bn f.bc) /\
 F.bd.wf/\F.bd.cst<=9100/\F.bd.nst<=3/\F.bd.hgt<=3
def Zp (w:World) (P:Nat->Prop):List Fr->List Fn->Prop
 | [],[]=>True
 | f::fs,F::Fs=>Wz w P f F/\Zp w P fs Fs
 | _,_=>False
theorem Wz.keep {w w':World} {P Q:Nat->Prop} {f:Fr} {F:Fn} (h:Wz w P f F) (hk:∀ b,P b->b<w.heap.size->w'.heap[b]?=w.heap[b]?/\Q b) (hs:w.heap.size<=w'.heap.size):Wz w' Q f F:=by
 obtain⟨h1,h2,h3,h4,h5,h6,h7,h8,h9⟩:=h
 exact⟨h1,h2,h3,h4,h5,h6.keep hk hs,h7,h8.keep hk hs,h9⟩
theorem Zp.keep {w w':World} {P Q:Nat->Prop} {fs:List Fr} {Fs:List Fn} (h:Zp w P fs Fs) (hk:∀ b,P b->b<w.heap.size->w'.heap[b]?=w.heap[b]?/\Q b) (hs:w.heap.size<=w'.heap.size):Zp w' Q fs Fs:=by
 induction fs generalizing Fs with
 | nil=>cases Fs with
  | nil=>trivial
  | cons F Fs=>exact h
 | cons f fs ih=>cases Fs with
  | nil=>exact h
  | cons F Fs=>exact⟨h.1.keep hk hs,ih h.2⟩
theorem Zp.len {w:World} {P:Nat->Prop} {fs:List Fr} {Fs:List Fn} (h:Zp w P fs Fs):fs.length=Fs.length:=by
 induction fs generalizing Fs with
 | nil=>cases Fs with
  | nil=>rfl
  | cons F Fs=>exact absurd h id
 | cons f fs ih=>cases Fs with
  | nil=>exact absurd h id
  | cons F Fs=>simp[ih h.2]
theorem Zp.push {w:World} {P:Nat->Prop} {fs:List Fr} {Fs:List Fn} {f:Fr} {F:Fn} (h:Zp w P fs Fs) (k:Wz w P f F):Zp w P (fs++[f]) (Fs++[F]):=by
 induction fs generalizing Fs with
 | nil=>cases Fs with
  | nil=>exact⟨k,trivial⟩
  | cons F Fs=>exact absurd h id
 | cons f fs ih=>cases Fs with
  | nil=>exact absurd h id
  | cons F Fs=>exact⟨h.1,ih h.2⟩
theorem Zp.get {w:World} {P:Nat->Prop} {fs:List Fr} {Fs:List Fn} (h:Zp w P fs Fs) {j:Nat} {f:Fr} (hj:fs[j]?=some f):∃ F,Fs[j]?=some F/\Wz w P f F:=by
 induction fs generalizing Fs j with
 | nil=>simp at hj
 | cons f' fs ih=>cases Fs with
  | nil=>exact absurd h id
  | cons F Fs =>
   cases j with
   | zero=>simp at hj;subst hj;exact⟨F,rfl,h.1⟩
   | succ j=>exact ih h.2 (by simpa using hj)
theorem Zp.set {w:World} {P:Nat->Prop} {fs:List Fr} {Fs:List Fn} {f:Fr} {F:Fn} (h:Zp w P fs Fs) (k:Wz w P f F) (j:Nat):Zp w P (fs.set j f) (Fs.set j F):=by
 induction fs generalizing Fs j with
 | nil=>cases Fs with
  | nil=>trivial
  | cons F Fs=>exact absurd h id
 | cons f' fs ih=>cases Fs with
  | nil=>exact absurd h id
  | cons F' Fs =>
   cases j with
   | zero=>exact⟨k,h.2⟩
   | succ j=>exact⟨h.1,ih h.2 j⟩
def PB (gm:Nat) (M:Mk):Nat->Prop:=λ b=>gm<b/\some b≠M.vl.ownBlock/\some b≠M.vb.ownBlock
structure Jg (w wx:World) (gc gm g:Nat) (M:Mk) (Fs:List Fn):Prop where
 eg:g=w.heap.size
 em:gm=g+1
 lc:gc<g
 res:wx.heap[g]?=some zso
 mkr:Zm wx gc gm M
 gr:w.grownBy wx (some gc)
 fns:Zp wx (PB gm M) M.fs Fs
theorem Jg.grown {w wx wy:World} {gc gm g:Nat} {M:Mk} {Fs:List Fn} (h:Jg w wx gc gm g M Fs) (hg:wx.grownBy wy (some gc)) (hc:Cod wy gc):Jg w wy gc gm g M Fs :=
 {h with
  res:=(hg.block g (Xp h.res) (by simp;have:=h.lc;omega)).trans h.res
  mkr:=h.mkr.grown hg hc
  gr:=Xg h.gr hg
  fns:=h.fns.keep (λ b hb hlt=>⟨hg.block b hlt (by simp;have:=hb.1;have:=h.lc;have:=h.em;omega),hb⟩) hg.size }
theorem Jg.below {w wx wy:World} {gc gm g:Nat} {M:Mk} {Fs:List Fn} (h:Jg w wx gc gm g M Fs) (hb:Below wx.heap.size wx wy):Jg w wy gc gm g M Fs :=
 h.grown (Xm hb _) (h.mkr.cod.below hb h.mkr.cod.lt)
theorem Jg.far {w wx wy:World} {gc gm g:Nat} {M:Mk} {Fs:List Fn} {r:Option Nat} (h:Jg w wx gc gm g M Fs) (hg:wx.grownBy wy r) (hr:∀ k,r=some k->gm<k/\M.va.ownBlock≠some k/\M.vb.ownBlock≠some k/\M.vl.ownBlock≠some k)
  (hf:Zp wx (λ b=>PB gm M b/\some b≠r) M.fs Fs):Jg w wy gc gm g M Fs :=
 have e1:=h.eg
 have e2:=h.em
 have e3:=h.lc
 have key:∀ {e k n:Nat} {u:Value} {l:List Value},(∀ q,r=some q->u.ownBlock≠some q)->wx.ownsRow (gm+1) e k u n l->wy.ownsRow (gm+1) e k u n l:=λ hq h1 =>
  Jj h1 (λ q hq2=>hg.block q (h1.lt q hq2).2 (λ e=>hq q e.symm hq2))
 {h with
  res:=(hg.block g (Xp h.res) (λ e=>by have:=(hr g e.symm).1;omega)).trans h.res
  mkr:={ h.mkr with
   cod:=h.mkr.cod.keep λ k hk=>hg.block k (by have:=h.mkr.cod.lt;omega) (λ e=>by have:=(hr k e.symm).1;have:=h.mkr.lt;omega)
   row:=(hg.block gm (Xp h.mkr.row) (λ e=>by have:=(hr gm e.symm).1;omega)).trans h.mkr.row
   gl:=key (λ q hq=>(hr q hq).2.1) h.mkr.gl
   fn:=key (λ q hq=>(hr q hq).2.2.1) h.mkr.fn
   lo:=key (λ q hq=>(hr q hq).2.2.2) h.mkr.lo }
  gr:=⟨hg.os.trans h.gr.os,hg.tape.trans h.gr.tape,hg.output.trans h.gr.output,Nat.le_trans h.gr.size hg.size,λ k hk hn=>(hg.block k (Nat.lt_of_lt_of_le hk h.gr.size) (λ e=>by have:=(hr k e.symm).1;omega)).trans (h.gr.block k hk hn)⟩
  fns:=hf.keep (λ b hb hlt=>⟨hg.block b hlt hb.2,hb.1⟩) hg.size }
theorem Jg.push {w wx w9:World} {gc gm g g9 c9:Nat} {M:Mk} {Fs:List Fn} {f:Fr} {F:Fn} {ob:Obj} (h:Jg w wx gc gm g M Fs) (hl0:M.vl=.slice none 0 0) (hok:okN f.nm/\f.pn<=2) (hn:M.fs.length<=3) (hF:Wz wx (λ b=>gm<b/\some b≠M.vb.ownBlock) f F)
  (hg:(wx.alloc ob).grownBy w9 M.vb.ownBlock) (h9:M.vb.ownBlock=some g9\/g9=(wx.alloc ob).heap.size)
  (ho:w9.ownsRow (gm+1) 63 4 (.slice (some ⟨g9,0,none⟩) (M.fs.length+1) c9) (M.fs.length+1) (frc M.fs++[.string (st f.nm),.int .i64 0,.slice f.pa f.pn f.pc,.slice f.ba f.bn f.bc])) :
  Jg w (w9.setCell ⟨gm,2,none⟩ (.slice (some ⟨g9,0,none⟩) (M.fs.length+1) c9)) gc gm g { M with vb:=.slice (some ⟨g9,0,none⟩) (M.fs.length+1) c9,fs:=M.fs++[f] } (Fs++[F]):=by
 have hA:=Xk wx ob
 have hsA:(wx.alloc ob).heap.size=wx.heap.size+1:=by simp
 have hvb:∀ k,M.vb.ownBlock=some k->gm+1<=k/\k<wx.heap.size:=λ k hk=>h.mkr.fn.lt k hk
 have em:=h.em
 have lc:=h.lc
 have eg:=h.eg
 have hs9:=hg.size
 have kp:∀ k,k<wx.heap.size->M.vb.ownBlock≠some k->w9.heap[k]?=wx.heap[k]?:=λ k hk hne=>(hg.block k (by omega) (λ e=>hne e.symm)).trans (hA.block k hk)
 have hjp:=Xc w9 gm 2 (.slice (some ⟨g9,0,none⟩) (M.fs.length+1) c9)
 have hzk:∀ k,k<=gm->k<wx.heap.size->w9.heap[k]?=wx.heap[k]?:=λ k hk hlt=>kp k hlt (λ e=>by have:=(hvb k e).1;omega)
 have hkp:∀ b,gm<b->some b≠M.vb.ownBlock->b<wx.heap.size->(w9.setCell ⟨gm,2,none⟩ (.slice (some ⟨g9,0,none⟩) (M.fs.length+1) c9)).heap[b]?=wx.heap[b]?/\PB gm { M with vb:=.slice (some ⟨g9,0,none⟩) (M.fs.length+1) c9,fs:=M.fs++[f] } b:=λ b h1 h2 h3 =>
  ⟨(heap_setCell_other w9 ⟨gm,2,none⟩ b _ (by show b≠gm;omega)).trans (kp b h3 (λ e=>h2 e.symm)),h1,by show some b≠M.vl.ownBlock;rw[hl0];simp[Value.ownBlock],by
   show some b≠some g9
   rcases h9 with h9|h9
   ·rw[<- h9];exact h2
   simp;omega⟩
 have hsz:wx.heap.size<=(w9.setCell ⟨gm,2,none⟩ (.slice (some ⟨g9,0,none⟩) (M.fs.length+1) c9)).heap.size:=by simp[World.setCell];omega
 exact
 {eg:=h.eg,em:=h.em,lc:=h.lc
  res:=(heap_setCell_other w9 ⟨gm,2,none⟩ g _ (by show g≠gm;omega)).trans ((hzk g (by omega) (Xp h.res)).trans h.res)
  mkr:={ h.mkr with
   cod:=(h.mkr.cod.keep λ k hk=>hzk k (by omega) (by have:=h.mkr.cod.lt;omega)).keep λ k hk=>heap_setCell_other w9 ⟨gm,2,none⟩ k _ (by show k≠gm;omega)
   row:=heap_setCell_same _ gm 2 _ _ _ ((hzk gm (Nat.le_refl _) (Xp h.mkr.row)).trans h.mkr.row)
   gl:=Yb (Jj h.mkr.gl (λ q hq=>kp q (h.mkr.gl.lt q hq).2 (Rq h.mkr.gl h.mkr.fn (by decide) q hq))) hjp (by omega)
   fn:=by
    have:=Yb ho hjp (by omega)
    rw[Rh] at this
    simpa using this
   lo:=Yb (Jj h.mkr.lo (λ q hq=>kp q (h.mkr.lo.lt q hq).2 (Rq h.mkr.lo h.mkr.fn (by decide) q hq))) hjp (by omega)
   fok:=by
    intro x hx
    rw[List.mem_append] at hx
    rcases hx with hx|hx
    ·exact h.mkr.fok x hx
    simp at hx;subst hx;exact hok
   fn1:=by show 1<=(M.fs++[f]).length;simp
   fn2:=by show (M.fs++[f]).length<=4;simp;omega }
  gr:=Yv (p:=⟨gm,2,none⟩) ⟨hg.os.trans (hA.os.trans h.gr.os),hg.tape.trans (hA.tape.trans h.gr.tape),hg.output.trans (hA.output.trans h.gr.output),by have:=h.gr.size;omega,λ k hk hne=>by
   have:=h.gr.size
   rw[hzk k (by omega) (by omega),h.gr.block k hk hne]⟩ (by show w.heap.size<=gm;omega)
  fns:=(h.fns.keep (λ b hb hlt=>hkp b hb.1 hb.2.2 hlt) hsz).push (hF.keep (λ b hb hlt=>hkp b hb.1 hb.2 hlt) hsz) }
abbrev Fd (nm:Bt) (pa:Option Addr) (n c:Nat):Obj:=.cells #[.string (st nm),.int .i64 0,.slice pa n c,.slice none 0 0] 63 (0,0)
structure PSt (w wx:World) (gc gm g:Nat) (M:Mk) (Fs:List Fn) (g7:Nat) (nm:Bt) (pa:Option Addr) (pc:Nat) (ps:List Bt):Prop where
 src:Jg w wx gc gm g M Fs
 row:wx.heap[g7]?=some (Fd nm pa ps.length pc)
 own:wx.ownsRow (g7+1) 9 1 (.slice pa ps.length pc) ps.length (Uu ps)
 fns:Zp wx (λ b=>PB gm M b/\b<g7) M.fs Fs
 lt:gm<g7
 rows:∀ k,(M.va.ownBlock=some k\/M.vb.ownBlock=some k\/M.vl.ownBlock=some k)->k<g7
 ok:∀ p∈ps,okN p
section
variable {w wx wy:World} {gc gm g g7 pc:Nat} {M:Mk} {Fs:List Fn} {nm:Bt} {pa:Option Addr} {ps:List Bt}
theorem PSt.grown (h:PSt w wx gc gm g M Fs g7 nm pa pc ps) (hg:wx.grownBy wy (some gc)) (hc:Cod wy gc):PSt w wy gc gm g M Fs g7 nm pa pc ps :=
 have e1:=h.src.lc
 have e2:=h.src.em
 have e3:=h.lt
 {h with
  src:=h.src.grown hg hc
  row:=(hg.block g7 (Xp h.row) (by simp;omega)).trans h.row
  own:=Yb h.own hg (by omega)
  fns:=h.fns.keep (λ b hb hlt=>⟨hg.block b hlt (by simp;have:=hb.1.1;omega),hb⟩) hg.size }
theorem PSt.below (h:PSt w wx gc gm g M Fs g7 nm pa pc ps) (hb:Below wx.heap.size wx wy):PSt w wy gc gm g M Fs g7 nm pa pc ps :=
 h.grown (Xm hb _) (h.src.mkr.cod.below hb h.src.mkr.cod.lt)
theorem PSt.far {r:Option Nat} (h:PSt w wx gc gm g M Fs g7 nm pa pc ps) (hg:wx.grownBy wy r) (hr:∀ k,r=some k->g7<=k):Jg w wy gc gm g M Fs/\Zp wy (λ b=>PB gm M b/\b<g7) M.fs Fs:=by
 have e3:=h.lt
 refine⟨h.src.far hg (λ k hk=>?_) (h.fns.keep (λ b hb _=>⟨rfl,hb.1,λ e=>by have:=hr b e.symm;have:=hb.2;omega⟩) (Nat.le_refl _)),h.fns.keep (λ b hb hlt=>⟨hg.block b hlt (λ e=>by have:=hr b e.symm;have:=hb.2;omega),hb⟩) hg.size⟩
 have h7:=hr k hk
 exact⟨by omega,λ e=>by have:=h.rows k (.inl e);omega,λ e=>by have:=h.rows k (.inr (.inl e));omega,λ e=>by have:=h.rows k (.inr (.inr e));omega⟩
theorem PSt.push {w9:World} {g9 c9:Nat} {p:Bt} {ob:Obj} (h:PSt w wx gc gm g M Fs g7 nm pa pc ps) (hp:okN p) (hg:(wx.alloc ob).grownBy w9 (Value.slice pa ps.length pc).ownBlock)
  (ho:w9.ownsRow (g7+1) 9 1 (.slice (some ⟨g9,0,none⟩) (ps.length+1) c9) (ps.length+1) (Uu ps++[.string (st p)])) :
  PSt w (w9.setCell ⟨g7,2,none⟩ (.slice (some ⟨g9,0,none⟩) (ps.length+1) c9)) gc gm g M Fs g7 nm (some ⟨g9,0,none⟩) c9 (ps++[p]):=by
 have hA:=h.below (Xk wx ob)
 have hv:∀ k,(Value.slice pa ps.length pc).ownBlock=some k->g7+1<=k:=λ k hk=>(h.own.lt k hk).1
 have h9:=hA.far hg (λ k hk=>by have:=hv k hk;omega)
 have hjp:=Xc w9 g7 2 (.slice (some ⟨g9,0,none⟩) (ps.length+1) c9)
 have hzd:w9.heap[g7]?=some (Fd nm pa ps.length pc):=(hg.block g7 (Xp hA.row) (λ e=>by have:=hv g7 e.symm;omega)).trans hA.row
 have e3:=h.lt
 have Ha:(ps++[p]).length=ps.length+1:=by simp
 exact
 {src:=h9.1.far hjp (λ k hk=>by
   injection hk with hk
   subst hk
   exact⟨e3,λ e=>by have:=h.rows g7 (.inl e);omega,λ e=>by have:=h.rows g7 (.inr (.inl e));omega,λ e=>by have:=h.rows g7 (.inr (.inr e));omega⟩) (h9.2.keep (λ b hb _=>⟨rfl,hb.1,by simp;have:=hb.2;omega⟩) (Nat.le_refl _))
  row:=by rw[Ha];exact heap_setCell_same _ g7 2 _ _ _ hzd
  own:=by
   have:=Yb ho hjp (by omega)
   rw[Ha]
   simpa [Uu] using this
  fns:=h9.2.keep (λ b hb _=>⟨heap_setCell_other w9 ⟨g7,2,none⟩ b _ (by have:=hb.2;show b≠g7;omega),hb⟩) hjp.size
  lt:=h.lt,rows:=h.rows
  ok:=by
   intro x hx
   rw[List.mem_append] at hx
   rcases hx with hx|hx
   ·exact h.ok x hx
   simp at hx;subst hx;exact hp }
theorem PSt.fn (h:PSt w wx gc gm g M Fs g7 nm pa pc ps):Wz wx (λ b=>gm<b/\some b≠M.vb.ownBlock) ⟨nm,pa,ps.length,pc,none,0,0⟩ ⟨nm,ps,.nil⟩:=by
 obtain⟨a,cap,e1,h1,h2,h3,h4,h5⟩:=Yh.of_own h.own
 injection e1 with e1 e2 e3
 subst e1 e3
 refine⟨rfl,rfl,h2,h3,Vs h.own,λ hx=>?_,h.ok,Yt.nil _ _,trivial,by simp[Sf.cst],by simp[Sf.nst],by simp[Sf.hgt]⟩
 obtain⟨b,off,e,hb,hc⟩:=h4 hx
 have:=h5 _ e
 have hb2:g7+1<=b:=this
 exact⟨b,off,e,⟨by have:=h.lt;omega,λ e=>by have:=h.rows b (.inr (.inl e.symm));omega⟩,hb,hc⟩
end
theorem Gx {w:World} {base base' e k n:Nat} {v:Value} {l:List Value} (h:w.ownsRow base e k v n l) (hb:base'<=base):w.ownsRow base' e k v n l:=by
 refine⟨h.1,?_⟩
 rcases h.2 with h2|⟨g,cap,cur,rfl,h3,h4⟩
 ·exact .inl h2
 exact .inr ⟨g,cap,cur,rfl,by omega,h4⟩
section
variable {w wx wy:World} {gc gm g:Nat} {M M':Mk} {Fs:List Fn}
theorem Jg.step (h:Jg w wx gc gm g M Fs) (hc:Chg wx wy gc gm M M') (hm:Zm wy gc gm M'):Jg w wy gc gm g M' Fs :=
 have eg:=h.eg
 have em:=h.em
 have lc:=h.lc
 have hvl:∀ k,M.vl.ownBlock=some k->gm+1<=k:=λ k hk=>(h.mkr.lo.lt k hk).1
 {eg:=h.eg,em:=h.em,lc:=h.lc
  res:=(hc.block g (Xp h.res) (by omega) (by omega) (λ e=>by have:=hvl g e.symm;omega)).trans h.res
  mkr:=hm
  gr:=⟨hc.os.trans h.gr.os,hc.tape.trans h.gr.tape,hc.output.trans h.gr.output,Nat.le_trans h.gr.size hc.size,λ k hk hn=>(hc.block k (Nat.lt_of_lt_of_le hk h.gr.size) (λ e=>hn (by rw[e])) (by omega) (λ e=>by have:=hvl k e.symm;omega)).trans (h.gr.block k hk hn)⟩
  fns:=by
   rw[hc.gf]
   exact h.fns.keep (λ b hb hlt=>⟨hc.block b hlt (by have:=hb.1;omega) (by have:=hb.1;omega) hb.2.1,hb.1,λ e=>hb.2.1 (hc.vl b e.symm hlt).symm,by rw[hc.gb];exact hb.2.2⟩) hc.size }
end
def Bu (gc:Nat) (w:World) (e:Ending) (w':World):Prop :=
 ∃ (M:Mk) (Fs:List Fn),e=.returned (.agg #[M.va,M.vb])/\Cod w' gc/\w.grownBy w' (some gc)/\w'.ownsRow w.heap.size 60 2 M.va M.gs.length (glc M.gs)/\w'.ownsRow w.heap.size 63 4 M.vb M.fs.length (frc M.fs)/\Zp w' (λ b=>w.heap.size<=b) M.fs Fs /\
  (∀ x∈M.gs,okN x.1/\0<=x.2/\x.2<=5)/\M.gs.length<=4/\(∀ f∈M.fs,okN f.nm/\f.pn<=2)/\1<=M.fs.length/\M.fs.length<=4
theorem Jg.fin {w wx:World} {gc gm g:Nat} {M:Mk} {Fs:List Fn} (h:Jg w wx gc gm g M Fs):∀ W,W=(wx.setCell ⟨g,0,none⟩ M.va).setCell ⟨g,1,none⟩ M.vb ->
  W.cell? ⟨g,0,none⟩=some M.va/\W.cell? ⟨g,1,none⟩=some M.vb/\Xq (Bu gc w (.returned (.agg #[M.va,M.vb])) W):=λ W hW=>by
 subst hW
 have eg:=h.eg
 have em:=h.em
 have lc:=h.lc
 have hr:=heap_setCell_same _ g 1 _ _ M.vb (heap_setCell_same _ g 0 _ _ M.va h.res)
 have s12:=Xg (Xc wx g 0 M.va) (Xc (wx.setCell ⟨g,0,none⟩ M.va) g 1 M.vb)
 have kp:∀ b,b<wx.heap.size->b≠g->((wx.setCell ⟨g,0,none⟩ M.va).setCell ⟨g,1,none⟩ M.vb).heap[b]?=wx.heap[b]?:=λ b hb hne=>s12.block b hb (by simp;exact hne)
 refine⟨cell_of_row _ g 0 _ _ _ hr,cell_of_row _ g 1 _ _ _ hr,Xj ⟨M,Fs,rfl,?_,?_,?_,?_,?_,h.mkr.gok,h.mkr.gn,h.mkr.fok,h.mkr.fn1,h.mkr.fn2⟩⟩
 ·exact h.mkr.cod.keep λ k hk=>kp k (by have:=h.mkr.cod.lt;omega) (by omega)
 ·exact Yv (p:=⟨g,1,none⟩) (Yv (p:=⟨g,0,none⟩) h.gr (by show w.heap.size<=g;omega)) (by show w.heap.size<=g;omega)
 ·exact Gx (Jj h.mkr.gl (λ q hq=>kp q (h.mkr.gl.lt q hq).2 (by have:=(h.mkr.gl.lt q hq).1;omega))) (by omega)
 ·exact Gx (Jj h.mkr.fn (λ q hq=>kp q (h.mkr.fn.lt q hq).2 (by have:=(h.mkr.fn.lt q hq).1;omega))) (by omega)
 exact h.fns.keep (λ b hb hlt=>⟨kp b hlt (by have:=hb.1;omega),by have:=hb.1;omega⟩) s12.size
end
theorem okH.not23 {h:Hd} {ar:Fo} (k:okH h ar):h.k≠2/\h.k≠3:=by
 rcases k with⟨_,_,k⟩|⟨_,k,_⟩|⟨_,_,k⟩
 ·rcases k with⟨k,_⟩|⟨k,_⟩|⟨k,_⟩|⟨k,_⟩|⟨k,_⟩|⟨k,_⟩|⟨k,_⟩<;>omega
 ·omega
 rcases k with⟨k,_⟩|⟨k,_⟩<;>omega
theorem okN.len {nm:Bt} (h:okN nm):nm.length<=4:=by
 obtain⟨_,_,_,_,_,_,hl⟩:=h
 exact hl
theorem Pj (n:Nat):(tabs n).length=n:=List.length_replicate
theorem Kv (xs:Fo) (hw:xs.wf) (i:Nat):(Qq xs i).length<=xs.cst:=by
 unfold Qq
 cases h:(Yk xs)[i]? with
 | none=>simp
 | some a=>exact Nat.le_trans (Tp _ _ _ h) (Gg xs hw)
theorem Tb (os:List (Hd×Bt)) (a b:Hd×Bt) (h0:os[0]?=some a) (h1:os[1]?=some b):a.2.length+b.2.length<=tot os:=by
 cases os with
 | nil=>simp at h0
 | cons x r =>
  cases r with
  | nil=>simp at h1
  | cons y r =>
   simp at h0 h1
   subst h0 h1
   simp only[tot];omega
theorem Nz (xs:Fo) (hw:xs.wf):(Qq xs 0).length+(Qq xs 1).length<=xs.cst:=by
 have h0:=Kv xs hw 0
 have h1:=Kv xs hw 1
 have hc:=Gg xs hw
 unfold Qq at h0 h1 ⊢
 cases e0:(Yk xs)[0]? with
 | none=>rw[e0] at h0;cases e1:(Yk xs)[1]? with
  | none=>simp
  | some b=>rw[e1] at h1;simpa using h1
 | some a=>rw[e0] at h0;cases e1:(Yk xs)[1]? with
  | none=>simpa using h0
  | some b=>exact Nat.le_trans (Tb _ a b e0 e1) hc
theorem okS.nm {k:Int} {nm:Bt} {xs:Fo} {th el:Sf} (h:okS k nm xs th el):nm.length<=4:=by
 rcases h with⟨_,h,_⟩|⟨_,h,_⟩|⟨_,h,_⟩|⟨_,h,_⟩|⟨_,h,_⟩|⟨_,h,_⟩
 ·exact h.len
 ·exact h.len
 all_goals (rw[h];simp)
theorem Rl (S:Sf) (hw:S.wf) (n:Nat) (hn:S.nst+n<=10):(Up S n).length<=S.cst:=by
 induction S generalizing n with
 | nil=>simp[Up]
 | cons k ln nm xs th el r ih1 ih2 ih3 =>
  obtain⟨hok,_,hx,ht,he,hr⟩:=hw
  simp only[Sf.nst] at hn
  have h1:=ih1 ht (n+1) (by omega)
  have h2:=ih2 he (n+1) (by omega)
  have h3:=ih3 hr n (by omega)
  have hv0:=Kv xs hx 0
  have hv2:=Nz xs hx
  have hnm:=hok.nm
  have htab:=Pj n
  have hb:(Dr k nm xs th el n).length<=50+xs.cst+th.cst+el.cst:=by
   unfold Dr
   split
   ·simp only[List.length_append,List.length_cons,List.length_nil];omega
   split
   ·simp only[List.length_append,List.length_cons,List.length_nil];omega
   split
   ·simp only[List.length_append,List.length_cons,List.length_nil];omega
   split
   ·simp only[List.length_append,List.length_cons,List.length_nil];omega
   split
   ·simp only[List.length_append,List.length_cons,List.length_nil];omega
   split
   ·simp only[List.length_append,List.length_cons,List.length_nil];omega
   split
   ·simp only[List.length_append,List.length_cons,List.length_nil];omega
   split
   ·split
    ·simp only[List.length_append,List.length_cons,List.length_nil];omega
    simp only[List.length_append,List.length_cons,List.length_nil];omega
   simp
  rw[Wg]
  simp only[List.length_append,List.length_cons,List.length_nil,Sf.cst]
  omega
def BOK (S:Sf):Prop:=∀ (n:Nat) (t:Bt),t=tabs n->S.nst+n<=10->∀ (W:World) (sl:Value),Yt W (λ _=>True) S sl->Calls Tryz.prog 47 #[sl,.string (st t)] W λ e w'=>e=.returned (.string (st (Up S n)))/\Below W.heap.size W w'
theorem BOK.call {S:Sf} (h:BOK S) {n:Nat} {t:Bt} (ht:t=tabs n) (hn:S.nst+n<=10) {a:Option Addr} {c:Nat} (W:World) (hs:Yt W (λ _=>True) S (.slice a S.len c)):Calls Tryz.prog 47 #[.slice a S.len c,.string (st t)] W λ e w'=>e=.returned (.string (st (Up S n)))/\Below W.heap.size W w':=h n t ht hn W _ hs
structure Uj (w:World) (gs:List (Bt×Int)) (fs:List Fr) (Fs:List Fn) (aa:Option Addr) (ca:Nat) (ab:Option Addr) (cb:Nat):Prop where
 gcap:gs.length<=ca/\ca<=maxLen
 fcap:fs.length<=cb/\cb<=maxLen
 gat:Vu w (λ _=>True) aa (glc gs)
 fat:Vu w (λ _=>True) ab (frc fs)
 fns:Zp w (λ _=>True) fs Fs
 gok:∀ x∈gs,okN x.1/\0<=x.2/\x.2<=5
 gn:gs.length<=4
 fok:∀ f∈fs,okN f.nm/\f.pn<=2
 f1:1<=fs.length
 f4:fs.length<=4
theorem Uj.below {w w':World} {gs:List (Bt×Int)} {fs:List Fr} {Fs:List Fn} {aa ab:Option Addr} {ca cb:Nat} (h:Uj w gs fs Fs aa ca ab cb) (hb:Below w.heap.size w w'):Uj w' gs fs Fs aa ca ab cb :=
 {h with
  gat:=h.gat.keep (λ b _ hlt=>⟨hb.block b hlt,trivial⟩) hb.size
  fat:=h.fat.keep (λ b _ hlt=>⟨hb.block b hlt,trivial⟩) hb.size
  fns:=h.fns.keep (λ b _ hlt=>⟨hb.block b hlt,trivial⟩) hb.size }
theorem Nh (l:List Bt) (h:∀ x∈l,x.length<=4):(comm l).length<=6*l.length:=by
 induction l with
 | nil=>simp[comm]
 | cons a r ih =>
  have h1:=h a (by simp)
  have h2:=ih (λ x hx=>h x (by simp[hx]))
  cases r with
  | nil=>simp[comm];omega
  | cons b r =>
   show (a++(([44,32]:Bt)++comm (b::r))).length<=6*((b::r).length+1)
   rw[List.length_append,List.length_append]
   simp only[List.length_cons,List.length_nil] at h2 ⊢
   omega
theorem Wc (n:Int) (h0:0<=n) (h1:n<=5):(Lib.decDigits n.toNat).length<=19:=Uv (by omega)
theorem Rn (x:Bt×Int) (h:okN x.1/\0<=x.2/\x.2<=5):(Hr x).length<=40:=by
 have h1:=h.1.len
 have h2:=Wc x.2 h.2.1 h.2.2
 unfold Hr
 split
 ·simp only[List.length_append,List.length_cons,List.length_nil];omega
 simp only[List.length_append,List.length_cons,List.length_nil];omega
theorem Gm {α:Type} (f:α->Bt) (c:Nat) (l:List α) (h:∀ x∈l,(f x).length<=c):(l.flatMap f).length<=l.length*c:=by
 induction l with
 | nil=>simp
 | cons a r ih =>
  rw[List.flatMap_cons,List.length_append,List.length_cons,Nat.add_mul]
  have:=h a (by simp)
  have:=ih (λ x hx=>h x (by simp[hx]))
  omega
theorem Rr {w:World} {P:Nat->Prop} {f:Fr} {F:Fn} (h:Wz w P f F) (hn:okN f.nm/\f.pn<=2):(Ev F).length<=9200/\F.bd.nst+1<=10/\F.nm.length<=4/\F.ps.length<=2/\∀ p∈F.ps,p.length<=4:=by
 obtain⟨h1,h2,_,_,_,_,h7,_,h9,h10,h11,_⟩:=h
 have hp:∀ p∈F.ps,p.length<=4:=λ p hp=>(h7 p hp).len
 have hl:=Rl F.bd h9 1 (by omega)
 have hc:=Nh F.ps hp
 have hnm:=hn.1.len
 rw[h1] at hnm
 have hps:F.ps.length<=2:=by have:=hn.2;omega
 refine⟨?_,by omega,hnm,hps,hp⟩
 unfold Ev
 simp only[List.length_append,List.length_cons,List.length_nil]
 omega
theorem Zp.get2 {w:World} {P:Nat->Prop} {fs:List Fr} {Fs:List Fn} (h:Zp w P fs Fs) {j:Nat} {F:Fn} (hj:Fs[j]?=some F):∃ f,fs[j]?=some f/\Wz w P f F:=by
 have hl:=h.len
 have hlt:=(List.getElem?_eq_some_iff.1 hj).1
 obtain⟨F',e,hF⟩:=h.get (f:=fs[j]'(by omega)) (List.getElem?_eq_getElem (by omega))
 rw[hj] at e
 injection e with e
 subst e
 exact⟨_,List.getElem?_eq_getElem (by omega),hF⟩
theorem Uj.fmtF_le {w:World} {gs:List (Bt×Int)} {fs:List Fr} {Fs:List Fn} {aa ab:Option Addr} {ca cb:Nat} (h:Uj w gs fs Fs aa ca ab cb):∀ F∈Fs,(Ev F).length<=9200:=by
 intro F hF
 obtain⟨j,hj,e⟩:=List.mem_iff_getElem.1 hF
 obtain⟨f,hf,hFn⟩:=h.fns.get2 (j:=j) (F:=F) (by rw[List.getElem?_eq_getElem hj,e])
 exact(Rr hFn (h.fok f (List.mem_of_getElem? hf))).1
theorem Uj.len {w:World} {gs:List (Bt×Int)} {fs:List Fr} {Fs:List Fn} {aa ab:Option Addr} {ca cb:Nat} (h:Uj w gs fs Fs aa ca ab cb):(An gs Fs).length<=37000:=by
 have h1:=Gm Hr 40 gs (λ x hx=>Rn x (h.gok x hx))
 have h2:=Gm Ev 9200 Fs h.fmtF_le
 have h3:=h.fns.len
 have h4:=h.gn
 have h5:=h.f4
 have h6:gs.length*40<=4*40:=Nat.mul_le_mul_right _ h4
 have h7:Fs.length*9200<=4*9200:=Nat.mul_le_mul_right _ (by omega)
 unfold An
 rw[List.length_append]
 omega
def okM (nm:Bt):Prop:=∃ b r,nm=b::r/\lt8 b=true/\(∀ c∈r,in8 c=true)/\isW nm=false/\nm.length<=32
theorem okN.m {nm:Bt} (h:okN nm):okM nm:=by
 obtain⟨b,r,h1,h2,h3,h4,h5⟩:=h
 exact⟨b,r,h1,h2,h3,h4,by omega⟩
def okG (h:Hd) (ar:Fo):Prop :=
 h.op=0/\h.v=0/\((h.k=13/\okM h.nm/\ar=.nil)\/(h.k=12/\h.nm=[]/\ar=.nil)\/(h.k=11/\okM h.nm/\ar=.nil)\/(h.k=4/\okM h.nm/\ar.len=1) \/
  ((h.k=7\/h.k=8)/\h.nm=[]/\ar.len=2)\/(h.k=9/\okM h.nm)\/(h.k=10/\h.nm=[]/\∃ g bs r,ar=.cons g bs r)) \/
 (h.op=0/\h.k=1/\h.nm=[]/\0<=h.v/\h.v<=9223372036854775807/\ar=.nil) \/
 (h.v=0/\h.nm=[]/\((h.k=5/\1<=h.op/\h.op<=2/\ar.len=1)\/(h.k=6/\3<=h.op/\h.op<=11/\ar.len=2)))
theorem okH.g {h:Hd} {ar:Fo} (k:okH h ar):okG h ar:=by
 rcases k with⟨h1,h2,k⟩|k|k
 ·refine .inl ⟨h1,h2,?_⟩
  rcases k with⟨k,hn,e⟩|k|⟨k,hn,e⟩|⟨k,hn,e⟩|k|⟨k,hn,_⟩|⟨k,hn,g,bs,r,e,_⟩
  ·exact .inl ⟨k,hn.m,e⟩
  ·exact .inr (.inl k)
  ·exact .inr (.inr (.inl ⟨k,hn.m,e⟩))
  ·exact .inr (.inr (.inr (.inl ⟨k,hn.m,e⟩)))
  ·exact .inr (.inr (.inr (.inr (.inl k))))
  ·exact .inr (.inr (.inr (.inr (.inr (.inl ⟨k,hn.m⟩)))))
  exact .inr (.inr (.inr (.inr (.inr (.inr ⟨k,hn,g,bs,r,e⟩)))))
 ·exact .inr (.inl k)
 exact .inr (.inr k)
def Fo.wg:Fo->Prop
 | .nil=>True
 | .cons h ar r=>okG h ar/\ar.wg/\r.wg
theorem Fo.wf.g {F:Fo} (h:F.wf):F.wg:=by
 induction F with
 | nil=>trivial
 | cons hd ar r ih1 ih2=>exact⟨okH.g h.1,ih1 h.2.2.1,ih2 h.2.2.2⟩
abbrev Xt:=Int×Int×Bt
def Lx (s r:Bt) (ts:List Xt):Prop:=∀ (acc:List Tk) (ln:Int),∃ ys ln2,scF acc s ln=scF (acc++ys) r ln2/\unl ys=ts/\∀ x∈ys,Qb x
theorem Lx.refl (s:Bt):Lx s s []:=λ acc ln=>⟨[],ln,by simp,rfl,by simp⟩
theorem Lx.trans {s m r:Bt} {t1 t2:List Xt} (h:Lx s m t1) (k:Lx m r t2):Lx s r (t1++t2):=λ acc ln=>by
 obtain⟨ys,ln2,h1,h2,h3⟩:=h acc ln
 obtain⟨zs,ln3,k1,k2,k3⟩:=k (acc++ys) ln2
 refine⟨ys++zs,ln3,by rw[h1,k1,List.append_assoc],?_,?_⟩
 ·unfold unl at h2 k2 ⊢
  rw[List.map_append,h2,k2]
 intro x hx
 rw[List.mem_append] at hx
 rcases hx with hx|hx
 ·exact h3 x hx
 exact k3 x hx
theorem Lx.c32 {s r:Bt} {ts:List Xt} (h:Lx s r ts):Lx (32::s) r ts:=λ acc ln=>by rw[Hb];exact h acc ln
theorem Lx.c9 {s r:Bt} {ts:List Xt} (h:Lx s r ts):Lx (9::s) r ts:=λ acc ln=>by rw[Bl];exact h acc ln
theorem Lx.c10 {s r:Bt} {ts:List Xt} (h:Lx s r ts):Lx (10::s) r ts:=λ acc ln=>by rw[Wt];exact h acc (ln+1)
theorem Lx.tabs {s r:Bt} {ts:List Xt} (n:Nat) (h:Lx s r ts):Lx (tabs n++s) r ts:=by
 induction n with
 | zero=>exact h
 | succ n ih=>exact Lx.c9 ih
theorem Lx.tok {b:UInt8} {tt s r:Bt} {k v:Int} {ts:List Xt} (h1:b.toNat≠10) (h2:b.toNat≠32) (h3:b.toNat≠9) (h4:b.toNat≠35) (hn:nxI (b::(tt++s))=(k,v,b::tt,true)) (h:Lx s r ts) :
  Lx (b::(tt++s)) r ((k,v,b::tt)::ts):=λ acc ln=>by
 have hs:=Dy (ln:=ln) h1 h2 h3 h4 hn
 obtain⟨ys,ln2,e1,e2,e3⟩:=h (acc++[⟨k,ln,v,b::tt⟩]) ln
 refine⟨⟨k,ln,v,b::tt⟩::ys,ln2,?_,?_,?_⟩
 ·rw[Ws hs]
  show scF _ ((b::(tt++s)).drop (b::tt).length) ln=_
  rw[<- List.cons_append,List.drop_left,e1]
  simp
 ·unfold unl at e2 ⊢
  rw[List.map_cons,e2]
 intro x hx
 rw[List.mem_cons] at hx
 rcases hx with rfl|hx
 ·exact⟨ln,b,tt++s,hs⟩
 exact e3 x hx
def nb (r:Bt):Prop:=∀ c r2,r=c::r2->in8 c=false
theorem sg_b {b c:UInt8} (h:isS [b,c]=true):b=60\/b=61\/b=33\/b=38\/b=124:=by
 simp[isS,signsL] at h
 rcases h with⟨h,_⟩|⟨h,_⟩|⟨h,_⟩|⟨h,_⟩|⟨h,_⟩<;>simp[h]
theorem Ul {b:UInt8} {s:Bt} (h1:lt8 b=false) (h2:dg8 b=false) (hs:isS [b]=true) (h:∀ c r2,s=c::r2->isS [b,c]=false):nxI (b::s)=(4,0,[b],true):=by
 show (if lt8 b then _ else _)=_
 rw[if_neg (by rw[h1];simp),if_neg (by rw[h2];simp),if_neg]
 ·show (4,0,[b],isS [b])=_
  rw[hs]
 intro ⟨k1,k2⟩
 cases s with
 | nil=>simp at k1
 | cons c r2 =>
  have:=h c r2 rfl
  rw[show List.take 2 (b::c::r2)=[b,c] from rfl,this] at k2
  cases k2
theorem Lx.sg {b:UInt8} {s r:Bt} {ts:List Xt} (hb:b=40\/b=41\/b=123\/b=125\/b=91\/b=93\/b=44\/b=59) (h:Lx s r ts):Lx (b::s) r ((4,0,[b])::ts):=by
 have hn:nxI (b::s)=(4,0,[b],true):=Ul (by rcases hb with rfl|rfl|rfl|rfl|rfl|rfl|rfl|rfl<;>decide) (by rcases hb with rfl|rfl|rfl|rfl|rfl|rfl|rfl|rfl<;>decide) (by rcases hb with rfl|rfl|rfl|rfl|rfl|rfl|rfl|rfl<;>decide) (λ c r2 e=>by
  cases hh:isS [b,c] with
  | false=>rfl
  | true=>exact absurd (sg_b hh) (by rcases hb with rfl|rfl|rfl|rfl|rfl|rfl|rfl|rfl<;>decide))
 exact Lx.tok (tt:=[]) (by rcases hb with rfl|rfl|rfl|rfl|rfl|rfl|rfl|rfl<;>decide) (by rcases hb with rfl|rfl|rfl|rfl|rfl|rfl|rfl|rfl<;>decide) (by rcases hb with rfl|rfl|rfl|rfl|rfl|rfl|rfl|rfl<;>decide) (by rcases hb with rfl|rfl|rfl|rfl|rfl|rfl|rfl|rfl<;>decide) hn h
theorem Lx.sgB {t s r:Bt} {ts:List Xt} (ht:isS t=true) (h:Lx s r ts):Lx (t++(32::s)) r ((4,0,t)::ts):=by
 have hqs:t∈signsL:=by unfold isS at ht;simpa using ht
 have key:∃ b tt,t=b::tt/\b.toNat≠10/\b.toNat≠32/\b.toNat≠9/\b.toNat≠35/\nxI (b::(tt++(32::s)))=(4,0,b::tt,true):=by
  simp only[signsL,List.mem_cons,List.not_mem_nil,or_false] at hqs
  rcases hqs with rfl|rfl|rfl|rfl|rfl|rfl|rfl|rfl|rfl|rfl|rfl|rfl|rfl|rfl|rfl|rfl|rfl|rfl|rfl|rfl|rfl|rfl <;>
   first
   | exact⟨_,[],rfl,by decide,by decide,by decide,by decide,Ul (by decide) (by decide) (by decide) (λ c r2 e=>by injection e with e _;subst e;decide)⟩
   | exact⟨_,[_],rfl,by decide,by decide,by decide,by decide,rfl⟩
 obtain⟨b,tt,rfl,h1,h2,h3,h4,hn⟩:=key
 exact Lx.tok h1 h2 h3 h4 hn (Lx.c32 h)
theorem Dc {b:UInt8} {t s:Bt} (hb:lt8 b=true) (ht:∀ c∈t,in8 c=true) (hl:(b::t).length<=32) (hs:nb s):nxI (b::(t++s))=(if isW (b::t) then 3 else 1,0,b::t,true):=by
 have hin:in8 b=true:=by unfold in8;rw[hb];rfl
 have hjl:run in8 (b::(t++s))=b::t:=by
  rw[<- List.cons_append,Ju (λ c hc=>by rw[List.mem_cons] at hc;rcases hc with rfl|hc;exact hin;exact ht c hc),Qc hs,List.append_nil]
 show (if lt8 b then _ else _)=_
 rw[if_pos hb]
 show (if isW (run in8 (b::(t++s))) then 3 else 1,0,run in8 (b::(t++s)),decide ((run in8 (b::(t++s))).length<=32))=_
 rw[hjl,decide_eq_true hl]
theorem Hl {b:UInt8} (h:in8 b=true):b.toNat≠10/\b.toNat≠32/\b.toNat≠9/\b.toNat≠35/\b.toNat≠61/\b.toNat≠38/\b.toNat≠124:=by
 unfold in8 lt8 dg8 at h
 simp at h
 omega
theorem Hn {b:UInt8} (h:lt8 b=true):in8 b=true:=by unfold in8;rw[h];rfl
theorem Lx.name {nm s r:Bt} {ts:List Xt} (hn:okM nm) (hs:nb s) (h:Lx s r ts):Lx (nm++s) r ((1,0,nm)::ts):=by
 obtain⟨b,t,rfl,h1,h2,h3,h4⟩:=hn
 have e:=Dc (s:=s) h1 h2 (by omega) hs
 rw[h3] at e
 obtain⟨q1,q2,q3,q4,_⟩:=Hl (Hn h1)
 exact Lx.tok q1 q2 q3 q4 e h
theorem Lx.word {w s r:Bt} {ts:List Xt} (hw:isW w=true) (hs:nb s) (h:Lx s r ts):Lx (w++s) r ((3,0,w)::ts):=by
 have hqs:w∈wordsL:=by unfold isW at hw;simpa using hw
 have key:∃ b t,w=b::t/\lt8 b=true/\(∀ c∈t,in8 c=true)/\(b::t).length<=32:=by
  simp only[wordsL,List.mem_cons,List.not_mem_nil,or_false] at hqs
  rcases hqs with rfl|rfl|rfl|rfl|rfl|rfl|rfl|rfl|rfl|rfl<;>exact⟨_,_,rfl,by decide,by decide,by decide⟩
 obtain⟨b,t,rfl,h1,h2,h3⟩:=key
 have e:=Dc (s:=s) h1 h2 h3 hs
 rw[hw] at e
 obtain⟨q1,q2,q3,q4,_⟩:=Hl (Hn h1)
 exact Lx.tok q1 q2 q3 q4 e h
theorem Dl (n:Nat):Kr (Lib.decDigits n)/\Zb (Lib.decDigits n)=n:=by
 induction n using Nat.strongRecOn with
 | _ n ih =>
  rw[Lib.decDigits]
  split
  ·rename_i h
   have e:(UInt8.ofNat (48+n)).toNat=48+n:=by simp;omega
   refine⟨?_,?_⟩
   ·intro c hc
    rw[List.mem_singleton] at hc
    subst hc
    omega
   show Jd 0 [_]=n
   rw[Uw,Kf,e];omega
  rename_i h
  obtain⟨h1,h2⟩:=ih (n/10) (by omega)
  have e:(UInt8.ofNat (48+n%10)).toNat=48+n%10:=by simp;omega
  refine⟨?_,?_⟩
  ·intro c hc
   rw[List.mem_append,List.mem_singleton] at hc
   rcases hc with hc|rfl
   ·exact h1 c hc
   omega
  show Jd 0 (_++[_])=n
  rw[Vy,show Jd 0 (Lib.decDigits (n/10))=n/10 from h2,e];omega
theorem Sv (n:Nat):∃ c r,Lib.decDigits n=c::r/\dg8 c=true:=by
 obtain⟨h1,_⟩:=Dl n
 cases h:Lib.decDigits n with
 | nil =>
  rw[Lib.decDigits] at h
  split at h<;>simp at h
 | cons c r =>
  rw[h] at h1
  exact⟨c,r,rfl,by have:=h1 c (by simp);unfold dg8;simp;exact this⟩
theorem Lx.num {n:Nat} {s r:Bt} {ts:List Xt} (hn:n<=9223372036854775807) (hs:nb s) (h:Lx s r ts):Lx (Lib.decDigits n++s) r ((2,n,Lib.decDigits n)::ts):=by
 obtain⟨h1,h2⟩:=Dl n
 obtain⟨c,t,hc,hd⟩:=Sv n
 have hqq:∀ x∈Lib.decDigits n,dg8 x=true:=λ x hx=>by have:=h1 x hx;unfold dg8;simp;exact this
 have hsd:∀ c r2,s=c::r2->dg8 c=false:=λ c r2 e=>by
  have:=hs c r2 e
  unfold in8 at this
  cases hh:dg8 c with
  | false=>rfl
  | true=>rw[hh] at this;simp at this
 have hjl:run dg8 (Lib.decDigits n++s)=Lib.decDigits n:=by rw[Ju hqq,Qc hsd,List.append_nil]
 have hzf:run in8 (Lib.decDigits n++s)=Lib.decDigits n:=by rw[Ju (λ x hx=>Sx (hqq x hx)),Qc hs,List.append_nil]
 have ha:Lib.atoiAll (Lib.decDigits n)=.ok (n:Int):=by
  rw[Gh _ h1 (by rw[hc];simp),h2,if_pos (by omega)]
 have hlt:lt8 c=false:=by
  cases hh:lt8 c with
  | false=>rfl
  | true =>
   unfold dg8 at hd
   unfold lt8 at hh
   simp at hd hh
   omega
 have e:=Ub (b:=c) (r:=t++s) hlt hd
 rw[<- List.cons_append,<- hc,hjl,hzf,ha] at e
 have e2:nxI (Lib.decDigits n++s)=(2,(n:Int),Lib.decDigits n,true):=by
  rw[e]
  simp[Lib.itoa_nonneg]
 rw[hc,List.cons_append] at e2
 rw[hc,List.cons_append]
 obtain⟨q1,q2,q3,q4,_⟩:=Hl (Sx hd)
 exact Lx.tok q1 q2 q3 q4 e2 h
def Yz:List Xt->Nat
 | []=>0
 | x::l=>x.2.2.length+20+Yz l
theorem Yx (a b:List Xt):Yz (a++b)=Yz a+Yz b:=by
 induction a with
 | nil=>simp[Yz]
 | cons x a ih=>simp only[List.cons_append,Yz,ih];omega
theorem Mw (l:List Tk):Yz (unl l)=Yc 20 l:=by
 induction l with
 | nil=>rfl
 | cons x l ih =>
  unfold unl at ih ⊢
  simp only[List.map_cons,Yz,Yc,ih]
abbrev sgX (t:Bt):Xt:=(4,0,t)
abbrev wdX (t:Bt):Xt:=(3,0,t)
abbrev nmX (t:Bt):Xt:=(1,0,t)
def Jf (s:List Xt):List Xt:=sgX [40]::(s++[sgX [41]])
def Yr (h:Hd) (s:List Xt):List Xt:=if Qh h=true then Jf s else s
def commX:List (List Xt)->List Xt
 | []=>[]
 | [s]=>s
 | s::r=>s++(sgX [44]::commX r)
def Zl (ss:List (List Xt)):List Xt:=Jf (commX ss)
def Yg (h:Hd) (os:List (Hd×List Xt)):List Xt :=
 if h.k=1 then [(2,h.v,Lib.decDigits h.v.toNat)]
 else if h.k=13\/h.k=2\/h.k=3 then [nmX h.nm]
 else if h.k=12 then [wdX [114,101,97,100]]
 else if h.k=11 then [sgX [38],nmX h.nm]
 else if h.k=4 then (match os with|[a]=>nmX h.nm::sgX [91]::(a.2++[sgX [93]])|_=>[])
 else if h.k=5 then (match os with|[a]=>sgX (sgn h.op)::Yr a.1 a.2|_=>[])
 else if h.k=6 then (match os with|[a,b]=>Yr a.1 a.2++(sgX (sgn h.op)::Yr b.1 b.2)|_=>[])
 else if h.k=7 then (match os with|[a,b]=>Yr a.1 a.2++(sgX [38,38]::Yr b.1 b.2)|_=>[])
 else if h.k=8 then (match os with|[a,b]=>Yr a.1 a.2++(sgX [124,124]::Yr b.1 b.2)|_=>[])
 else if h.k=9 then nmX h.nm::Zl (os.map (·.2))
 else if h.k=10 then (match os with|a::r=>(if a.1.k=13\/a.1.k=2\/a.1.k=3 then Jf (Yr a.1 a.2) else Yr a.1 a.2)++Zl (r.map (·.2))|[]=>[])
 else []
def Yn:Fo->List (Hd×List Xt)
 | .nil=>[]
 | .cons h ar r=>(h,Yg h (Yn ar))::Yn r
abbrev Yw (h:Hd) (ar:Fo):List Xt:=Yg h (Yn ar)
theorem Mc (F:Fo) (j:Nat) (x:Hd×Fo) (h:F.get j=some x):(Yn F)[j]?=some (x.1,Yw x.1 x.2):=by
 induction F generalizing j with
 | nil=>cases h
 | cons hd ar r _ ih =>
  cases j with
  | zero =>
   have e:(hd,ar)=x:=by injection h
   subst e;rfl
  | succ j=>exact ih j h
def hd1 (s:Bt):Prop:=∃ c r,s=c::r/\c≠61
def LxE (h:Hd) (ar:Fo):Prop:=(∀ s r ts,nb s->Lx s r ts->Lx (Xn h ar++s) r (Yw h ar++ts))/\hd1 (Xn h ar)
theorem Zx {c:UInt8} {s:Bt} (h:in8 c=false):nb (c::s):=λ d r2 e=>by injection e with e _;subst e;exact h
theorem LxE.opr {h:Hd} {ar:Fo} (k:LxE h ar):(∀ s r ts,nb s->Lx s r ts->Lx (opd h (Xn h ar)++s) r (Yr h (Yw h ar)++ts))/\hd1 (opd h (Xn h ar)):=by
 unfold Go.Proofs.YtldgghnjminhiaaGreatDoor.opd Yr
 by_cases hc:Qh h=true
 ·rw[if_pos hc,if_pos hc]
  refine⟨λ s r ts hs hx=>?_,40,_,rfl,by decide⟩
  unfold Zq Jf
  simp only[List.cons_append,List.append_assoc,List.nil_append]
  exact Lx.sg (by simp) (k.1 _ _ _ (Zx (by decide)) (Lx.sg (by simp) hx))
 rw[if_neg hc,if_neg hc]
 exact k
theorem LxE.par {h:Hd} {ar:Fo} (k:LxE h ar) {s r:Bt} {ts:List Xt} (hx:Lx s r ts):Lx (Zq (Go.Proofs.YtldgghnjminhiaaGreatDoor.opd h (Xn h ar))++s) r (Jf (Yr h (Yw h ar))++ts):=by
 unfold Zq Jf
 simp only[List.cons_append,List.append_assoc,List.nil_append]
 exact Lx.sg (by simp) (k.opr.1 _ _ _ (Zx (by decide)) (Lx.sg (by simp) hx))
theorem Lx.comm (F:Fo) (hF:∀ j x,F.get j=some x->LxE x.1 x.2):∀ s r ts,nb s->Lx s r ts->Lx (comm ((Yk F).map (·.2))++s) r (commX ((Yn F).map (·.2))++ts):=by
 induction F with
 | nil=>intro s r ts _ hx;exact hx
 | cons h ar R _ ih =>
  intro s r ts hs hx
  have h0:=hF 0 (h,ar) rfl
  have ih:=ih (λ j x hj=>hF (j+1) x hj)
  cases R with
  | nil=>exact h0.1 _ _ _ hs hx
  | cons h2 ar2 R2 =>
   show Lx ((Xn h ar++([44,32]++Go.Proofs.YtldgghnjminhiaaGreatDoor.comm ((Yk (.cons h2 ar2 R2)).map (·.2))))++s) r ((Yw h ar++(sgX [44]::commX ((Yn (.cons h2 ar2 R2)).map (·.2))))++ts)
   simp only[List.append_assoc,List.cons_append,List.nil_append]
   exact h0.1 _ _ _ (Zx (by decide)) (Lx.sg (by simp) (Lx.c32 (ih s r ts hs hx)))
theorem Lx.list (F:Fo) (hF:∀ j x,F.get j=some x->LxE x.1 x.2) {s r:Bt} {ts:List Xt} (hx:Lx s r ts):Lx (Zc ((Yk F).map (·.2))++s) r (Zl ((Yn F).map (·.2))++ts):=by
 unfold Zc Zl Zq Jf
 simp only[List.cons_append,List.append_assoc,List.nil_append]
 exact Lx.sg (by simp) (Lx.comm F hF _ _ _ (Zx (by decide)) (Lx.sg (by simp) hx))
theorem hd1.app {s t:Bt} (h:hd1 s):hd1 (s++t):=by
 obtain⟨c,r,rfl,h⟩:=h
 exact⟨c,r++t,rfl,h⟩
theorem okM.hd {nm:Bt} (h:okM nm):hd1 nm:=by
 obtain⟨b,t,rfl,h1,_⟩:=h
 exact⟨b,t,rfl,λ e=>by subst e;exact absurd h1 (by decide)⟩
theorem okM.amp {nm s:Bt} (h:okM nm):∀ c r2,nm++s=c::r2->isS [38,c]=false:=by
 obtain⟨b,t,rfl,h1,_⟩:=h
 intro c r2 e
 rw[List.cons_append] at e
 injection e with e _
 subst e
 cases hh:isS [38,b] with
 | false=>rfl
 | true =>
  have:=Df hh
  rcases this with rfl|rfl|rfl<;>exact absurd h1 (by decide)
theorem hd1.un {s t:Bt} {b:UInt8} (hb:b=45\/b=33) (h:hd1 s):∀ c r2,s++t=c::r2->isS [b,c]=false:=by
 obtain⟨d,r,rfl,hd⟩:=h
 intro c r2 e
 rw[List.cons_append] at e
 injection e with e _
 subst e
 cases hh:isS [b,d] with
 | false=>rfl
 | true =>
  simp[isS,signsL] at hh
  rcases hb with rfl|rfl
  ·simp at hh
  simp at hh;exact absurd hh hd
theorem Fm {op:Int} (h3:3<=op) (h11:op<=11):isS (sgn op)=true:=by
 have:op=3\/op=4\/op=5\/op=6\/op=7\/op=8\/op=9\/op=10\/op=11:=by omega
 rcases this with rfl|rfl|rfl|rfl|rfl|rfl|rfl|rfl|rfl<;>decide
theorem Cw {op:Int} (h3:1<=op) (h11:op<=2):∃ b,sgn op=[b]/\(b=45\/b=33):=by
 have:op=1\/op=2:=by omega
 rcases this with rfl|rfl
 ·exact⟨45,rfl,.inl rfl⟩
 exact⟨33,rfl,.inr rfl⟩
theorem Fo.one {F:Fo} (h:F.len=1):∃ x:Hd×Fo,F.get 0=some x/\Yk F=[(x.1,Xn x.1 x.2)]/\Yn F=[(x.1,Yw x.1 x.2)]:=by
 cases F with
 | nil=>simp[Fo.len] at h
 | cons h1 a1 r =>
  cases r with
  | nil=>exact⟨(h1,a1),rfl,rfl,rfl⟩
  | cons h2 a2 r=>simp[Fo.len] at h
theorem Fo.two {F:Fo} (h:F.len=2):∃ x y:Hd×Fo,F.get 0=some x/\F.get 1=some y/\Yk F=[(x.1,Xn x.1 x.2),(y.1,Xn y.1 y.2)]/\Yn F=[(x.1,Yw x.1 x.2),(y.1,Yw y.1 y.2)]:=by
 cases F with
 | nil=>simp[Fo.len] at h
 | cons h1 a1 r =>
  cases r with
  | nil=>simp[Fo.len] at h
  | cons h2 a2 r =>
   cases r with
   | nil=>exact⟨(h1,a1),(h2,a2),rfl,rfl,rfl,rfl⟩
   | cons h3 a3 r=>simp[Fo.len] at h
theorem LxE.one (h:Hd) (ar:Fo) (hok:okG h ar) (hF:∀ j x,ar.get j=some x->LxE x.1 x.2):LxE h ar:=by
 rcases hok with⟨_,_,k⟩|⟨_,k,_,k0,k1,_⟩|⟨_,_,k⟩
 ·rcases k with⟨k,hn,_⟩|⟨k,_⟩|⟨k,hn,_⟩|⟨k,hn,hl⟩|⟨k,_,hl⟩|⟨k,hn⟩|⟨k,_,g,bs,r0,rfl⟩
  ·have e1:Xn h ar=h.nm:=by show Xs h _=_;unfold Xs;simp[k]
   have e2:Yw h ar=[nmX h.nm]:=by show Yg h _=_;unfold Yg;simp[k]
   refine⟨λ s r ts hs hx=>?_,by rw[e1];exact hn.hd⟩
   rw[e1,e2]
   exact Lx.name hn hs hx
  ·have e1:Xn h ar=[114,101,97,100]:=by show Xs h _=_;unfold Xs;simp[k]
   have e2:Yw h ar=[wdX [114,101,97,100]]:=by show Yg h _=_;unfold Yg;simp[k]
   refine⟨λ s r ts hs hx=>?_,by rw[e1];exact⟨_,_,rfl,by decide⟩⟩
   rw[e1,e2]
   exact Lx.word (by decide) hs hx
  ·have e1:Xn h ar=38::h.nm:=by show Xs h _=_;unfold Xs;simp[k]
   have e2:Yw h ar=[sgX [38],nmX h.nm]:=by show Yg h _=_;unfold Yg;simp[k]
   refine⟨λ s r ts hs hx=>?_,by rw[e1];exact⟨_,_,rfl,by decide⟩⟩
   rw[e1,e2]
   exact Lx.tok (tt:=[]) (by decide) (by decide) (by decide) (by decide) (Ul (by decide) (by decide) (by decide) hn.amp) (Lx.name hn hs hx)
  ·obtain⟨x,hx0,f1,t1⟩:=Fo.one hl
   have e1:Xn h ar=h.nm++([91]++(Xn x.1 x.2++[93])):=by show Xs h _=_;rw[f1];unfold Xs;simp[k]
   have e2:Yw h ar=nmX h.nm::sgX [91]::(Yw x.1 x.2++[sgX [93]]):=by show Yg h _=_;rw[t1];unfold Yg;simp[k]
   refine⟨λ s r ts hs hx=>?_,by rw[e1];exact hn.hd.app⟩
   rw[e1,e2]
   simp only[List.append_assoc,List.cons_append,List.nil_append]
   exact Lx.name hn (Zx (by decide)) (Lx.sg (by simp) ((hF 0 x hx0).1 _ _ _ (Zx (by decide)) (Lx.sg (by simp) hx)))
  ·obtain⟨x,y,hx0,hy0,f1,t1⟩:=Fo.two hl
   rcases k with k|k
   ·have e1:Xn h ar=opd x.1 (Xn x.1 x.2)++([32,38,38,32]++opd y.1 (Xn y.1 y.2)):=by show Xs h _=_;rw[f1];unfold Xs;simp[k]
    have e2:Yw h ar=Yr x.1 (Yw x.1 x.2)++(sgX [38,38]::Yr y.1 (Yw y.1 y.2)):=by show Yg h _=_;rw[t1];unfold Yg;simp[k]
    refine⟨λ s r ts hs hx=>?_,by rw[e1];exact(hF 0 x hx0).opr.2.app⟩
    rw[e1,e2]
    simp only[List.append_assoc,List.cons_append,List.nil_append]
    exact(hF 0 x hx0).opr.1 _ _ _ (Zx (by decide)) (Lx.c32 (Lx.sgB (t:=[38,38]) (by decide) ((hF 1 y hy0).opr.1 _ _ _ hs hx)))
   have e1:Xn h ar=opd x.1 (Xn x.1 x.2)++([32,124,124,32]++opd y.1 (Xn y.1 y.2)):=by show Xs h _=_;rw[f1];unfold Xs;simp[k]
   have e2:Yw h ar=Yr x.1 (Yw x.1 x.2)++(sgX [124,124]::Yr y.1 (Yw y.1 y.2)):=by show Yg h _=_;rw[t1];unfold Yg;simp[k]
   refine⟨λ s r ts hs hx=>?_,by rw[e1];exact(hF 0 x hx0).opr.2.app⟩
   rw[e1,e2]
   simp only[List.append_assoc,List.cons_append,List.nil_append]
   exact(hF 0 x hx0).opr.1 _ _ _ (Zx (by decide)) (Lx.c32 (Lx.sgB (t:=[124,124]) (by decide) ((hF 1 y hy0).opr.1 _ _ _ hs hx)))
  ·have e1:Xn h ar=h.nm++Zc ((Yk ar).map (·.2)):=by show Xs h _=_;unfold Xs;simp[k]
   have e2:Yw h ar=nmX h.nm::Zl ((Yn ar).map (·.2)):=by show Yg h _=_;unfold Yg;simp[k]
   refine⟨λ s r ts hs hx=>?_,by rw[e1];exact hn.hd.app⟩
   rw[e1,e2]
   simp only[List.append_assoc,List.cons_append,List.nil_append]
   exact Lx.name hn (Zx (by decide)) (Lx.list ar hF hx)
  have h0:=hF 0 (g,bs) rfl
  by_cases hk:g.k=13\/g.k=2\/g.k=3
  ·have e1:Xn h (.cons g bs r0)=Zq (opd g (Xn g bs))++Zc ((Yk r0).map (·.2)):=by show Xs h ((g,Xn g bs)::Yk r0)=_;unfold Xs;simp[k,hk]
   have e2:Yw h (.cons g bs r0)=Jf (Yr g (Yw g bs))++Zl ((Yn r0).map (·.2)):=by show Yg h ((g,Yw g bs)::Yn r0)=_;unfold Yg;simp[k,hk]
   refine⟨λ s r ts hs hx=>?_,by rw[e1];exact hd1.app ⟨40,_,rfl,by decide⟩⟩
   rw[e1,e2]
   simp only[List.append_assoc]
   exact h0.par (Lx.list r0 (λ j y hy=>hF (j+1) y hy) hx)
  have e1:Xn h (.cons g bs r0)=opd g (Xn g bs)++Zc ((Yk r0).map (·.2)):=by show Xs h ((g,Xn g bs)::Yk r0)=_;unfold Xs;simp[k,hk]
  have e2:Yw h (.cons g bs r0)=Yr g (Yw g bs)++Zl ((Yn r0).map (·.2)):=by show Yg h ((g,Yw g bs)::Yn r0)=_;unfold Yg;simp[k,hk]
  refine⟨λ s r ts hs hx=>?_,by rw[e1];exact h0.opr.2.app⟩
  rw[e1,e2]
  simp only[List.append_assoc]
  exact h0.opr.1 _ _ _ (Zx (by decide)) (Lx.list r0 (λ j y hy=>hF (j+1) y hy) hx)
 ·have e1:Xn h ar=Lib.decDigits h.v.toNat:=by show Xs h _=_;unfold Xs;simp[k]
  have e2:Yw h ar=[(2,h.v,Lib.decDigits h.v.toNat)]:=by show Yg h _=_;unfold Yg;simp[k]
  obtain⟨z,hz⟩:∃ z:Nat,h.v=z:=Int.eq_ofNat_of_zero_le k0
  rw[hz] at e1 e2 k1
  rw[Int.toNat_natCast] at e1 e2
  refine⟨λ s r ts hs hx=>?_,?_⟩
  ·rw[e1,e2]
   exact Lx.num (by omega) hs hx
  rw[e1]
  obtain⟨c,r,hc,hd⟩:=Sv z
  exact⟨c,r,hc,λ e=>by subst e;exact absurd hd (by decide)⟩
 rcases k with⟨k,o1,o2,hl⟩|⟨k,o1,o2,hl⟩
 ·obtain⟨x,hx0,f1,t1⟩:=Fo.one hl
  obtain⟨b,hb,hbb⟩:=Cw o1 o2
  have h0:=(hF 0 x hx0).opr
  have e1:Xn h ar=b::opd x.1 (Xn x.1 x.2):=by show Xs h _=_;rw[f1];unfold Xs;simp[k,hb]
  have e2:Yw h ar=sgX [b]::Yr x.1 (Yw x.1 x.2):=by show Yg h _=_;rw[t1];unfold Yg;simp[k,hb]
  refine⟨λ s r ts hs hx=>?_,by rw[e1];exact⟨b,_,rfl,by rcases hbb with rfl|rfl<;>decide⟩⟩
  rw[e1,e2]
  simp only[List.cons_append]
  exact Lx.tok (tt:=[]) (by rcases hbb with rfl|rfl<;>decide) (by rcases hbb with rfl|rfl<;>decide) (by rcases hbb with rfl|rfl<;>decide) (by rcases hbb with rfl|rfl<;>decide)
   (Ul (s:=opd x.1 (Xn x.1 x.2)++s) (by rcases hbb with rfl|rfl<;>decide) (by rcases hbb with rfl|rfl<;>decide) (by rcases hbb with rfl|rfl<;>decide) (h0.2.un hbb)) (h0.1 _ _ _ hs hx)
 obtain⟨x,y,hx0,hy0,f1,t1⟩:=Fo.two hl
 have e1:Xn h ar=opd x.1 (Xn x.1 x.2)++([32]++(sgn h.op++([32]++opd y.1 (Xn y.1 y.2)))):=by show Xs h _=_;rw[f1];unfold Xs;simp[k]
 have e2:Yw h ar=Yr x.1 (Yw x.1 x.2)++(sgX (sgn h.op)::Yr y.1 (Yw y.1 y.2)):=by show Yg h _=_;rw[t1];unfold Yg;simp[k]
 refine⟨λ s r ts hs hx=>?_,by rw[e1];exact(hF 0 x hx0).opr.2.app⟩
 rw[e1,e2]
 simp only[List.append_assoc,List.cons_append,List.nil_append]
 exact(hF 0 x hx0).opr.1 _ _ _ (Zx (by decide)) (Lx.c32 (Lx.sgB (Fm o1 o2) ((hF 1 y hy0).opr.1 _ _ _ hs hx)))
theorem LxE.all (F:Fo) (hw:F.wg):∀ j x,F.get j=some x->LxE x.1 x.2:=by
 induction F with
 | nil=>intro j x hx;cases hx
 | cons h ar r ih1 ih2 =>
  intro j x hx
  cases j with
  | zero =>
   have e:(h,ar)=x:=by injection hx
   subst e
   exact LxE.one h ar hw.1 (ih1 hw.2.1)
  | succ j=>exact ih2 hw.2.2 j x hx
def Jc (xs:Fo) (i:Nat):List Xt:=match (Yn xs)[i]? with|some a=>a.2|none=>[]
def Wv:Sf->List Xt
 | .nil=>[]
 | .cons k _ nm xs th el r =>
  (if k=1 then wdX [118,97,114]::nmX nm::sgX [61]::(Jc xs 0++[sgX [59]])
   else if k=2 then nmX nm::sgX [61]::(Jc xs 0++[sgX [59]])
   else if k=3 then nmX nm::sgX [91]::(Jc xs 0++(sgX [93]::sgX [61]::(Jc xs 1++[sgX [59]])))
   else if k=6 then wdX [114,101,116,117,114,110]::(Jc xs 0++[sgX [59]])
   else if k=7 then wdX [112,114,105,110,116]::(Jc xs 0++[sgX [59]])
   else if k=8 then wdX [99,97,108,108]::(Jc xs 0++[sgX [59]])
   else if k=5 then wdX [119,104,105,108,101]::(Jc xs 0++(sgX [123]::(Wv th++[sgX [125]])))
   else if k=4 then wdX [105,102]::(Jc xs 0++(sgX [123]::(Wv th++(sgX [125] ::
    (if el.len=0 then [] else wdX [101,108,115,101]::sgX [123]::(Wv el++[sgX [125]]))))))
   else [])++Wv r
theorem Dk (xs:Fo) (hw:xs.wf) (i:Nat) (hi:i<xs.len) {s r:Bt} {ts:List Xt} (hs:nb s) (hx:Lx s r ts):Lx (Qq xs i++s) r (Jc xs i++ts):=by
 obtain⟨x,hg⟩:=Fo.get_lt hi
 unfold Qq Jc
 rw[Zf xs i x hg,Mc xs i x hg]
 exact(LxE.all xs hw.g i x hg).1 s r ts hs hx
theorem Al (S:Sf) (hw:S.wf):∀ (n:Nat) (s r:Bt) (ts:List Xt),Lx s r ts->Lx (Up S n++s) r (Wv S++ts):=by
 induction S with
 | nil=>intro n s r ts hx;exact hx
 | cons k ln nm xs th el R ih1 ih2 ih3 =>
  intro n s r ts hx
  obtain⟨hok,_,hxs,ht,he,hr⟩:=hw
  have i1:=ih1 ht
  have i2:=ih2 he
  have i3:=Lx.c10 (ih3 hr n s r ts hx)
  have v0:0<xs.len->∀ {s r:Bt} {ts:List Xt},nb s->Lx s r ts->Lx (Qq xs 0++s) r (Jc xs 0++ts):=λ h=>λ hs hx=>Dk xs hxs 0 h hs hx
  have v1:1<xs.len->∀ {s r:Bt} {ts:List Xt},nb s->Lx s r ts->Lx (Qq xs 1++s) r (Jc xs 1++ts):=λ h=>λ hs hx=>Dk xs hxs 1 h hs hx
  have n32:∀ s:Bt,nb (32::s):=λ s=>Zx (by decide)
  have n59:∀ s:Bt,nb (59::s):=λ s=>Zx (by decide)
  have n91:∀ s:Bt,nb (91::s):=λ s=>Zx (by decide)
  have n93:∀ s:Bt,nb (93::s):=λ s=>Zx (by decide)
  have s59:∀ {s r:Bt} {ts:List Xt},Lx s r ts->Lx (59::s) r (sgX [59]::ts):=λ h=>Lx.sg (by simp) h
  have s91:∀ {s r:Bt} {ts:List Xt},Lx s r ts->Lx (91::s) r (sgX [91]::ts):=λ h=>Lx.sg (by simp) h
  have s93:∀ {s r:Bt} {ts:List Xt},Lx s r ts->Lx (93::s) r (sgX [93]::ts):=λ h=>Lx.sg (by simp) h
  have s123:∀ {s r:Bt} {ts:List Xt},Lx s r ts->Lx (123::s) r (sgX [123]::ts):=λ h=>Lx.sg (by simp) h
  have s125:∀ {s r:Bt} {ts:List Xt},Lx s r ts->Lx (125::s) r (sgX [125]::ts):=λ h=>Lx.sg (by simp) h
  have s61:∀ {s r:Bt} {ts:List Xt},Lx s r ts->Lx (61::32::s) r (sgX [61]::ts):=λ h=>Lx.sgB (t:=[61]) (by decide) h
  rw[Wg]
  unfold Dr Wv
  rcases hok with⟨hk,hn,hl,_⟩|⟨hk,hn,hl,_⟩|⟨hk,hn,hl⟩|⟨hk,hn,hl,_⟩|⟨hk,hn,hl,_⟩|⟨hk,hn,_,_,hh,har,hl,_⟩
  ·rcases hk with hk|hk
   ·simp[hk,List.append_assoc]
    exact Lx.tabs n (Lx.word (w:=[118,97,114]) (by decide) (n32 _) (Lx.c32 (Lx.name hn.m (n32 _) (Lx.c32 (s61 (v0 (by omega) (n59 _) (s59 i3)))))))
   simp[hk,List.append_assoc]
   exact Lx.tabs n (Lx.name hn.m (n32 _) (Lx.c32 (s61 (v0 (by omega) (n59 _) (s59 i3)))))
  ·simp[hk,List.append_assoc]
   exact Lx.tabs n (Lx.name hn.m (n91 _) (s91 (v0 (by omega) (n93 _) (s93 (Lx.c32 (s61 (v1 (by omega) (n59 _) (s59 i3))))))))
  ·by_cases hz:el.len=0
   ·simp[hk,hz,List.append_assoc]
    exact Lx.tabs n (Lx.word (w:=[105,102]) (by decide) (n32 _) (Lx.c32 (v0 (by omega) (n32 _) (Lx.c32 (s123 (Lx.c10 (i1 (n+1) _ _ _ (Lx.tabs n (s125 i3)))))))))
   simp[hk,hz,List.append_assoc]
   exact Lx.tabs n (Lx.word (w:=[105,102]) (by decide) (n32 _) (Lx.c32 (v0 (by omega) (n32 _) (Lx.c32 (s123 (Lx.c10 (i1 (n+1) _ _ _ (Lx.tabs n (s125 (Lx.c32 (Lx.word (w:=[101,108,115,101]) (by decide) (n32 _) (Lx.c32 (s123 (Lx.c10 (i2 (n+1) _ _ _ (Lx.tabs n (s125 i3)))))))))))))))))
  ·simp[hk,List.append_assoc]
   exact Lx.tabs n (Lx.word (w:=[119,104,105,108,101]) (by decide) (n32 _) (Lx.c32 (v0 (by omega) (n32 _) (Lx.c32 (s123 (Lx.c10 (i1 (n+1) _ _ _ (Lx.tabs n (s125 i3)))))))))
  ·rcases hk with hk|hk
   ·simp[hk,List.append_assoc]
    exact Lx.tabs n (Lx.word (w:=[114,101,116,117,114,110]) (by decide) (n32 _) (Lx.c32 (v0 (by omega) (n59 _) (s59 i3))))
   simp[hk,List.append_assoc]
   exact Lx.tabs n (Lx.word (w:=[112,114,105,110,116]) (by decide) (n32 _) (Lx.c32 (v0 (by omega) (n59 _) (s59 i3))))
  have hl1:0<xs.len:=by rw[hl];simp[Fo.len]
  simp[hk,List.append_assoc]
  exact Lx.tabs n (Lx.word (w:=[99,97,108,108]) (by decide) (n32 _) (Lx.c32 (v0 hl1 (n59 _) (s59 i3))))
def Jm:List (Hd×List Xt)->Nat
 | []=>0
 | a::r=>Yz a.2+Jm r
theorem Qy (h:Hd) (s:List Xt):Yz (Yr h s)<=Yz s+42:=by
 unfold Yr Jf
 split
 ·simp[Yz,Yx];omega
 omega
theorem Wf (os:List (Hd×List Xt)):Yz (commX (os.map (·.2)))<=Jm os+21*(os.length-1):=by
 induction os with
 | nil=>simp[commX,Yz]
 | cons a r ih =>
  cases r with
  | nil=>simp[commX,Jm]
  | cons b r =>
   show Yz (a.2++(sgX [44]::commX ((b::r).map (λ (x:Hd×List Xt)=>x.2))))<=Yz a.2+Jm (b::r)+21*((b::r).length+1-1)
   rw[Yx]
   simp only[List.length_cons,Yz,List.length_nil] at ih ⊢
   omega
theorem Mm (F:Fo):(Yn F).length=F.len:=by
 induction F with
 | nil=>rfl
 | cons h ar r _ ih=>simp[Yn,Fo.len,ih]
theorem Mn (h:Hd) (ar:Fo) (hok:okH h ar) (os:List (Hd×List Xt)) (ho:os.length=ar.len) (hg:∀ a r,h.k=10->os=a::r->a.1.k≠13/\a.1.k≠2/\a.1.k≠3):Yz (Yg h os)<=own h ar.len+Jm os:=by
 unfold Yg own
 by_cases k1:h.k=1
 ·rw[if_pos k1,if_pos k1]
  rcases hok with hok|hok|hok
  ·omega
  ·have:=Uv (n:=h.v.toNat) (by omega)
   simp only[Yz];omega
  omega
 rw[if_neg k1,if_neg k1]
 have hnm:h.nm.length<=4:=by
  rcases hok with⟨_,_,hok⟩|⟨_,_,hok,_⟩|⟨_,hok,_⟩
  ·rcases hok with⟨_,hok,_⟩|⟨_,hok,_⟩|⟨_,hok,_⟩|⟨_,hok,_⟩|⟨_,hok,_⟩|⟨_,hok,_⟩|⟨_,hok,_⟩<;>first|exact hok.len|(rw[hok];simp)
  ·rw[hok];simp
  rw[hok];simp
 have hsl:=Uc h.op
 by_cases k13:h.k=13
 ·rw[if_pos (.inl k13),if_pos k13];simp only[Yz];omega
 by_cases k2:h.k=13\/h.k=2\/h.k=3
 ·rw[if_pos k2,if_neg k13]
  rcases hok with⟨_,_,hok⟩|⟨_,k,_⟩|⟨_,_,hok⟩
  ·rcases hok with⟨k,_⟩|⟨k,_⟩|⟨k,_⟩|⟨k,_⟩|⟨k,_⟩|⟨k,_⟩|⟨k,_⟩<;>omega
  ·omega
  rcases hok with⟨k,_⟩|⟨k,_⟩<;>omega
 rw[if_neg k2,if_neg k13]
 by_cases k12:h.k=12
 ·rw[if_pos k12,if_pos k12];simp[Yz]
 rw[if_neg k12,if_neg k12]
 by_cases k11:h.k=11
 ·rw[if_pos k11,if_pos k11];simp[Yz];omega
 rw[if_neg k11,if_neg k11]
 have hqz:(h.k=9->os.length<=2)/\(h.k=10->os.length<=3):=by
  rw[ho]
  rcases hok with⟨_,_,hok⟩|⟨_,_,_,_,_,hok⟩|⟨_,_,hok⟩
  ·rcases hok with⟨_,_,hok⟩|⟨_,_,hok⟩|⟨_,_,hok⟩|⟨_,_,hok⟩|⟨_,_,hok⟩|⟨_,_,hok⟩|⟨_,_,g,bs,r,hok,_,hr⟩<;>first|(subst hok;simp[Fo.len];done)|(subst hok;simp only[Fo.len];omega)|omega
  ·subst hok;simp[Fo.len]
  omega
 split
 ·split
  ·simp[Jm,Yz,Yx];omega
  simp[Yz]
 split
 ·split
  ·rename_i a
   have:=Qy a.1 a.2
   simp[Jm,Yz];omega
  simp[Yz]
 split
 ·split
  ·rename_i a b
   have:=Qy a.1 a.2
   have:=Qy b.1 b.2
   simp[Jm,Yz,Yx];omega
  simp[Yz]
 split
 ·split
  ·rename_i a b
   have:=Qy a.1 a.2
   have:=Qy b.1 b.2
   simp[Jm,Yz,Yx];omega
  simp[Yz]
 split
 ·split
  ·rename_i a b
   have:=Qy a.1 a.2
   have:=Qy b.1 b.2
   simp[Jm,Yz,Yx];omega
  simp[Yz]
 split
 ·rename_i k9
  have:=Wf os
  have:=hqz.1 k9
  simp[Zl,Jf,Yz,Yx];omega
 split
 ·rename_i k10
  have h3:=hqz.2 k10
  split
  ·rename_i a r
   have h1:=Qy a.1 a.2
   have h2:=Wf r
   have h4:=hg a r k10 rfl
   simp only[List.length_cons] at h3
   rw[if_neg (by omega)]
   simp only[Zl,Jf,Yz,Yx,Jm,List.length_cons,List.length_nil]
   omega
  simp[Yz]
 simp[Yz]
theorem El (F:Fo) (hw:F.wf):Jm (Yn F)<=F.cst:=by
 induction F with
 | nil=>exact Nat.le_refl _
 | cons h ar r ih1 ih2 =>
  have h1:=ih1 hw.2.2.1
  have h2:=ih2 hw.2.2.2
  have h3:=Mn h ar hw.1 (Yn ar) (Mm ar) (λ a r2 k e=>by
   have hok:=hw.1
   rcases hok with⟨_,_,hok⟩|⟨_,k',_⟩|⟨_,_,hok⟩
   ·rcases hok with⟨k',_⟩|⟨k',_⟩|⟨k',_⟩|⟨k',_⟩|⟨k',_⟩|⟨k',_⟩|⟨_,_,g,bs,r3,rfl,hg,_⟩<;>try omega
    have e2:(g,Yg g (Yn bs))::Yn r3=a::r2:=e
    injection e2 with e2 _
    subst e2
    have:=okH.not23 hw.2.2.1.1
    exact⟨hg,this⟩
   ·omega
   rcases hok with⟨k',_⟩|⟨k',_⟩<;>omega)
  show Yz (Yg h (Yn ar))+Jm (Yn r)<=own h ar.len+ar.cst+r.cst
  omega
theorem Mv (os:List (Hd×List Xt)) (i:Nat) (x:Hd×List Xt) (h:os[i]?=some x):Yz x.2<=Jm os:=by
 induction os generalizing i with
 | nil=>simp at h
 | cons a r ih =>
  cases i with
  | zero=>simp at h;subst h;simp[Jm]
  | succ i=>have:=ih i (by simpa using h);simp only[Jm];omega
theorem Kx (xs:Fo) (hw:xs.wf) (i:Nat):Yz (Jc xs i)<=xs.cst:=by
 unfold Jc
 cases h:(Yn xs)[i]? with
 | none=>simp[Yz]
 | some a=>exact Nat.le_trans (Mv _ _ _ h) (El xs hw)
theorem Nq (xs:Fo) (hw:xs.wf):Yz (Jc xs 0)+Yz (Jc xs 1)<=xs.cst:=by
 have h0:=Kx xs hw 0
 have h1:=Kx xs hw 1
 have hc:=El xs hw
 unfold Jc at h0 h1 ⊢
 cases e0:(Yn xs)[0]? with
 | none=>rw[e0] at h0;cases e1:(Yn xs)[1]? with
  | none=>simp[Yz]
  | some b=>rw[e1] at h1;simpa [Yz] using h1
 | some a=>rw[e0] at h0;cases e1:(Yn xs)[1]? with
  | none=>simpa [Yz] using h0
  | some b =>
   have key:Yz a.2+Yz b.2<=Jm (Yn xs):=by
    generalize Yn xs=l at e0 e1
    cases l with
    | nil=>simp at e0
    | cons x r =>
     cases r with
     | nil=>simp at e1
     | cons y r =>
      simp at e0 e1
      subst e0 e1
      simp only[Jm];omega
   exact Nat.le_trans key hc
theorem Md (S:Sf) (hw:S.wf):Yz (Wv S)<=S.cst:=by
 induction S with
 | nil=>simp[Wv,Yz]
 | cons k ln nm xs th el r ih1 ih2 ih3 =>
  obtain⟨hok,_,hx,ht,he,hr⟩:=hw
  have h1:=ih1 ht
  have h2:=ih2 he
  have h3:=ih3 hr
  have hv0:=Kx xs hx 0
  have hv2:=Nq xs hx
  have hnm:=hok.nm
  unfold Wv
  rw[Yx]
  simp only[Sf.cst]
  split
  ·simp only[Yz,Yx,List.length_cons,List.length_nil];omega
  split
  ·simp only[Yz,Yx,List.length_cons,List.length_nil];omega
  split
  ·simp only[Yz,Yx,List.length_cons,List.length_nil];omega
  split
  ·simp only[Yz,Yx,List.length_cons,List.length_nil];omega
  split
  ·simp only[Yz,Yx,List.length_cons,List.length_nil];omega
  split
  ·simp only[Yz,Yx,List.length_cons,List.length_nil];omega
  split
  ·simp only[Yz,Yx,List.length_cons,List.length_nil];omega
  split
  ·split
   ·simp only[Yz,Yx,List.length_cons,List.length_nil];omega
   simp only[Yz,Yx,List.length_cons,List.length_nil];omega
  simp only[Yz];omega
def Wr (F:Fn):List Xt:=wdX [102,117,110,99]::nmX F.nm::sgX [40]::(commX (F.ps.map λ p=>[nmX p])++(sgX [41]::sgX [123]::(Wv F.bd++[sgX [125]])))
def Hv (x:Bt×Int):List Xt:=wdX [103,108,111,98,97,108]::nmX x.1::((if 0<x.2 then [sgX [91],(2,x.2,Lib.decDigits x.2.toNat),sgX [93]] else [])++[sgX [59]])
def Nx (gs:List (Bt×Int)) (Fs:List Fn):List Xt:=gs.flatMap Hv++Fs.flatMap Wr
theorem Ff (ps:List Bt) (h:∀ p∈ps,okN p):∀ {s r:Bt} {ts:List Xt},nb s->Lx s r ts->Lx (comm ps++s) r (commX (ps.map λ p=>[nmX p])++ts):=by
 induction ps with
 | nil=>intro s r ts _ hx;exact hx
 | cons p ps ih =>
  intro s r ts hs hx
  have hp:=h p (by simp)
  have hq:∀ q∈ps,okN q:=λ q hq=>h q (by simp[hq])
  cases ps with
  | nil=>exact Lx.name hp.m hs hx
  | cons q ps =>
   show Lx ((p++([44,32]++comm (q::ps)))++s) r (([nmX p]++(sgX [44]::commX ((q::ps).map λ p=>[nmX p])))++ts)
   simp only[List.append_assoc,List.cons_append,List.nil_append]
   exact Lx.name hp.m (Zx (by decide)) (Lx.sg (by simp) (Lx.c32 (ih hq hs hx)))
theorem As (F:Fn) (hn:okN F.nm) (hp:∀ p∈F.ps,okN p) (hb:F.bd.wf) {s r:Bt} {ts:List Xt} (hx:Lx s r ts):Lx (Ev F++s) r (Wr F++ts):=by
 unfold Ev Wr
 simp only[List.append_assoc,List.cons_append,List.nil_append]
 exact Lx.word (w:=[102,117,110,99]) (by decide) (Zx (by decide)) (Lx.c32 (Lx.name hn.m (Zx (by decide)) (Lx.sg (by simp) (Ff F.ps hp (Zx (by decide)) (Lx.sg (by simp) (Lx.c32 (Lx.sg (by simp) (Lx.c10 (Al F.bd hb 1 _ _ _ (Lx.sg (by simp) (Lx.c10 hx)))))))))))
theorem Ar (x:Bt×Int) (h:okN x.1/\0<=x.2/\x.2<=5) {s r:Bt} {ts:List Xt} (hx:Lx s r ts):Lx (Hr x++s) r (Hv x++ts):=by
 obtain⟨nm,z⟩:=x
 obtain⟨hn,h0,h5⟩:=h
 obtain⟨n,rfl⟩:=Int.eq_ofNat_of_zero_le h0
 dsimp only at *
 unfold Hr Hv
 by_cases hz:(0:Int)<(n:Int)
 ·simp only[if_pos hz,List.append_assoc,List.cons_append,List.nil_append,Int.toNat_natCast]
  exact Lx.word (w:=[103,108,111,98,97,108]) (by decide) (Zx (by decide)) (Lx.c32 (Lx.name hn.m (Zx (by decide)) (Lx.sg (by simp) (Lx.num (by omega) (Zx (by decide)) (Lx.sg (by simp) (Lx.sg (by simp) (Lx.c10 hx)))))))
 simp only[if_neg hz,List.append_assoc,List.cons_append,List.nil_append]
 exact Lx.word (w:=[103,108,111,98,97,108]) (by decide) (Zx (by decide)) (Lx.c32 (Lx.name hn.m (Zx (by decide)) (Lx.sg (by simp) (Lx.c10 hx))))
theorem Sk (ps:List Bt) (h:∀ p∈ps,p.length<=4) (hl:ps.length<=2):Yz (commX (ps.map λ p=>[nmX p]))<=69:=by
 match ps,h,hl with
 | [],_,_=>simp[commX,Yz]
 | [a],h,_=>have:=h a (by simp);simp[commX,Yz];omega
 | [a,b],h,_=>have:=h a (by simp);have:=h b (by simp);simp[commX,Yz];omega
 | _::_::_::_,_,hl=>simp at hl
theorem Ml (F:Fn) (hn:F.nm.length<=4) (hp:∀ p∈F.ps,p.length<=4) (hl:F.ps.length<=2) (hb:F.bd.wf) (hc:F.bd.cst<=9100):Yz (Wr F)<=9301:=by
 have h1:=Sk F.ps hp hl
 have h2:=Md F.bd hb
 unfold Wr
 simp only[Yz,Yx,List.length_cons,List.length_nil]
 omega
theorem Mh (x:Bt×Int) (h:okN x.1/\0<=x.2/\x.2<=5):Yz (Hv x)<=152:=by
 have h1:=h.1.len
 have h2:=Wc x.2 h.2.1 h.2.2
 unfold Hv
 split
 ·simp only[Yz,Yx,List.length_cons,List.length_nil];omega
 simp only[Yz,Yx,List.length_cons,List.length_nil];omega
theorem Dd {α:Type} (f:α->Bt) (g:α->List Xt) (l:List α) (h:∀ a∈l,∀ {s r:Bt} {ts:List Xt},Lx s r ts->Lx (f a++s) r (g a++ts)) {s r:Bt} {ts:List Xt} (hx:Lx s r ts):Lx (l.flatMap f++s) r (l.flatMap g++ts):=by
 induction l with
 | nil=>exact hx
 | cons a l ih =>
  rw[List.flatMap_cons,List.flatMap_cons,List.append_assoc,List.append_assoc]
  exact h a (by simp) (ih (λ b hb=>h b (by simp[hb])))
theorem Wm {α:Type} (g:α->List Xt) (c:Nat) (l:List α) (h:∀ a∈l,Yz (g a)<=c):Yz (l.flatMap g)<=l.length*c:=by
 induction l with
 | nil=>simp[Yz]
 | cons a r ih =>
  rw[List.flatMap_cons,Yx,List.length_cons,Nat.add_mul]
  have:=h a (by simp)
  have:=ih (λ x hx=>h x (by simp[hx]))
  omega
theorem Uj.fn {w:World} {gs:List (Bt×Int)} {fs:List Fr} {Fs:List Fn} {aa ab:Option Addr} {ca cb:Nat} (h:Uj w gs fs Fs aa ca ab cb):∀ F∈Fs,okN F.nm/\(∀ p∈F.ps,okN p)/\F.bd.wf/\F.bd.cst<=9100/\F.ps.length<=2:=by
 intro F hF
 obtain⟨j,hj,e⟩:=List.mem_iff_getElem.1 hF
 obtain⟨f,hf,hFn⟩:=h.fns.get2 (j:=j) (F:=F) (by rw[List.getElem?_eq_getElem hj,e])
 have hk:=h.fok f (List.mem_of_getElem? hf)
 obtain⟨h1,h2,_,_,_,_,h7,_,h9,h10,_⟩:=hFn
 exact⟨h1▸hk.1,h7,h9,h10,by have:=hk.2;omega⟩
theorem Uj.scan {w:World} {gs:List (Bt×Int)} {fs:List Fr} {Fs:List Fn} {aa ab:Option Addr} {ca cb:Nat} (h:Uj w gs fs Fs aa ca ab cb) :
  ∃ ys ln,Go.Proofs.YtldgghnjminhiaaGreatDoor.scan (An gs Fs)=(some (ys++[⟨0,ln,0,[]⟩]),0)/\unl ys=Nx gs Fs/\(∀ x∈ys,Qb x)/\Yc 20 ys<=38000/\ys≠[]:=by
 have hx:Lx (An gs Fs) [] (Nx gs Fs):=by
  have h1:Lx (Fs.flatMap Ev++[]) [] (Fs.flatMap Wr++[]):=Dd Ev Wr Fs (λ F hF=>by
   obtain⟨k1,k2,k3,_⟩:=h.fn F hF
   intro s r ts hx
   exact As F k1 k2 k3 hx) (Lx.refl [])
  rw[List.append_nil,List.append_nil] at h1
  exact Dd Hr Hv gs (λ x hx=>λ hs=>Ar x (h.gok x hx) hs) h1
 obtain⟨ys,ln,e1,e2,e3⟩:=hx [] 1
 have hc:Yz (Nx gs Fs)<=38000:=by
  have h1:=Wm Hv 152 gs (λ x hx=>Mh x (h.gok x hx))
  have h2:=Wm Wr 9301 Fs (λ F hF=>by
   obtain⟨k1,k2,k3,k4,k5⟩:=h.fn F hF
   exact Ml F k1.len (λ p hp=>(k2 p hp).len) k5 k3 k4)
  have h3:=h.fns.len
  have h4:=h.gn
  have h5:=h.f4
  have h6:gs.length*152<=4*152:=Nat.mul_le_mul_right _ h4
  have h7:Fs.length*9301<=4*9301:=Nat.mul_le_mul_right _ (by omega)
  unfold Nx
  rw[Yx]
  omega
 refine⟨ys,ln,?_,e2,e3,by rw[<- Mw,e2];exact hc,?_⟩
 ·rw[Pk,e1,Vn]
  rfl
 intro e
 subst e
 have hF:∃ F r,Fs=F::r:=by
  have h3:=h.fns.len
  have h5:=h.f1
  cases Fs with
  | nil=>rw[List.length_nil] at h3;omega
  | cons F r=>exact⟨F,r,rfl⟩
 obtain⟨F,r,rfl⟩:=hF
 have:Nx gs (F::r)=[]:=e2.symm
 unfold Nx at this
 rw[List.flatMap_cons] at this
 have h1:=(List.append_eq_nil_iff.1 this).2
 have h2:=(List.append_eq_nil_iff.1 h1).1
 unfold Wr at h2
 cases h2
end Go.Proofs.YtldgghnjminhiaaGreatDoor
