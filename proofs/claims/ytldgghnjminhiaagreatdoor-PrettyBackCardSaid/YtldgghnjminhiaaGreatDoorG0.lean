/-
  WORDS, PLAIN LAWS and WALKS (Base Words Draw), pressed. (Filled in from templates of this repo.)
-/
import Derived.WalkKit
import Derived.ProofKit
import Derived.OpenShut
import Derived.Outline
import Derived.WalkLawsBesides
import Derived.WalkSpells
import Derived.BigQuiet
import Derived.BigRegion
import Derived.Deep.QuietTactic
import Derived.StillTailTactics
import Derived.Deep.LoopGhost
import Derived.Deep.CutRange
import Derived.Lib.Hide
import Derived.Lib.SmallJoins
import Derived.Deep.Slices
import Derived.Deep.Fields
import Derived.ChangeSame
import Derived.Laws.ResultCell
import Derived.Deep.AppendLies
import Derived.Deep.RegionHeld3
import Derived.Deep.DrawnRows
import Derived.OwnWalk
import Derived.Laws.AppendOwnNone
import Derived.Test.YtldgghnjminhiaaGreatDoorRows
namespace Go.Proofs.YtldgghnjminhiaaGreatDoor
open Go Go.ChangeAt Go.ChangeShapes Go.RowKit Go.WideShapes
set_option linter.unusedVariables false
set_option linter.unusedSimpArgs false
set_option maxRecDepth 100000
set_option maxHeartbeats 16000000
def Xq (p:Prop):Prop:=p
theorem Xq.o {p:Prop} (h:Xq p):p:=h
theorem Xq.out {p:Prop} (h:Xq p):p:=h
theorem Xj {p:Prop} (h:p):Xq p:=h
theorem Xz {P Q:Prop} (k:Q) (h:Q->P:=by intro k;(try simp only[Act.put,List.setIfInBounds_toArray,List.set_cons_zero,List.set_cons_succ]);exact k):P:=h k
theorem Xx {α:Sort _} (t:α) {P:Prop} (h:∀ x,t=x->P):P:=h t rfl
def rowOf (n:Nat) (f:Nat->Int):Array Value:=((List.range n).map λ j=>Value.int .i64 (f j)).toArray
theorem Gv (n:Nat) (f:Nat->Int):(rowOf n f).size=n:=by simp[rowOf]
theorem Kg (n:Nat) (f:Nat->Int) (j:Nat) (h:j<n):(rowOf n f)[j]?=some (.int .i64 (f j)):=by simp[rowOf,h]
theorem Ak (n:Nat) (f g:Nat->Int) (i:Nat) (v:Int) (hi:g i=v) (hg:∀ j,j<n->j≠i->g j=f j):(rowOf n f).setIfInBounds i (.int .i64 v)=rowOf n g:=by
 apply Array.ext_getElem?
 intro j
 rw[Array.getElem?_setIfInBounds]
 by_cases hj:j<n
 ·by_cases e:i=j
  ·subst e
   rw[if_pos rfl,Kg n g i hj,hi,if_pos (by simpa [Gv] using hj)]
  rw[if_neg e,Kg n f j hj,Kg n g j hj,hg j hj (λ x=>e x.symm)]
 have h1:(rowOf n f)[j]?=none:=by simp[rowOf,hj]
 have h2:(rowOf n g)[j]?=none:=by simp[rowOf,hj]
 rw[h1,h2]
 split
 ·simp[Gv];omega
 rfl
theorem Nr (n:Nat) (f g:Nat->Int) (h:∀ j,j<n->f j=g j):rowOf n f=rowOf n g:=by
 unfold rowOf
 congr 1
 apply List.map_congr_left
 intro j hj
 rw[h j (by simpa using hj)]
def Jm (w:World) (b:Nat) (t:TypeId) (n:Nat) (f:Nat->Int):Prop:=w.heap[b]?=some (.cells (rowOf n f) t (0,0))
theorem Jm.cell {w:World} {b:Nat} {t:TypeId} {n:Nat} {f:Nat->Int} (h:Jm w b t n f) (j:Nat) (hj:j<n):w.cell? ⟨b,j,none⟩=some (.int .i64 (f j)):=by
 rw[cell_of_row w b j _ t _ h,Kg n f j hj]
theorem Jm.set {w:World} {b:Nat} {t:TypeId} {n:Nat} {f:Nat->Int} (h:Jm w b t n f) (i:Nat) (v:Int) (g:Nat->Int) (hi:g i=v) (hg:∀ j,j<n->j≠i->g j=f j):Jm (w.setCell ⟨b,i,none⟩ (.int .i64 v)) b t n g:=by
 have:=heap_setCell_same w b i _ t (.int .i64 v) h
 rw[Ak n f g i v hi hg] at this
 exact this
theorem Jm.drew {w:World} {b:Nat} {t:TypeId} {n:Nat} {f:Nat->Int} (h:Jm w b t n f):Jm w.drew b t n f:=h
theorem Jm.alloc {w:World} {b:Nat} {t:TypeId} {n:Nat} {f:Nat->Int} (h:Jm w b t n f) (o:Obj):Jm (w.alloc o) b t n f:=by
 unfold Jm
 rw[Go.RowKit.Below.heap_alloc w o b (Array.getElem?_eq_some_iff.1 h).1]
 exact h
theorem Jm.lt {w:World} {b:Nat} {t:TypeId} {n:Nat} {f:Nat->Int} (h:Jm w b t n f):b<w.heap.size:=(Array.getElem?_eq_some_iff.1 h).1
theorem Jm.congr {w:World} {b:Nat} {t:TypeId} {n:Nat} {f:Nat->Int} (h:Jm w b t n f) (g:Nat->Int) (hg:∀ j,j<n->f j=g j):Jm w b t n g:=by
 unfold Jm;rw[<- Nr n f g hg];exact h
structure Hj (w:World):Type where
 val:World
 property:Below w.heap.size w val
theorem Hj.cell {w:World} (x:Hj w) {b o:Nat} {v:Value} (h:w.cell? ⟨b,o,none⟩=some v):x.val.cell? ⟨b,o,none⟩=some v :=
 (x.property.cell (p:=⟨b,o,none⟩) (block_lt_of_cell h)).trans h
instance (w:World):Nonempty (Hj w):=⟨⟨w,Below.refl _ _⟩⟩
theorem Ec {P:Program} {id:Nat} {Q:Exit->Act->World->Prop} {a:Act} {w:World} {l:List Oper} (hm:P.follows .mixedOrders=true) (hB:Region.lexB .any l.toArray=true)
  (h:wpQuiet P l.toArray (λ w'=>∃ x:Hj w,w'=x.val) (λ a'=>∀ w',Below w.heap.size w w'->Q .normal a' w') l a):(Code.region id l.toArray true).wp P Q a w:=by
 refine wp_region_quiet (C:=λ w'=>∃ x:Hj w,w'=x.val) hm hB ⟨⟨w.drew,(Below.refl _ _).drew⟩,rfl⟩ ?_
 have e:(λ a'=>∀ w',(∃ x:Hj w,w'=x.val)->Q .normal a' w')=(λ a'=>∀ w',Below w.heap.size w w'->Q .normal a' w'):=by
  funext a'
  exact propext ⟨λ h w' hw=>h w' ⟨⟨w',hw⟩,rfl⟩,λ h w' ⟨x,hx⟩=>hx▸h _ x.property⟩
 rw[e]
 simpa using h
def Ew (k:IntKind) (w:World) (a:Option Addr) (len cap:Nat) (zs:List Int):Prop :=
 zs.length=len/\len<=cap/\(cap<=maxLen/\(a=none->cap=0)) /\
 ∀ i,i<len->∃ b off,a=some ⟨b,off,none⟩/\b<w.heap.size/\w.cell? ⟨b,off+i,none⟩=some (.int k (zs.getD i 0))/\(Lit.int k (zs.getD i 0)).wf=true
theorem Ew.below {k:IntKind} {w w':World} {a:Option Addr} {len cap:Nat} {zs:List Int} (h:Ew k w a len cap zs) (hb:Below w.heap.size w w'):Ew k w' a len cap zs:=by
 obtain⟨h1,h2,h3,h4⟩:=h
 refine⟨h1,h2,h3,λ i hi=>?_⟩
 obtain⟨b,off,e,hlt,hc,hw⟩:=h4 i hi
 exact⟨b,off,e,by have:=hb.size;omega,(hb.cell (p:=⟨b,off+i,none⟩) hlt).trans hc,hw⟩
theorem xqx {H:Type} {enc:TypeId×Value->H} {P:Program} {w:World} {r:Reach} {base b0:Nat} {spare:Nat->Bool} {held:Bool} {k:IntKind} {t e:TypeId} {v:Value} {d:DataW H} {p:List MemPlace}
  (ht:P.underlying t=some (.slice e)) (he:P.underlying e=some (.int k)) (hc:P.cellsOf e=1) (hv:Value.okWide P w r b0 t v) (h:DataW.Trod enc P w base spare held t v d p) :
  ∃ (a:Option Addr) (len cap:Nat) (zs:List Int),v=.slice a len cap/\Ew k w a len cap zs:=by
 obtain⟨a,len,cap,rfl⟩:=okWide_slice ht hv
 obtain⟨fuel,hf⟩:=h
 rcases open_ints ht he hc hf with⟨hcs,_⟩|⟨x,l,c,zs,hcs,_,hl,hm,hz,_,hjl,hwz⟩
 ·simp[Value.cells] at hcs
  obtain⟨rfl,rfl,rfl⟩:=hcs
  exact⟨none,0,0,[],rfl,rfl,Nat.le_refl _,⟨by simp[maxLen],λ _=>rfl⟩,λ i hi=>absurd hi (by omega)⟩
 simp[Value.cells] at hcs
 obtain⟨rfl,rfl,rfl⟩:=hcs
 have hz':len<=zs.length:=by rw[hz];split<;>omega
 refine⟨_,_,_,zs.take len,rfl,?_,hl,⟨hm,λ e=>by cases e⟩,?_⟩
 ·rw[List.length_take];omega
 intro i hi
 have hiz:i<zs.length:=by omega
 have h1:=hjl i hiz
 obtain⟨b,off,spot⟩:=x
 have hpz:spot=none:=by
  by_cases h0:spot.isSome
  ·have hc0:=hjl 0 (by omega)
   simpa [Addr.add] using World.cell?_spot hc0
  simpa using h0
 subst hpz
 have hadd:(⟨b,off,none⟩:Addr).add i=⟨b,off+i,none⟩:=by unfold Addr.add;split<;>simp_all
 rw[hadd] at h1
 have hg:(zs.take len).getD i 0=zs.getD i 0:=by simp[List.getD,hi]
 refine⟨b,off,rfl,block_lt_of_cell h1,by rw[hg];exact h1,?_⟩
 rw[hg]
 have:zs.getD i 0∈zs:=by simp[List.getD,List.getElem?_eq_getElem hiz]
 exact hwz _ this
def Ny (w:World) (a:Option Addr) (len cap:Nat) (zs:List (Int×Int)):Prop :=
 zs.length=len/\len<=cap/\cap<=maxLen /\
 ∀ i,i<len->∃ b off,a=some ⟨b,off,none⟩/\b<w.heap.size/\w.cell? ⟨b,off+i*2,none⟩=some (.int .i64 (zs.getD i (0,0)).1)/\w.cell? ⟨b,off+i*2+1,none⟩=some (.int .i64 (zs.getD i (0,0)).2) /\
  (Lit.int .i64 (zs.getD i (0,0)).1).wf=true/\(Lit.int .i64 (zs.getD i (0,0)).2).wf=true
theorem Ny.below {w w':World} {a:Option Addr} {len cap:Nat} {zs:List (Int×Int)} (h:Ny w a len cap zs) (hb:Below w.heap.size w w'):Ny w' a len cap zs:=by
 obtain⟨h1,h2,h3,h4⟩:=h
 refine⟨h1,h2,h3,λ i hi=>?_⟩
 obtain⟨b,off,e,hlt,hc,hd,hw⟩:=h4 i hi
 exact⟨b,off,e,by have:=hb.size;omega,(hb.cell (p:=⟨b,off+i*2,none⟩) hlt).trans hc,(hb.cell (p:=⟨b,off+i*2+1,none⟩) hlt).trans hd,hw⟩
def Yd (w:World) (a:Option Addr) (xs:List Value):Prop :=
 xs≠[]->∃ b off,a=some ⟨b,off,none⟩/\b<w.heap.size/\∀ j u,xs[j]?=some u->w.cell? ⟨b,off+j,none⟩=some u
theorem Yd.nil (w:World) (a:Option Addr):Yd w a []:=λ h=>absurd rfl h
theorem Yd.below {w w':World} {a:Option Addr} {xs:List Value} (h:Yd w a xs) (hb:Below w.heap.size w w'):Yd w' a xs:=by
 intro hx
 obtain⟨b,off,e,hlt,hc⟩:=h hx
 exact⟨b,off,e,by have:=hb.size;omega,λ j u hj=>(hb.cell (p:=⟨b,off+j,none⟩) hlt).trans (hc j u hj)⟩
theorem Yd.grown {w w':World} {a:Option Addr} {xs:List Value} {row:Option Nat} (h:Yd w a xs) (hg:w.grownBy w' row) (hr:∀ x k,a=some x->row=some k->x.block≠k):Yd w' a xs:=by
 intro hx
 obtain⟨b,off,e,hlt,hc⟩:=h hx
 refine⟨b,off,e,by have:=hg.size;omega,λ j u hj=>?_⟩
 exact(World.cell?_of_block (w:=w) (hg.block b hlt (λ e2=>hr _ b e e2.symm rfl))).trans (hc j u hj)
theorem Vv (g o q:Nat):(⟨g,o,none⟩:Addr).add q=⟨g,o+q,none⟩:=by unfold Addr.add;split<;>simp_all
theorem Yd.of_own {w:World} {base n e size:Nat} {v:Value} {xs:List Value} (h:w.ownsRow base e size v n xs) :
  ∃ a cap,v=.slice a n cap/\xs.length=n*size/\n<=cap/\cap<=maxLen/\Yd w a xs/\∀ x,a=some x->base<=x.block:=by
 have hn:=h.1
 rcases h.2 with⟨rfl,h0⟩|⟨g,cap,cur,rfl,hb,hg,hc,hm,hz,ht⟩
 ·subst h0
  obtain rfl:xs=[]:=List.eq_nil_of_length_eq_zero (by simpa using hn)
  exact⟨none,0,rfl,hn,by omega,by simp[maxLen],Yd.nil _ _,λ x hx=>by cases hx⟩
 refine⟨_,cap,rfl,hn,hc,hm,λ _=>⟨g,0,rfl,(Array.getElem?_eq_some_iff.1 hg).1,λ j u hj=>?_⟩,λ x hx=>by injection hx with hx;subst hx;exact hb⟩
 have:=h.cells (g:=g) rfl j u hj
 rwa [Vv] at this
theorem Km {w:World} {base n e size:Nat} {v:Value} {xs:List Value} (h:w.ownsRow base e size v n xs) (hx:xs≠[]) :
  ∃ g cap,v=.slice (some ⟨g,0,none⟩) n cap/\base<=g/\g<w.heap.size/\n<=cap/\cap<=maxLen/\xs.length=n*size/\∀ j u,xs[j]?=some u->w.cell? ⟨g,j,none⟩=some u:=by
 have hn:=h.1
 rcases h.2 with⟨rfl,h0⟩|⟨g,cap,cur,rfl,hb,hg,hc,hm,hz,ht⟩
 ·exact absurd (List.eq_nil_of_length_eq_zero (by rw[hn,h0,Nat.zero_mul])) hx
 refine⟨g,cap,rfl,hb,(Array.getElem?_eq_some_iff.1 hg).1,hc,hm,hn,λ j u hj=>?_⟩
 have:=h.cells (g:=g) rfl j u hj
 rwa [Vv,Nat.zero_add] at this
abbrev xxp (zs:List Int):List Value:=zs.map (Value.int .i64)
theorem Ib (zs:List Int) (j:Nat) (h:j<zs.length):(xxp zs)[j]?=some (.int .i64 (zs.getD j 0)):=by simp[List.getD,h]
theorem xqz (zs:List Int) (j:Nat) (h:j<zs.length):xxp zs≠[]:=by
 intro e;have:=congrArg List.length e;simp at this;subst this;simp at h
theorem Yd.int {w:World} {a:Option Addr} {zs:List Int} (h:Yd w a (xxp zs)) (j:Nat) (hj:j<zs.length) :
  ∃ b off,a=some ⟨b,off,none⟩/\b<w.heap.size/\∀ i,i<zs.length->w.cell? ⟨b,off+i,none⟩=some (.int .i64 (zs.getD i 0)):=by
 obtain⟨b,off,e,hb,hc⟩:=h (xqz zs j hj)
 exact⟨b,off,e,hb,λ i hi=>hc i _ (Ib zs i hi)⟩
abbrev Oz (zs:List Bool):List Value:=zs.map Value.bool
theorem Bb (zs:List Bool) (j:Nat) (h:j<zs.length):(Oz zs)[j]?=some (.bool (zs.getD j false)):=by simp[List.getD,h]
theorem Oq (zs:List Bool) (j:Nat) (h:j<zs.length):Oz zs≠[]:=by
 intro e;have:=congrArg List.length e;simp at this;subst this;simp at h
theorem Yd.bool {w:World} {a:Option Addr} {zs:List Bool} (h:Yd w a (Oz zs)) (j:Nat) (hj:j<zs.length) :
  ∃ b off,a=some ⟨b,off,none⟩/\b<w.heap.size/\∀ i,i<zs.length->w.cell? ⟨b,off+i,none⟩=some (.bool (zs.getD i false)):=by
 obtain⟨b,off,e,hb,hc⟩:=h (Oq zs j hj)
 exact⟨b,off,e,hb,λ i hi=>hc i _ (Bb zs i hi)⟩
abbrev xvr (zs:List Nat):List Value:=zs.map λ (z:Nat)=>Value.int .u8 ((z:Nat):Int)
def Byt (zs:List Nat):Prop:=∀ x∈zs,x<256
theorem Byt.get {zs:List Nat} (h:Byt zs) (i:Nat):zs.getD i 0<256:=by
 by_cases hi:i<zs.length
 ·exact h (zs.getD i 0) (by simp[List.getD,hi])
 simp[List.getD,hi]
theorem Byt.nil:Byt []:=λ _ h=>by cases h
theorem Byt.append {xs ys:List Nat} (h:Byt xs) (k:Byt ys):Byt (xs++ys):=λ x hx=>by
 rw[List.mem_append] at hx;rcases hx with hx|hx;exact h x hx;exact k x hx
theorem Byt.one {x:Nat} (h:x<256):Byt [x]:=λ y hy=>by simp at hy;omega
theorem Byt.take {xs:List Nat} (h:Byt xs) (k:Nat):Byt (xs.take k):=λ x hx=>h x (List.mem_of_mem_take hx)
theorem Byt.drop {xs:List Nat} (h:Byt xs) (k:Nat):Byt (xs.drop k):=λ x hx=>h x (List.mem_of_mem_drop hx)
def Bs (w:World) (a:Option Addr) (n cap:Nat) (zs:List Nat):Prop:=zs.length=n/\n<=cap/\cap<=maxLen/\(a=none->cap=0)/\Yd w a (xvr zs)
theorem Bs.below {w w':World} {a:Option Addr} {n cap:Nat} {zs:List Nat} (h:Bs w a n cap zs) (hb:Below w.heap.size w w'):Bs w' a n cap zs:=⟨h.1,h.2.1,h.2.2.1,h.2.2.2.1,h.2.2.2.2.below hb⟩
theorem Wh {w:World} {base n e size:Nat} {a:Option Addr} {cap:Nat} {xs:List Value} (h:w.ownsRow base e size (.slice a n cap) n xs):a=none->cap=0:=by
 intro ha
 rcases h.2 with⟨h1,_⟩|⟨g,c,cur,h1,_⟩
 ·injection h1
 subst ha;injection h1 with h1;cases h1
theorem Bs.of_own {w:World} {base n e:Nat} {v:Value} {zs:List Nat} (h:w.ownsRow base e 1 v n (xvr zs)):∃ a cap,v=.slice a n cap/\Bs w a n cap zs:=by
 obtain⟨a,cap,rfl,h1,h2,h3,h4,_⟩:=Yd.of_own h
 exact⟨a,cap,rfl,by simpa using h1,h2,h3,Wh h,h4⟩
theorem Oj {w:World} {a:Addr} {xs:List Value} (h:Yd w (some a) xs):∀ j u,xs[j]?=some u->w.cell? (a.add j)=some u:=by
 intro j u hj
 obtain⟨b,off,e,_,hc⟩:=h (λ e=>by rw[e] at hj;cases hj)
 injection e with e
 subst e
 rw[Vv]
 exact hc j u hj
theorem Ud {P:Program} {w:World} {ops:Array Oper} {rest:List Oper} {o:Oper} {a:Act} {Q:Exit->Act->World->Prop} (hgd:o.guard=none) (s x:Operand) (t:TypeId)
  (ho:o.op=.call { callee:=.builtin .append,args := #[s,x],argTypes := #[t,t] })
  (base:Nat) (e:TypeId) (i:TypeInfo) (z:Value) (size bytes:Nat) (ht:P.underlying t=some (.slice e)) (hi:P.info? e=some i) (hz:i.zero=some z)
  (hpv:i.size=size) (hby:i.bytes=bytes) (hzs:z.cells.size=size) (hsz:0<size)
  (v:Value) (n:Nat) (xs:List Value) (hs:a.eval s=v) (hjj:w.ownsRow base e size v n xs)
  (ad:Option Addr) (m c:Nat) (news:List Value) (hx:a.eval x=.slice ad m c) (hmc:m<=c) (hnil:ad=none->c=0) (hl:news.length=m*size) (hpw:Yd w ad news) (h1:∀ u∈news,u.oneCell'=true)
  (h63:n+m<=maxLen) (hwm:(n+m)*bytes<=140737488355328) (hpu:base<=w.heap.size)
  (h:∀ v' w',w'.ownsRow base e size v' (n+m) (xs++news)->w.grownBy w' v.ownBlock->wpList P ops Q rest (a.put o.dst v') w'):wpList P ops Q (o::rest) a w:=by
 cases ad with
 | none =>
  have hc:=hnil rfl
  subst hc
  obtain rfl:m=0:=by omega
  obtain rfl:news=[]:=List.eq_nil_of_length_eq_zero (by simpa using hl)
  exact wpList_append_own_none hgd s x t ho base e i size ht hi v n xs hs hjj hx (h v w (by simpa using hjj) ⟨rfl,rfl,rfl,Nat.le_refl _,λ _ _ _=>rfl⟩)
 | some ad =>
  exact wpList_append_own w hgd s x t ho base e i z size bytes ht hi hz hpv hby hzs hsz v n xs hs hjj ad m c news hx hl (Oj hpw) h1 h63 hwm hpu (λ v' w' a b _=>h v' w' a b)
def Cod (w:World) (g:Nat):Prop :=
 ∃ (a:Option Addr) (len cap at_:Nat),w.heap[g]?=some (.cells #[.slice a len cap,.int .i64 at_] 55 (0,0))/\at_<=len/\len<=9223372036854775807 /\
  ∀ i,i<len->∃ b off,a=some ⟨b,off,none⟩/\b<g/\∃ z:Int,w.cell? ⟨b,off+i,none⟩=some (.int .u8 z)/\0<=z/\z<=255
theorem Cod.keep {w w':World} {g:Nat} (h:Cod w g) (hk:∀ k,k<=g->w'.heap[k]?=w.heap[k]?):Cod w' g:=by
 obtain⟨a,len,cap,at_,h1,h2,h3,h4⟩:=h
 refine⟨a,len,cap,at_,(hk g (Nat.le_refl _)).trans h1,h2,h3,λ i hi=>?_⟩
 obtain⟨b,off,e,hb,z,hc,hz⟩:=h4 i hi
 exact⟨b,off,e,hb,z,(World.cell?_of_block (w:=w) (hk b (by omega))).trans hc,hz⟩
theorem Cod.lt {w:World} {g:Nat} (h:Cod w g):g<w.heap.size:=by
 obtain⟨a,len,cap,at_,h1,_⟩:=h
 exact(Array.getElem?_eq_some_iff.1 h1).1
theorem Cod.below {w w':World} {g B:Nat} (h:Cod w g) (hb:Below B w w') (hB:g<B):Cod w' g:=h.keep λ k hk=>hb.block k (by omega)
theorem Cod.alloc {w:World} {g:Nat} (h:Cod w g) (o:Obj):Cod (w.alloc o) g:=h.keep λ k hk=>Below.heap_alloc w o k (by have:=h.lt;omega)
theorem Cod.drew {w:World} {g:Nat} (h:Cod w g):Cod w.drew g:=h
theorem Cod.grown {w w':World} {g:Nat} {row:Option Nat} (h:Cod w g) (hg:w.grownBy w' row) (hr:∀ k,row=some k->g<k):Cod w' g :=
 h.keep λ k hk=>hg.block k (by have:=h.lt;omega) (λ e=>by have:=hr k e.symm;omega)
theorem Cod.setCell {w:World} {g:Nat} (h:Cod w g) {p:Addr} (hp:g<p.block) (v:Value):Cod (w.setCell p v) g :=
 h.keep λ k hk=>heap_setCell_other w p k v (by omega)
def Pz (g:Nat) (n:Int) (w:World) (e:Ending) (w':World):Prop :=
 ∃ x:Int,e=.returned (.int .i64 x)/\0<=x/\x<max n 1/\Cod w' g/\w.grownBy w' (some g)
theorem Xr (w:World) (n:Nat) (row:Option Nat):w.grownBy (w.drewN n) row:=⟨rfl,rfl,rfl,Nat.le_refl _,λ _ _ _=>rfl⟩
theorem Xp {a b c:World} {row:Option Nat} (h:a.grownBy b row) (k:b.grownBy c row):a.grownBy c row :=
 ⟨k.os.trans h.os,k.tape.trans h.tape,k.output.trans h.output,Nat.le_trans h.size k.size,λ i hi hn=>(k.block i (by have:=h.size;omega) hn).trans (h.block i hi hn)⟩
theorem Xu (w:World) (g o:Nat) (v:Value):w.grownBy (w.setCell ⟨g,o,none⟩ v) (some g) :=
 ⟨rfl,rfl,rfl,by simp[World.setCell],λ k _ hn=>heap_setCell_other w _ k v (λ e=>hn (by rw[e]))⟩
theorem Nz {B:Nat} {a w w':World} {g:Nat} (h:Below B a w) (hg:w.grownBy w' (some g)) (hB:B<=w.heap.size) (hr:B<=g):Below B a w' :=
 h.grown hg hB (λ k e=>by injection e with e;omega)
theorem Cod.step {w:World} {g:Nat} {a:Option Addr} {len cap at_:Nat} (h1:w.heap[g]?=some (.cells #[.slice a len cap,.int .i64 at_] 55 (0,0))) (h2:at_<len) (h3:len<=9223372036854775807)
  (h4:∀ i,i<len->∃ b off,a=some ⟨b,off,none⟩/\b<g/\∃ z:Int,w.cell? ⟨b,off+i,none⟩=some (.int .u8 z)/\0<=z/\z<=255):Cod (w.setCell ⟨g,1,none⟩ (.int .i64 ((at_:Int)+1))) g:=by
 refine⟨a,len,cap,at_+1,?_,by omega,h3,λ i hi=>?_⟩
 ·have:=heap_setCell_same w g 1 _ _ (.int .i64 ((at_:Int)+1)) h1
  exact this
 obtain⟨b,off,e,hb,z,hc,hz⟩:=h4 i hi
 exact⟨b,off,e,hb,z,(World.cell?_of_block (w:=w) (heap_setCell_other w _ b _ (by simp;omega))).trans hc,hz⟩
theorem Hz (g:Nat) (n:Int) (hn:n<=256) (w:World) (h:Cod w g):Calls Tryz.prog 18 #[.pointer (some ⟨g,0,none⟩),.int .i64 n] w (Pz g n w):=by
 have hC:=h
 obtain⟨a,len,cap,at_,h1,h2,h3,h4⟩:=h
 have c0:w.cell? ⟨g,0,none⟩=some (.slice a len cap):=by rw[cell_of_row w g 0 _ _ _ h1];rfl
 have c1:w.cell? ⟨g,1,none⟩=some (.int .i64 at_):=by rw[cell_of_row w g 1 _ _ _ h1];rfl
 have f1:=frozen_of_row w g 1 _ _ h1
 by_cases hat:at_<len
 ·have d0:decide (len<=at_)=false:=by simp;omega
  by_cases hn1:n<1
  ·have HC:=Xj hC
   clear hC h1 h4
   go_enter Tryz.func18,Tryz.ntmps18
   go_wp2
   go_quiet (fail)
   go_wp2
   go_ret
   exact⟨0,rfl,by omega,by omega,HC.o.keep λ _ _=>rfl,Xr w _ _⟩
  obtain⟨b,off,rfl,hb,z,hz,hz0,hz1⟩:=h4 at_ hat
  have H4:=Xj h4
  have H1:=Xj h1
  clear hC h1 h4
  have i0:(0:Int)<=(at_:Int):=by omega
  have i1:(at_:Int)<(len:Int):=by omega
  have e2:decide ((256:Int)<n)=false:=by simp;omega
  have m0:0<=z%n:=Int.emod_nonneg _ (by omega)
  have m1:z%n<n:=Int.emod_lt_of_pos _ (by omega)
  go_enter Tryz.func18,Tryz.ntmps18
  go_wp2
  go_quiet (fail)
  go_wp2
  go_quiet (fail)
  go_wp2
  go_ret
  exact⟨z%n,rfl,m0,by omega,(Cod.step H1.o hat h3 H4.o).keep λ _ _=>rfl,Xp (Xr w _ _) (Xu _ g 1 _)⟩
 have d0:decide (len<=at_)=true:=by simp;omega
 have HC:=Xj hC
 clear hC h1 h4
 go_enter Tryz.func18,Tryz.ntmps18
 go_wp2
 go_quiet (fail)
 go_wp2
 go_ret
 exact⟨0,rfl,by omega,by omega,HC.o.keep λ _ _=>rfl,Xr w _ _⟩
theorem Yj (g:Nat) (n:Int) (hnm:n<=9223372036854775807) (w:World) (h:Cod w g):Calls Tryz.prog 18 #[.pointer (some ⟨g,0,none⟩),.int .i64 n] w (Pz g n w):=by
 by_cases hn:n<=256
 ·exact Hz g n hn w h
 have hC:=h
 obtain⟨a,len,cap,at_,h1,h2,h3,h4⟩:=h
 have c0:w.cell? ⟨g,0,none⟩=some (.slice a len cap):=by rw[cell_of_row w g 0 _ _ _ h1];rfl
 have c1:w.cell? ⟨g,1,none⟩=some (.int .i64 at_):=by rw[cell_of_row w g 1 _ _ _ h1];rfl
 have f1:=frozen_of_row w g 1 _ _ h1
 have hn1:¬ n<1:=by omega
 have e2:decide ((256:Int)<n)=true:=by simp;omega
 by_cases hat:at_<len
 ·have d0:decide (len<=at_)=false:=by simp;omega
  obtain⟨b,off,rfl,hb,z,hz,hz0,hz1⟩:=h4 at_ hat
  have H4:=Xj h4
  have H1:=Xj h1
  clear hC h1 h4
  have i0:(0:Int)<=(at_:Int):=by omega
  have i1:(at_:Int)<(len:Int):=by omega
  go_enter Tryz.func18,Tryz.ntmps18
  go_wp2_with fail
  go_quiet (fail)
  go_wp2_with fail
  go_quiet (fail)
  go_wp2_with fail
  refine(Hz g 256 (by omega) _ ?hc).mono ?_
  case hc=>exact(Cod.step H1.o hat h3 H4.o).keep λ _ _=>rfl
  rintro e w1 ⟨y,rfl,y0,y1,hH,hgr⟩
  have y2:y<256:=by omega
  have m0:0<=(256*z+y)%n:=Int.emod_nonneg _ (by omega)
  have m1:(256*z+y)%n<n:=Int.emod_lt_of_pos _ (by omega)
  go_wp2_with fail
  go_ret
  exact⟨(256*z+y)%n,rfl,m0,by omega,hH,Xp (Xp (Xr w _ _) (Xu _ g 1 _)) hgr⟩
 have d0:decide (len<=at_)=true:=by simp;omega
 have HC:=Xj hC
 clear hC h1 h4
 go_enter Tryz.func18,Tryz.ntmps18
 go_wp2_with fail
 go_quiet (fail)
 go_wp2_with fail
 go_ret
 exact⟨0,rfl,by omega,by omega,HC.o.keep λ _ _=>rfl,Xr w _ _⟩
def xzk (w:World) (e:Ending) (w':World):Prop:=∃ g,e=.returned (.pointer (some ⟨g,0,none⟩))/\w.heap.size<=g/\Cod w' g/\Below w.heap.size w w'
theorem Cod.new {w:World} {a:Option Addr} {len0 len cap:Nat} {zs:List Int} (hl:len<=len0) (hm:len0<=9223372036854775807)
  (h:∀ i,i<len0->∃ b off,a=some ⟨b,off,none⟩/\b<w.heap.size/\w.cell? ⟨b,off+i,none⟩=some (.int .u8 (zs.getD i 0))/\(Lit.int .u8 (zs.getD i 0)).wf=true) :
  Cod (w.alloc (.cells #[.slice a len cap,.int .i64 0] 55)) w.heap.size:=by
 refine⟨a,len,cap,0,heap_alloc_new w _,by omega,by omega,λ i hi=>?_⟩
 obtain⟨b,off,e,hb,hc,hw⟩:=h i (by omega)
 exact⟨b,off,e,hb,_,(World.cell?_of_block (w:=w) (Below.heap_alloc w _ b hb)).trans hc,bounds_u8 hw⟩
theorem xzw (a:Option Addr) (len cap:Nat) (zs:List Int) (most:Int) (hm0:0<=most) (hm:most<=9223372036854775807) (w:World) (h:Ew .u8 w a len cap zs) :
  Calls Tryz.prog 10 #[.slice a len cap,.int .i64 most] w (xzk w):=by
 obtain⟨hz,hlc,⟨hcm,_⟩,hjl⟩:=h
 unfold maxLen at hcm
 obtain⟨most,rfl⟩:=Int.eq_ofNat_of_zero_le hm0
 have H:=Xj hjl
 clear hjl
 by_cases hl:most<len
 ·have d0:decide ((most:Int)<(len:Int))=true:=by simp;omega
  go_enter Tryz.func10,Tryz.ntmps10
  go_wp2_with fail
  go_ret
  exact⟨w.heap.size,rfl,Nat.le_refl _,Cod.new (by omega) (by omega) H.o,(Below.refl _ _).alloc (Nat.le_refl _) _⟩
 have d0:decide ((most:Int)<(len:Int))=false:=by simp;omega
 go_enter Tryz.func10,Tryz.ntmps10
 go_wp2_with fail
 go_ret
 exact⟨w.heap.size,rfl,Nat.le_refl _,Cod.new (Nat.le_refl _) (by omega) H.o,(Below.refl _ _).alloc (Nat.le_refl _) _⟩
end Go.Proofs.YtldgghnjminhiaaGreatDoor
