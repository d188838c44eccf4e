/-
  SMALL LAWS on worlds, over any program: an array of integers in one block; what a call leaves as it was. No program in sight.
-/
import Derived.WalkKit
import Derived.ProofKit
import Derived.OpenShut
import Derived.Outline
import Derived.WalkLawsBesides
import Derived.WalkSpells
import Derived.BigQuiet
import Derived.BigRegion
import Derived.Deep.QuietTactic
import Derived.StillTailTactics
import Derived.Deep.LoopGhost
import Derived.Deep.CutRange
import Derived.Lib.Hide
import Derived.Lib.SmallJoins
import Derived.Deep.Slices
import Derived.Deep.Fields
import Derived.ChangeSame
import Derived.Laws.ResultCell
import Derived.Deep.AppendLies
import Derived.Deep.RegionHeld3
import Derived.Deep.DrawnRows
namespace Go.Proofs.YtpcdinelpfbpfaaDoor
open Go.ChangeShapes Go.WideShapes Go.ChangeAt Go.RowKit

def rowOf (n:Nat) (f:Nat->Int):Array Value:=((List.range n).map fun j=>Value.int .i64 (f j)).toArray
theorem rowOf_size (n:Nat) (f:Nat->Int):(rowOf n f).size=n:=by simp [rowOf]
theorem rowOf_get (n:Nat) (f:Nat->Int) (j:Nat) (h:j<n):(rowOf n f)[j]?=some (.int .i64 (f j)):=by simp [rowOf,h]
theorem rowOf_set (n:Nat) (f g:Nat->Int) (i:Nat) (v:Int) (hi:g i=v) (hg : ∀ j,j<n->j≠i->g j=f j):(rowOf n f).setIfInBounds i (.int .i64 v)=rowOf n g:=by
 apply Array.ext_getElem?
 intro j
 rw [Array.getElem?_setIfInBounds]
 by_cases hj:j<n
 ·by_cases e:i=j
  ·subst e
   rw [if_pos rfl,rowOf_get n g i hj,hi,if_pos (by simpa [rowOf_size] using hj)]
  ·rw [if_neg e,rowOf_get n f j hj,rowOf_get n g j hj,hg j hj (fun x=>e x.symm)]
 ·have h1:(rowOf n f)[j]?=none:=by simp [rowOf,hj]
  have h2:(rowOf n g)[j]?=none:=by simp [rowOf,hj]
  rw [h1,h2]
  split
  ·simp [rowOf_size];omega
  ·rfl
theorem rowOf_congr (n:Nat) (f g:Nat->Int) (h : ∀ j,j<n->f j=g j):rowOf n f=rowOf n g:=by
 unfold rowOf
 congr 1
 apply List.map_congr_left
 intro j hj
 rw [h j (by simpa using hj)]
theorem rowOf_oneCell (n:Nat) (f:Nat->Int):(rowOf n f).all (·.oneCell')=true:=by
 simp [rowOf,Value.oneCell']

def RowAt (w:World) (b:Nat) (t:TypeId) (n:Nat) (f:Nat->Int):Prop:=w.heap[b]?=some (.cells (rowOf n f) t (0,0))
theorem RowAt.cell {w:World} {b:Nat} {t:TypeId} {n:Nat} {f:Nat->Int} (h:RowAt w b t n f) (j:Nat) (hj:j<n):w.cell? ⟨b,j,none⟩=some (.int .i64 (f j)):=by
 rw [cell_of_row w b j _ t _ h,rowOf_get n f j hj]
theorem RowAt.frozen {w:World} {b:Nat} {t:TypeId} {n:Nat} {f:Nat->Int} (h:RowAt w b t n f) (j:Nat):w.frozen? ⟨b,j,none⟩=false:=frozen_of_row w b j _ t h
theorem RowAt.set {w:World} {b:Nat} {t:TypeId} {n:Nat} {f:Nat->Int} (h:RowAt w b t n f) (i:Nat) (v:Int) (g:Nat->Int) (hi:g i=v) (hg : ∀ j,j<n->j≠i->g j=f j):RowAt (w.setCell ⟨b,i,none⟩ (.int .i64 v)) b t n g:=by
 have:=heap_setCell_same w b i _ t (.int .i64 v) h
 rw [rowOf_set n f g i v hi hg] at this
 exact this
theorem RowAt.other {w:World} {b:Nat} {t:TypeId} {n:Nat} {f:Nat->Int} (h:RowAt w b t n f) (a:Addr) (v:Value) (hne:b≠a.block):RowAt (w.setCell a v) b t n f:=by
 unfold RowAt
 rw [heap_setCell_other w a b v hne]
 exact h
theorem RowAt.drew {w:World} {b:Nat} {t:TypeId} {n:Nat} {f:Nat->Int} (h:RowAt w b t n f):RowAt w.drew b t n f:=h
theorem RowAt.alloc {w:World} {b:Nat} {t:TypeId} {n:Nat} {f:Nat->Int} (h:RowAt w b t n f) (o:Obj):RowAt (w.alloc o) b t n f:=by
 unfold RowAt
 rw [Go.RowKit.Below.heap_alloc w o b (Array.getElem?_eq_some_iff.1 h).1]
 exact h
theorem RowAt.lt {w:World} {b:Nat} {t:TypeId} {n:Nat} {f:Nat->Int} (h:RowAt w b t n f):b<w.heap.size:=(Array.getElem?_eq_some_iff.1 h).1
theorem RowAt.congr {w:World} {b:Nat} {t:TypeId} {n:Nat} {f:Nat->Int} (h:RowAt w b t n f) (g:Nat->Int) (hg : ∀ j,j<n->f j=g j):RowAt w b t n g:=by
 unfold RowAt;rw [<- rowOf_congr n f g hg];exact h
theorem below_setRow {B:Nat} {a w:World} (h:Below B a w) {g:Nat} (hg:B<=g) (cs:Array Value):Below B a (w.setRow g cs) :=
 h.trans ⟨rfl,rfl,rfl,by simp,fun k hk=>setRow_other w g k cs (by omega)⟩
theorem below_drewN {B:Nat} {a w:World} (h:Below B a w) (n:Nat):Below B a (w.drewN n):=by
 exact⟨h.os,h.tape,h.output,h.size,h.block⟩
theorem bcell {W w1:World} (hb:Below W.heap.size W w1):(∀ b o,b<W.heap.size->w1.cell? ⟨b,o,none⟩=W.cell? ⟨b,o,none⟩)/\(∀ b o,b<W.heap.size->w1.frozen? ⟨b,o,none⟩=W.frozen? ⟨b,o,none⟩) :=
 ⟨fun b o h=>hb.cell (p:=⟨b,o,none⟩) h,fun b o h=>hb.frozen (p:=⟨b,o,none⟩) h⟩
structure Since (w:World):Type where
 val:World
 property:Below w.heap.size w val
theorem Since.cell {w:World} (x:Since w) {b o:Nat} {v:Value} (h:w.cell? ⟨b,o,none⟩=some v):x.val.cell? ⟨b,o,none⟩=some v :=
 (x.property.cell (p:=⟨b,o,none⟩) (block_lt_of_cell h)).trans h
instance (w:World):Nonempty (Since w):=⟨⟨w,Below.refl _ _⟩⟩
theorem wp_region_below {P:Program} {id:Nat} {Q:Exit->Act->World->Prop} {a:Act} {w:World} {l:List Oper} (hm:P.follows .mixedOrders=true) (hB:Region.lexB .any l.toArray=true)
  (h:wpQuiet P l.toArray (fun w' => ∃ x:Since w,w'=x.val) (fun a' => ∀ w',Below w.heap.size w w'->Q .normal a' w') l a):(Code.region id l.toArray true).wp P Q a w:=by
 refine wp_region_quiet (C:=fun w' => ∃ x:Since w,w'=x.val) hm hB ⟨⟨w.drew,(Below.refl _ _).drew⟩,rfl⟩ ?_
 have e:(fun a' => ∀ w',(∃ x:Since w,w'=x.val)->Q .normal a' w')=(fun a' => ∀ w',Below w.heap.size w w'->Q .normal a' w'):=by
  funext a'
  exact propext ⟨fun h w' hw=>h w' ⟨⟨w',hw⟩,rfl⟩,fun h w' ⟨x,hx⟩=>hx▸h _ x.property⟩
 rw [e]
 simpa using h
theorem calls_since {P:Program} {f:FuncId} {args:Array Value} {w:World} {v:Value} (x:Since w)
  (h:Calls P f args x.val fun e w'=>e=.returned v/\Below x.val.heap.size x.val w'):Calls P f args x.val fun e w''=>e=.returned v /\ ∃ y:Since w,w''=y.val :=
 h.mono fun _ w' ⟨he,hb⟩=>⟨he,⟨w',x.property.trans (hb.mono x.property.size)⟩,rfl⟩
theorem calls_since_same {P:Program} {f:FuncId} {args:Array Value} {w:World} {v:Value} (x:Since w)
  (h:Calls P f args x.val fun e w'=>e=.returned v/\w'=x.val):Calls P f args x.val fun e w''=>e=.returned v /\ ∃ y:Since w,w''=y.val :=
 h.mono fun _ _ ⟨he,hb⟩=>⟨he,x,hb⟩


def InInts (k:IntKind) (w:World) (a:Option Addr) (len cap:Nat) (zs:List Int):Prop :=
 zs.length=len/\len<=cap/\(cap<=maxLen/\(a=none->cap=0)) /\
 ∀ i,i<len -> ∃ b off,a=some ⟨b,off,none⟩/\b<w.heap.size/\w.cell? ⟨b,off+i,none⟩=some (.int k (zs.getD i 0))/\(Lit.int k (zs.getD i 0)).wf=true
theorem InInts.below {k:IntKind} {w w':World} {a:Option Addr} {len cap:Nat} {zs:List Int} (h:InInts k w a len cap zs) (hb:Below w.heap.size w w'):InInts k w' a len cap zs:=by
 obtain⟨h1,h2,h3,h4⟩:=h
 refine⟨h1,h2,h3,fun i hi=>?_⟩
 obtain⟨b,off,e,hlt,hc,hw⟩:=h4 i hi
 exact⟨b,off,e,by have:=hb.size;omega,(hb.cell (p:=⟨b,off+i,none⟩) hlt).trans hc,hw⟩
theorem in_ints {H:Type} {enc:TypeId×Value->H} {P:Program} {w:World} {r:Reach} {base b0:Nat} {spare:Nat->Bool} {held:Bool} {k:IntKind} {t e:TypeId} {v:Value} {d:DataW H} {p:List MemPlace}
  (ht:P.underlying t=some (.slice e)) (he:P.underlying e=some (.int k)) (hc:P.cellsOf e=1) (hv:Value.okWide P w r b0 t v) (h:DataW.Trod enc P w base spare held t v d p) :
  ∃ (a:Option Addr) (len cap:Nat) (zs:List Int),v=.slice a len cap/\InInts k w a len cap zs:=by
 obtain⟨a,len,cap,rfl⟩:=okWide_slice ht hv
 obtain⟨fuel,hf⟩:=h
 rcases open_ints ht he hc hf with⟨hcs,_⟩ | ⟨x,l,c,zs,hcs,_,hl,hm,hz,_,hcell,hwz⟩
 ·simp [Value.cells] at hcs
  obtain⟨rfl,rfl,rfl⟩:=hcs
  exact⟨none,0,0,[],rfl,rfl,Nat.le_refl _,⟨by simp [maxLen],fun _=>rfl⟩,fun i hi=>absurd hi (by omega)⟩
 ·simp [Value.cells] at hcs
  obtain⟨rfl,rfl,rfl⟩:=hcs
  have hz':len<=zs.length:=by rw [hz];split <;> omega
  refine⟨_,_,_,zs.take len,rfl,?_,hl,⟨hm,fun e=>by cases e⟩,?_⟩
  ·rw [List.length_take];omega
  ·intro i hi
   have hiz:i<zs.length:=by omega
   have h1:=hcell i hiz
   obtain⟨b,off,spot⟩:=x
   have hspot:spot=none:=by
    by_cases h0:spot.isSome
    ·have hc0:=hcell 0 (by omega)
     simpa [Addr.add] using World.cell?_spot hc0
    ·simpa using h0
   subst hspot
   have hadd:(⟨b,off,none⟩:Addr).add i=⟨b,off+i,none⟩:=by unfold Addr.add;split <;> simp_all
   rw [hadd] at h1
   have hg:(zs.take len).getD i 0=zs.getD i 0:=by simp [List.getD,hi]
   refine⟨b,off,rfl,block_lt_of_cell h1,by rw [hg];exact h1,?_⟩
   rw [hg]
   have:zs.getD i 0∈zs:=by simp [List.getD,List.getElem?_eq_getElem hiz]
   exact hwz _ this
open Go.Deep in
theorem in_pair {H:Type} {enc:TypeId×Value->H} {P:Program} {w:World} {r:Reach} {base b0:Nat} {spare:Nat->Bool} {held:Bool} {k0 k1:IntKind} {t:TypeId} {f0 f1:Field} {v:Value} {d:DataW H} {p:List MemPlace}
  (ht:P.underlying t=some (.struct #[f0,f1])) (hone:oneCellFields P #[f0,f1]=true) (hC:P.cellsOf t=2) (h0:P.underlying f0.type=some (.int k0)) (h1:P.underlying f1.type=some (.int k1))
  (hv:Value.okWide P w r b0 t v) (h:DataW.Trod enc P w base spare held t v d p) :
  ∃ a b:Int,v=.agg #[.int k0 a,.int k1 b]/\(Lit.int k0 a).wf=true/\(Lit.int k1 b).wf=true:=by
 obtain⟨c0,c1,y0,y1,m,rfl,_,_,hy0,hy1⟩:=Go.Joins.open_agg2 ht hone hC hv h
 obtain⟨a,e0,_,wa⟩:=DataW.trod_int h0 hy0
 obtain⟨b,e1,_,wb⟩:=DataW.trod_int h1 hy1
 simp at e0 e1
 subst e0 e1
 exact⟨a,b,rfl,wa,wb⟩

def InPairs (w:World) (a:Option Addr) (len cap:Nat) (zs:List (Int×Int)):Prop :=
 zs.length=len/\len<=cap/\cap<=maxLen /\
 ∀ i,i<len -> ∃ b off,a=some ⟨b,off,none⟩/\b<w.heap.size/\w.cell? ⟨b,off+i * 2,none⟩=some (.int .i64 (zs.getD i (0,0)).1)/\w.cell? ⟨b,off+i * 2+1,none⟩=some (.int .i64 (zs.getD i (0,0)).2) /\
  (Lit.int .i64 (zs.getD i (0,0)).1).wf=true/\(Lit.int .i64 (zs.getD i (0,0)).2).wf=true
theorem InPairs.below {w w':World} {a:Option Addr} {len cap:Nat} {zs:List (Int×Int)} (h:InPairs w a len cap zs) (hb:Below w.heap.size w w'):InPairs w' a len cap zs:=by
 obtain⟨h1,h2,h3,h4⟩:=h
 refine⟨h1,h2,h3,fun i hi=>?_⟩
 obtain⟨b,off,e,hlt,hc,hd,hw⟩:=h4 i hi
 exact⟨b,off,e,by have:=hb.size;omega,(hb.cell (p:=⟨b,off+i * 2,none⟩) hlt).trans hc,(hb.cell (p:=⟨b,off+i * 2+1,none⟩) hlt).trans hd,hw⟩

open Go.Deep in
theorem in_pairs {H:Type} {enc:TypeId×Value->H} {P:Program} {w:World} {r:Reach} {base b0:Nat} {spare:Nat->Bool} {held:Bool} {t e:TypeId} {f0 f1:Field} {v:Value} {d:DataW H} {p:List MemPlace}
  (ht:P.underlying t=some (.slice e)) (he:P.underlying e=some (.struct #[f0,f1])) (hone:oneCellFields P #[f0,f1]=true) (hC:P.cellsOf e=2) (h0:P.underlying f0.type=some (.int .i64)) (h1:P.underlying f1.type=some (.int .i64))
  (hv:Value.okWide P w r b0 t v) (h:DataW.Trod enc P w base spare held t v d p) :
  ∃ (a:Option Addr) (len cap:Nat) (zs:List (Int×Int)),v=.slice a len cap/\InPairs w a len cap zs:=by
 obtain⟨a,len,cap,rfl⟩:=okWide_slice ht hv
 obtain⟨fuel,hf⟩:=h
 rcases open_slice ht hf with⟨hcs,_⟩ | ⟨x,l,c,m,n,D,Pl,hcs,hb,hl,hm,hmm,hx,hi⟩
 ·simp [Value.cells] at hcs
  obtain⟨rfl,rfl,rfl⟩:=hcs
  exact⟨none,0,0,[],rfl,rfl,Nat.le_refl _,by simp [maxLen],fun i hi=>absurd hi (by omega)⟩
 ·simp [Value.cells] at hcs
  obtain⟨rfl,rfl,rfl⟩:=hcs
  have key : ∀ i,i<len -> ∃ a b:Int,w.cell? (x.add (i * 2))=some (.int .i64 a)/\w.cell? (x.add (i * 2+1))=some (.int .i64 b)/\(Lit.int .i64 a).wf=true/\(Lit.int .i64 b).wf=true:=by
   intro i hil
   have him:i<m:=by rw [hmm];split <;> omega
   obtain⟨cs',hc,ht'⟩:=hi i him
   rw [hC] at hc
   obtain⟨ys,n',hn',hy,hlen,hyl,hfl⟩:=DataW.trod_struct he ht'
   obtain⟨_,hcl,hat⟩:=World.cells?_some hc
   match cs',hcl with
   | [c0,c1],_ =>
    match ys,hyl with
    | [y0,y1],_ =>
     obtain⟨o0,q0⟩:=hone_of hone 0 f0 rfl
     obtain⟨o1,q1⟩:=hone_of hone 1 f1 rfl
     have g0:=hfl 0 f0 rfl
     have g1:=hfl 1 f1 rfl
     rw [o0,q0] at g0
     rw [o1,q1] at g1
     obtain⟨a,e0,_,wa⟩:=DataW.trod_int h0 g0
     obtain⟨b,e1,_,wb⟩:=DataW.trod_int h1 g1
     simp at e0 e1
     subst e0 e1
     have t0:=hat (i:=0) (by omega)
     have t1:=hat (i:=1) (by omega)
     rw [Go.Deep.add_add] at t0 t1
     exact⟨a,b,by simpa using t0,by simpa using t1,wa,wb⟩
  obtain⟨f,hf⟩ : ∃ f:Nat->Int×Int,∀ i,i<len->w.cell? (x.add (i * 2))=some (.int .i64 (f i).1)/\w.cell? (x.add (i * 2+1))=some (.int .i64 (f i).2)/\(Lit.int .i64 (f i).1).wf=true/\(Lit.int .i64 (f i).2).wf=true:=by
   have hch : ∀ i,∃ q:Int×Int,i<len->w.cell? (x.add (i * 2))=some (.int .i64 q.1)/\w.cell? (x.add (i * 2+1))=some (.int .i64 q.2)/\(Lit.int .i64 q.1).wf=true/\(Lit.int .i64 q.2).wf=true:=by
    intro i
    by_cases hil:i<len
    ·obtain⟨a,b,h1,h2,h3,h4⟩:=key i hil
     exact⟨(a,b),fun _=>⟨h1,h2,h3,h4⟩⟩
    ·exact⟨(0,0),fun h=>absurd h hil⟩
   exact⟨fun i=>Classical.choose (hch i),fun i=>Classical.choose_spec (hch i)⟩
  refine⟨_,_,_,(List.range len).map f,rfl,by simp,hl,hm,fun i hil=>?_⟩
  obtain⟨h1,h2,h3,h4⟩:=hf i hil
  have hg:((List.range len).map f).getD i (0,0)=f i:=by simp [List.getD,hil]
  obtain⟨b,off,spot⟩:=x
  have hspot:spot=none:=by
   obtain⟨g1,g2,_⟩:=hf 0 (by omega)
   simpa [Addr.add] using World.cell?_spot g1
  subst hspot
  have hadd : ∀ q,(⟨b,off,none⟩:Addr).add q=⟨b,off+q,none⟩:=by intro q;unfold Addr.add;split <;> simp_all
  rw [hadd] at h1 h2
  refine⟨b,off,rfl,block_lt_of_cell h1,?_⟩
  rw [hg]
  exact⟨h1,h2,h3,h4⟩
end Go.Proofs.YtpcdinelpfbpfaaDoor
