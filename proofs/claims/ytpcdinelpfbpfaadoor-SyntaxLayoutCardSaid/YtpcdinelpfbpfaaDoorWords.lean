/-
  SMALL WORDS on slices that are read: a slice's cells are a list. No program in sight. (Filled in from a template of this repo.)
-/
import Derived.Test.YtpcdinelpfbpfaaDoorBase
import Derived.OwnWalk
import Derived.Laws.AppendOwnNone
namespace Go.Proofs.YtpcdinelpfbpfaaDoor
open Go.ChangeShapes Go.WideShapes Go.ChangeAt Go.RowKit

def Cells (w:World) (a:Option Addr) (xs:List Value):Prop :=
 xs≠[] -> ∃ b off,a=some ⟨b,off,none⟩/\b<w.heap.size /\ ∀ j u,xs[j]?=some u->w.cell? ⟨b,off+j,none⟩=some u
theorem Cells.nil (w:World) (a:Option Addr):Cells w a []:=fun h=>absurd rfl h
theorem Cells.below {w w':World} {a:Option Addr} {xs:List Value} (h:Cells w a xs) (hb:Below w.heap.size w w'):Cells w' a xs:=by
 intro hx
 obtain⟨b,off,e,hlt,hc⟩:=h hx
 exact⟨b,off,e,by have:=hb.size;omega,fun j u hj=>(hb.cell (p:=⟨b,off+j,none⟩) hlt).trans (hc j u hj)⟩
theorem Cells.grown {w w':World} {a:Option Addr} {xs:List Value} {row:Option Nat} (h:Cells w a xs) (hg:w.grownBy w' row) (hr : ∀ x k,a=some x->row=some k->x.block≠k):Cells w' a xs:=by
 intro hx
 obtain⟨b,off,e,hlt,hc⟩:=h hx
 refine⟨b,off,e,by have:=hg.size;omega,fun j u hj=>?_⟩
 exact(World.cell?_of_block (w:=w) (hg.block b hlt (fun e2=>hr _ b e e2.symm rfl))).trans (hc j u hj)
theorem add_none (g o q:Nat):(⟨g,o,none⟩:Addr).add q=⟨g,o+q,none⟩:=by unfold Addr.add;split <;> simp_all
theorem Cells.of_own {w:World} {base n e size:Nat} {v:Value} {xs:List Value} (h:w.ownsRow base e size v n xs) :
  ∃ a cap,v=.slice a n cap/\xs.length=n * size/\n<=cap/\cap<=maxLen/\Cells w a xs /\ ∀ x,a=some x->base<=x.block:=by
 have hn:=h.1
 rcases h.2 with⟨rfl,h0⟩ | ⟨g,cap,cur,rfl,hb,hg,hc,hm,hz,ht⟩
 ·subst h0
  obtain rfl:xs=[]:=List.eq_nil_of_length_eq_zero (by simpa using hn)
  exact⟨none,0,rfl,hn,by omega,by simp [maxLen],Cells.nil _ _,fun x hx=>by cases hx⟩
 ·refine⟨_,cap,rfl,hn,hc,hm,fun _=>⟨g,0,rfl,(Array.getElem?_eq_some_iff.1 hg).1,fun j u hj=>?_⟩,fun x hx=>by injection hx with hx;subst hx;exact hb⟩
  have:=h.cells (g:=g) rfl j u hj
  rwa [add_none] at this
theorem own_block {w:World} {base n e size:Nat} {v:Value} {xs:List Value} (h:w.ownsRow base e size v n xs) (hx:xs≠[]) :
  ∃ g cap,v=.slice (some ⟨g,0,none⟩) n cap/\base<=g/\g<w.heap.size/\n<=cap/\cap<=maxLen/\xs.length=n * size /\ ∀ j u,xs[j]?=some u->w.cell? ⟨g,j,none⟩=some u:=by
 have hn:=h.1
 rcases h.2 with⟨rfl,h0⟩ | ⟨g,cap,cur,rfl,hb,hg,hc,hm,hz,ht⟩
 ·exact absurd (List.eq_nil_of_length_eq_zero (by rw [hn,h0,Nat.zero_mul])) hx
 ·refine⟨g,cap,rfl,hb,(Array.getElem?_eq_some_iff.1 hg).1,hc,hm,hn,fun j u hj=>?_⟩
  have:=h.cells (g:=g) rfl j u hj
  rwa [add_none,Nat.zero_add] at this

abbrev ints (zs:List Int):List Value:=zs.map (Value.int .i64)
theorem ints_get (zs:List Int) (j:Nat) (h:j<zs.length):(ints zs)[j]?=some (.int .i64 (zs.getD j 0)):=by simp [List.getD,h]
theorem ints_ne (zs:List Int) (j:Nat) (h:j<zs.length):ints zs≠[]:=by
 intro e;have:=congrArg List.length e;simp at this;subst this;simp at h
theorem ints_one (zs:List Int) : ∀ v∈ints zs,v.oneCell'=true:=by intro v hv;simp at hv;obtain⟨z,_,rfl⟩:=hv;rfl
theorem Cells.int {w:World} {a:Option Addr} {zs:List Int} (h:Cells w a (ints zs)) (j:Nat) (hj:j<zs.length) :
  ∃ b off,a=some ⟨b,off,none⟩/\b<w.heap.size /\ ∀ i,i<zs.length->w.cell? ⟨b,off+i,none⟩=some (.int .i64 (zs.getD i 0)):=by
 obtain⟨b,off,e,hb,hc⟩:=h (ints_ne zs j hj)
 exact⟨b,off,e,hb,fun i hi=>hc i _ (ints_get zs i hi)⟩
abbrev bools (zs:List Bool):List Value:=zs.map Value.bool
theorem bools_get (zs:List Bool) (j:Nat) (h:j<zs.length):(bools zs)[j]?=some (.bool (zs.getD j false)):=by simp [List.getD,h]
theorem bools_ne (zs:List Bool) (j:Nat) (h:j<zs.length):bools zs≠[]:=by
 intro e;have:=congrArg List.length e;simp at this;subst this;simp at h
theorem Cells.bool {w:World} {a:Option Addr} {zs:List Bool} (h:Cells w a (bools zs)) (j:Nat) (hj:j<zs.length) :
  ∃ b off,a=some ⟨b,off,none⟩/\b<w.heap.size /\ ∀ i,i<zs.length->w.cell? ⟨b,off+i,none⟩=some (.bool (zs.getD i false)):=by
 obtain⟨b,off,e,hb,hc⟩:=h (bools_ne zs j hj)
 exact⟨b,off,e,hb,fun i hi=>hc i _ (bools_get zs i hi)⟩
abbrev byts (zs:List Nat):List Value:=zs.map fun (z:Nat)=>Value.int .u8 ((z:Nat):Int)
def Byt (zs:List Nat):Prop := ∀ x∈zs,x<256
theorem Byt.get {zs:List Nat} (h:Byt zs) (i:Nat):zs.getD i 0<256:=by
 by_cases hi:i<zs.length
 ·exact h (zs.getD i 0) (by simp [List.getD,hi])
 ·simp [List.getD,hi]
theorem Byt.nil:Byt []:=fun _ h=>by cases h
theorem Byt.append {xs ys:List Nat} (h:Byt xs) (k:Byt ys):Byt (xs++ys):=fun x hx=>by
 rw [List.mem_append] at hx;rcases hx with hx | hx;exact h x hx;exact k x hx
theorem Byt.one {x:Nat} (h:x<256):Byt [x]:=fun y hy=>by simp at hy;omega
theorem Byt.take {xs:List Nat} (h:Byt xs) (k:Nat):Byt (xs.take k):=fun x hx=>h x (List.mem_of_mem_take hx)
theorem Byt.drop {xs:List Nat} (h:Byt xs) (k:Nat):Byt (xs.drop k):=fun x hx=>h x (List.mem_of_mem_drop hx)
theorem byts_get (zs:List Nat) (j:Nat) (h:j<zs.length):(byts zs)[j]?=some (.int .u8 ((zs.getD j 0:Nat):Int)):=by simp [List.getD,h]
theorem byts_ne (zs:List Nat) (j:Nat) (h:j<zs.length):byts zs≠[]:=by
 intro e;have:=congrArg List.length e;simp at this;subst this;simp at h
theorem byts_one (zs:List Nat) : ∀ v∈byts zs,v.oneCell'=true:=by intro v hv;simp at hv;obtain⟨z,_,rfl⟩:=hv;rfl
theorem byts_append (xs ys:List Nat):byts (xs++ys)=byts xs++byts ys:=by simp
theorem Cells.byt {w:World} {a:Option Addr} {zs:List Nat} (h:Cells w a (byts zs)) (j:Nat) (hj:j<zs.length) :
  ∃ b off,a=some ⟨b,off,none⟩/\b<w.heap.size /\ ∀ i,i<zs.length->w.cell? ⟨b,off+i,none⟩=some (.int .u8 ((zs.getD i 0:Nat):Int)):=by
 obtain⟨b,off,e,hb,hc⟩:=h (byts_ne zs j hj)
 exact⟨b,off,e,hb,fun i hi=>hc i _ (byts_get zs i hi)⟩
def Bs (w:World) (a:Option Addr) (n cap:Nat) (zs:List Nat):Prop:=zs.length=n/\n<=cap/\cap<=maxLen/\(a=none->cap=0)/\Cells w a (byts zs)
theorem Bs.below {w w':World} {a:Option Addr} {n cap:Nat} {zs:List Nat} (h:Bs w a n cap zs) (hb:Below w.heap.size w w'):Bs w' a n cap zs:=⟨h.1,h.2.1,h.2.2.1,h.2.2.2.1,h.2.2.2.2.below hb⟩
theorem own_nil {w:World} {base n e size:Nat} {a:Option Addr} {cap:Nat} {xs:List Value} (h:w.ownsRow base e size (.slice a n cap) n xs):a=none->cap=0:=by
 intro ha
 rcases h.2 with⟨h1,_⟩ | ⟨g,c,cur,h1,_⟩
 ·injection h1
 ·subst ha;injection h1 with h1;cases h1
theorem Bs.of_own {w:World} {base n e:Nat} {v:Value} {zs:List Nat} (h:w.ownsRow base e 1 v n (byts zs)) : ∃ a cap,v=.slice a n cap/\Bs w a n cap zs:=by
 obtain⟨a,cap,rfl,h1,h2,h3,h4,_⟩:=Cells.of_own h
 exact⟨a,cap,rfl,by simpa using h1,h2,h3,own_nil h,h4⟩
theorem cells_at {w:World} {a:Addr} {xs:List Value} (h:Cells w (some a) xs) : ∀ j u,xs[j]?=some u->w.cell? (a.add j)=some u:=by
 intro j u hj
 obtain⟨b,off,e,_,hc⟩:=h (fun e=>by rw [e] at hj;cases hj)
 injection e with e
 subst e
 rw [add_none]
 exact hc j u hj
theorem wpList_append_src {P:Program} {w:World} {ops:Array Oper} {rest:List Oper} {o:Oper} {a:Act} {Q:Exit->Act->World->Prop} (hgd:o.guard=none) (s x:Operand) (t:TypeId)
  (ho:o.op=.call { callee:=.builtin .append,args := #[s,x],argTypes := #[t,t] })
  (base:Nat) (e:TypeId) (i:TypeInfo) (z:Value) (size bytes:Nat) (ht:P.underlying t=some (.slice e)) (hi:P.info? e=some i) (hz:i.zero=some z)
  (hsize:i.size=size) (hby:i.bytes=bytes) (hzs:z.cells.size=size) (hsz:0<size)
  (v:Value) (n:Nat) (xs:List Value) (hs:a.eval s=v) (hown:w.ownsRow base e size v n xs)
  (ad:Option Addr) (m c:Nat) (news:List Value) (hx:a.eval x=.slice ad m c) (hmc:m<=c) (hnil:ad=none->c=0) (hl:news.length=m * size) (hnews:Cells w ad news) (h1 : ∀ u∈news,u.oneCell'=true)
  (h63:n+m<=maxLen) (hbytes:(n+m) * bytes<=140737488355328) (hbase:base<=w.heap.size)
  (h : ∀ v' w',w'.ownsRow base e size v' (n+m) (xs++news)->w.grownBy w' v.ownBlock->wpList P ops Q rest (a.put o.dst v') w'):wpList P ops Q (o::rest) a w:=by
 cases ad with
 | none =>
  have hc:=hnil rfl
  subst hc
  obtain rfl:m=0:=by omega
  obtain rfl:news=[]:=List.eq_nil_of_length_eq_zero (by simpa using hl)
  exact wpList_append_own_none hgd s x t ho base e i size ht hi v n xs hs hown hx (h v w (by simpa using hown) ⟨rfl,rfl,rfl,Nat.le_refl _,fun _ _ _=>rfl⟩)
 | some ad =>
  exact wpList_append_own w hgd s x t ho base e i z size bytes ht hi hz hsize hby hzs hsz v n xs hs hown ad m c news hx hl (cells_at hnews) h1 h63 hbytes hbase (fun v' w' a b _=>h v' w' a b)
theorem in_byts {w:World} {a:Option Addr} {len cap:Nat} {zs:List Int} (h:InInts .u8 w a len cap zs) : ∃ ns:List Nat,ns.length=len/\Byt ns/\Bs w a len cap ns:=by
 obtain⟨h1,h2,⟨h3,h5⟩,h4⟩:=h
 have hg : ∀ i,(zs.map Int.toNat).getD i 0=(zs.getD i 0).toNat:=by
  intro i
  by_cases hi:i<zs.length <;> simp [List.getD,hi]
 refine⟨zs.map Int.toNat,by simpa using h1,?_,by simpa using h1,h2,h3,h5,?_⟩
 ·intro x hx
  obtain⟨i,hi,rfl⟩:=List.mem_iff_getElem.1 hx
  have hi':i<len:=by simpa [h1] using hi
  obtain⟨b,off,_,_,_,hw⟩:=h4 i hi'
  have:=bounds_u8 hw
  have e:=hg i
  simp only [List.getD] at e this
  rw [List.getElem?_eq_getElem hi] at e
  simp only [Option.getD_some] at e
  rw [e];omega
 ·intro hne
  have h0:0<len:=by
   rcases Nat.eq_zero_or_pos len with h | h
   ·have:zs=[]:=List.eq_nil_of_length_eq_zero (by omega)
    subst this;exact absurd rfl hne
   ·exact h
  obtain⟨b,off,e,hb,_⟩:=h4 0 h0
  refine⟨b,off,e,hb,fun j u hj=>?_⟩
  have hjl:j<len:=by have:=(List.getElem?_eq_some_iff.1 hj).1;simpa [h1] using this
  obtain⟨b',off',e',_,hc,hw⟩:=h4 j hjl
  have hbd:=bounds_u8 hw
  rw [byts_get _ j (by simpa [h1] using hjl),hg j] at hj
  injection hj with hj
  rw [e] at e'
  injection e' with e'
  injection e' with e1 e2
  subst e1 e2
  rw [hc,<- hj]
  congr 2
  omega
theorem grownBy_own {a b c:World} {g:Nat} {row:Option Nat} (h:a.grownBy b (some g)) (k:b.grownBy c row) (hr : ∀ k,row=some k->a.heap.size<=k):a.grownBy c (some g) :=
 ⟨k.os.trans h.os,k.tape.trans h.tape,k.output.trans h.output,Nat.le_trans h.size k.size,fun i hi hn =>
  (k.block i (by have:=h.size;omega) (fun e=>by have:=hr i e.symm;omega)).trans (h.block i hi hn)⟩
end Go.Proofs.YtpcdinelpfbpfaaDoor
